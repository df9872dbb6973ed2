/- A part of the proof of ManifestTells: the law returns true for every input, and its arguments read as before. No condition. -/
import Derived.Test.YthflaibfpmgkfaaGreatProg
import Derived.Laws.BitsAllLaws
import Derived.Test.YthflaibfpmgkfaaGreatComE
set_option linter.unusedSimpArgs false
set_option linter.unusedVariables false
set_option linter.unusedSectionVars false
noncomputable section
namespace Go.Rx
theorem qcY {α R:Type} (n:α→Option R):∀ t:Tree α,t.run n=(t.run some).bind n
  | .ret a=>rfl
  | .no=>rfl
  | .cond b s t=>by
    simp only [Tree.run]
    cases b
    · exact qcY n t
    · exact qcY n s
  | @Tree.chk _ p d t=>by
    simp only [Tree.run,chk]
    split
    · exact qcY n t
    · rfl
  | .bind o k=>by
    simp only [Tree.run]
    cases o with
    | none=>rfl
    | some x=>exact qcY n (k x)
  | .opt o s k=>by
    simp only [Tree.run]
    cases o with
    | none=>exact qcY n s
    | some x=>exact qcY n (k x)
  | .sum x f g=>by
    cases x with
    | inl a=>exact qcY n (f a)
    | inr b=>exact qcY n (g b)
section r
variable {α R:Type} {n:α→Option R}
theorem ql {a:α}:(Tree.ret a).run n=n a:=rfl
theorem qj {b:Bool} {s t:Tree α}:(Tree.cond b s t).run n=bif b then s.run n else t.run n:=rfl
theorem qg {p:Prop} [Decidable p] {t:Tree α}:(Tree.chk p t).run n=chk p (t.run n):=rfl
theorem run_bind {β:Type} {o:Option β} {k:β→Tree α}:(Tree.bind o k).run n=o.bind fun x=>(k x).run n:=rfl
theorem qrx {β γ:Type} {x:β} {f:β→Tree α} {g:γ→Tree α}:(Tree.sum (.inl x) f g).run n=(f x).run n:=rfl
theorem qmV {β γ:Type} {x:γ} {f:β→Tree α} {g:γ→Tree α}:(Tree.sum (.inr x) f g).run n=(g x).run n:=rfl
end r
theorem Z1 {V W Y:Type} {B:V→Tree (V⊕W)} {g:W→Option Y} {v v':V} (h:(B v).run some=some (.inl v')) (N:Nat):loopG B g (N + 1) v=loopG B g N v':=by
  simp only [loopG]
  rw [qcY,h]; rfl
theorem qX {V W Y:Type} {B:V→Tree (V⊕W)} {g:W→Option Y} {v:V} {x:W} (h:(B v).run some=some (.inr x)) (N:Nat):loopG B g (N + 1) v=g x:=by
  simp only [loopG]
  rw [qcY,h]; rfl
theorem qd7 {V W Y : Type} {B : V → Tree (V ⊕ W)} {g : W → Option Y} {I : V → Prop} {Q : Y → Prop} (m : V → Nat)
    (h:∀ v,I v→(∃ v',(B v).run some=some (.inl v')∧I v'∧m v' < m v)∨∃ x y,(B v).run some=some (.inr x)∧g x=some y∧Q y) :
    ∀ (N:Nat) (v:V),I v→m v < N→∃ y,loopG B g N v=some y∧Q y
  | 0,v,_,hm=>by omega
  | N + 1,v,hi,hm=>by
    rcases h v hi with ⟨v',h1,h2,h3⟩ | ⟨x,y,h1,h2,h3⟩
    · rw [Z1 h1]
      exact qd7 m h N v' h2 (by omega)
    · rw [qX h1]
      exact ⟨y,h2,h3⟩
theorem qs4 {W Y : Type} {B : Int → Tree (Int ⊕ W)} {g : W → Option Y} {p : Nat → Bool} {n : Nat} {hit : Nat → W} {fin : W}
    (h1:∀ k,k < n→(B (k:Int)).run some=some (if p k then .inr (hit k) else .inl ((k + 1:Nat):Int))) (h2:(B (n:Int)).run some=some (.inr fin)) :
    ∀ (N k:Nat),k≤n→n < N + k→loopG B g N (k:Int)=g (match firstF p (n - k) k with | some j=>hit j | none=>fin)
  | 0,k,hk,hN=>by omega
  | N + 1,k,hk,hN=>by
    by_cases e:k=n
    · subst e
      rw [qX h2,Nat.sub_self]; rfl
    · obtain ⟨m,hm⟩:∃ m,n - k=m + 1:=⟨n - k - 1,by omega⟩
      have h3:=h1 k (by omega)
      rw [hm]
      unfold firstF
      cases hp:p k with
      | true=>
        rw [hp,if_pos rfl] at h3
        rw [qX h3,if_pos rfl]
      | false=>
        rw [hp,if_neg (by simp)] at h3
        rw [Z1 h3,qs4 h1 h2 N (k + 1) (by omega) (by omega),if_neg (by simp),show n - (k + 1)=m by omega]
def qy {σ:Type} (f:Nat→σ→σ):Nat→Nat→σ→σ
  | 0,_,s=>s
  | m + 1,k,s=>qy f m (k + 1) (f k s)
theorem qz {σ W Y : Type} {V : Type} {B : V → Tree (V ⊕ W)} {g : W → Option Y} {at_ : Nat → σ → V} {I : Nat → σ → Prop} {f : Nat → σ → σ} {n : Nat} {fin : σ → W}
    (h1:∀ k s,k < n→I k s→(B (at_ k s)).run some=some (.inl (at_ (k + 1) (f k s)))∧I (k + 1) (f k s)) (h2:∀ s,I n s→(B (at_ n s)).run some=some (.inr (fin s))) :
    ∀ (N k:Nat) (s:σ),I k s→k≤n→n < N + k→loopG B g N (at_ k s)=g (fin (qy f (n - k) k s))
  | 0,k,s,_,hk,hN=>by omega
  | N + 1,k,s,hi,hk,hN=>by
    by_cases e:k=n
    · subst e
      rw [qX (h2 s hi),Nat.sub_self]; rfl
    · obtain ⟨m,hm⟩:∃ m,n - k=m + 1:=⟨n - k - 1,by omega⟩
      obtain ⟨h3,h4⟩:=h1 k s (by omega) hi
      rw [Z1 h3,qz h1 h2 N (k + 1) _ h4 (by omega) (by omega),hm,show n - (k + 1)=m by omega]
      rfl
theorem qzj {α:Type} {l:List α} {k:Nat} (h:k < l.length):getV l l.length k=some l[k]:=by
  unfold getV; rw [if_pos rfl,List.getElem?_eq_getElem h]
theorem qz0 {α:Type} {l:List α} {k n:Nat} {d:α} (hn:l.length=n) (h:k < l.length):getV l n k=some (l.getD k d):=by
  unfold getV; rw [if_pos hn,List.getElem?_eq_getElem h]; simp [List.getD,List.getElem?_eq_getElem h]
theorem qa {α:Type} {p:Prop} [Decidable p] {x:Option α} (h:p):chk p x=x:=if_pos h
theorem qok {Z:Type} (o:Option Z):chkLs [] o=o:=rfl
theorem qS {Z:Type} {a b:Nat} {ps:List (Nat×Nat)} {o:Option Z} (h:a=b):chkLs ((a,b)::ps) o=chkLs ps o:=if_pos h
theorem qAy {n:Int} (h1:-1000000000≤n) (h2:n≤1000000000):in64 n:=by unfold in64; omega
theorem qAu {k:Int} {m:List (Int×Bool×Nat)} (h:valM k m=none):fnd (β:=Bool) (.i .i64) k m=none:=by
  have:fnd (β:=Bool) (.i .i64) k m=findM k m:=by
    unfold fnd
    congr 1
  rw [this]; exact find_none h
theorem qAt {k:Int} {m:List (Int×Bool×Nat)} {x:Bool} (h:valM k m=some x):∃ c,fnd (β:=Bool) (.i .i64) k m=some (x,c):=by
  have:fnd (β:=Bool) (.i .i64) k m=findM k m:=by
    unfold fnd
    congr 1
  rw [this]; exact find_some h
end Go.Rx
end
noncomputable section
namespace Go.Rx
def qo:Ty:=.ag [.i .i64,.i .i64]
abbrev qc:=Int×Int
def qc.N (x:qc):Int:=x.1
def qc.Rep (x:qc):Int:=x.2
def qc.mk (x0:Int) (x1:Int):qc:=(x0,x1)
instance qc.dec:DecidableEq qc:=decE qo
def q8:Ty:=.ag [qo,.s]
abbrev qr:=qc×List UInt8
def qr.S (x:qr):qc:=x.1
def qr.V (x:qr):List UInt8:=x.2
def qr.mk (x0:qc) (x1:List UInt8):qr:=(x0,x1)
instance qr.dec:DecidableEq qr:=decE q8
def qM:Ty:=.ag [.i .i64,q8]
abbrev qk:=Int×qr
def qk.No (x:qk):Int:=x.1
def qk.C (x:qk):qr:=x.2
def qk.mk (x0:Int) (x1:qr):qk:=(x0,x1)
instance qk.dec:DecidableEq qk:=decE qM
def qv:Ty:=.ag [.ba 16,qo,.sl 4 qM]
abbrev qf:=Vector UInt8 16×qc×List qk
def qf.ID (x:qf):Vector UInt8 16:=x.1
def qf.Dead (x:qf):qc:=x.2.1
def qf.F (x:qf):List qk:=x.2.2
def qf.mk (x0:Vector UInt8 16) (x1:qc) (x2:List qk):qf:=(x0,x1,x2)
instance qf.dec:DecidableEq qf:=decE qv
def qt:Ty:=.ag [.sl 19 qv]
abbrev qh:=List qf
def qh.R (x:qh):List qf:=x
def qh.mk (x0:List qf):qh:=(x0)
instance qh.dec:DecidableEq qh:=decE qt
def qu:Ty:=.ag [.i .u32,.ba 32]
abbrev qp:=Int×Vector UInt8 32
def qp.Weak (x:qp):Int:=x.1
def qp.Strong (x:qp):Vector UInt8 32:=x.2
def qp.mk (x0:Int) (x1:Vector UInt8 32):qp:=(x0,x1)
instance qp.dec:DecidableEq qp:=decE qu
def qq:Ty:=.ag [.i .i64,qo,.i .i64,.ba 32,.sl 33 qu]
abbrev qe:=Int×qc×Int×Vector UInt8 32×List qp
def qe.No (x:qe):Int:=x.1
def qe.S (x:qe):qc:=x.2.1
def qe.Len (x:qe):Int:=x.2.2.1
def qe.D (x:qe):Vector UInt8 32:=x.2.2.2.1
def qe.B (x:qe):List qp:=x.2.2.2.2
def qe.mk (x0:Int) (x1:qc) (x2:Int) (x3:Vector UInt8 32) (x4:List qp):qe:=(x0,x1,x2,x3,x4)
instance qe.dec:DecidableEq qe:=decE qq
def qm:Ty:=.ag [.ba 16,qo,.sl 37 qq]
abbrev qd:=Vector UInt8 16×qc×List qe
def qd.ID (x:qd):Vector UInt8 16:=x.1
def qd.Dead (x:qd):qc:=x.2.1
def qd.F (x:qd):List qe:=x.2.2
def qd.mk (x0:Vector UInt8 16) (x1:qc) (x2:List qe):qd:=(x0,x1,x2)
instance qd.dec:DecidableEq qd:=decE qm
def qn:Ty:=.ag [.ba 32,.sl 19 qm]
abbrev qb:=Vector UInt8 32×List qd
def qb.Base (x:qb):Vector UInt8 32:=x.1
def qb.L (x:qb):List qd:=x.2
def qb.mk (x0:Vector UInt8 32) (x1:List qd):qb:=(x0,x1)
instance qb.dec:DecidableEq qb:=decE qn
end Go.Rx
end
set_option maxRecDepth 100000
noncomputable section
namespace Go.Rx
open Go.Proofs
theorem qi:Tryz.prog.follows .mixedOrders=true:=by kernel_rfl
noncomputable instance Tryz_ct:CT:=⟨ctF Tryz.prog⟩
def qwL:Ent:=cmpS 107
theorem qzq:SmOK Tryz.prog qwL:=cmpS_ok (fn:=Tryz.f107) (by kernel_rfl) (by kernel_rfl) (by kernel_rfl) (by kernel_rfl) (by kernel_rfl)
noncomputable def qxS:Code:=Tryz.f69.body.getD .skip
theorem qqO:FnF Tryz.prog 69 Tryz.f69 qxS:=⟨qi,by kernel_rfl,by kernel_rfl,by kernel_rfl⟩
def qtb:TH:={ live:=[(0,[0]),(1,[0,4]),(2,[2]),(3,[2])],vecs:=[5],esc:=true }
def qtv (N:Nat):List Ent:=[]
theorem qsi (N:Nat):SmAll Tryz.prog (qtv N):=trivial
def qir (a0:List UInt8) (z:Unit):TV×THp:=(.v 100050 (((([]:List UInt8))++a0).length),[(100050,.vec false 1 .bl ((([]:List UInt8))++a0:List UInt8))])
def qip (a0:List UInt8):Tree (Unit):=
 .chk (List.isEmpty a0=false) <|
 .chk (avOK ((([]:List UInt8)).length) 0 (((([]:List UInt8))++a0).length) 1) <|
 .ret ()
def qhM (a0:List UInt8):Option (Unit):=(qip a0).run some
def qtn:List (Nat×LEnt):=[]
def qti:Ent:=smF ⟨69,[],[.x .bl],[],[]⟩ [.bl] (Unit) (fun x=>qhM x.1) cs1 fun x=>qir x.1
theorem qkk:FnVal Tryz.prog ⟨69,[],[.x .bl],[],[]⟩ [.bl] (fun x=>qip x.1) (fun x=>qir x.1):=
  fn_val (H:=qtb) (L:=lenv (qtn)) 0 qqO (qsi 0) (lenv_ok (by kernel_rfl) trivial) (rg0 (by kernel_rfl)) fun x=>by kernel_rfl
theorem qzp:SmOK Tryz.prog (qti):=smF_ok (qkk)
def qr1:TH:={ live:=[(0,[0]),(1,[0,4]),(2,[2]),(3,[2])],vecs:=[5],esc:=true }
def qsk (N:Nat):List Ent:=[]
theorem qqo (N:Nat):SmAll Tryz.prog (qsk N):=trivial
def qkq (z:Unit):TV×THp:=(.v 100050 0,[(100050,.vec false 1 .bl ([]:List UInt8))])
def qj8:Tree (Unit):=
 .chk (0=0) <|
 .ret ()
def qnA:Option (Unit):=(qj8).run some
def qr_:List (Nat×LEnt):=[]
def qrV:Ent:=smF ⟨69,[],[.k (.es 0)],[],[]⟩ [] (Unit) (fun x=>qnA) cs1 fun _=>qkq
theorem qiy:FnVal Tryz.prog ⟨69,[],[.k (.es 0)],[],[]⟩ [] (fun x=>qj8) (fun _=>qkq):=
  fn_val (H:=qr1) (L:=lenv (qr_)) 0 qqO (qqo 0) (lenv_ok (by kernel_rfl) trivial) (rg0 (by kernel_rfl)) fun x=>by kernel_rfl
theorem qxR:SmOK Tryz.prog (qrV):=smF_ok (qiy)
def qsl:TH:={ live:=[(0,[0]),(1,[0,4]),(2,[2]),(3,[2])],vecs:=[5],esc:=true }
def qrN (N:Nat):List Ent:=[]
theorem qqk (N:Nat):SmAll Tryz.prog (qrN N):=trivial
def qko (z:Unit):TV×THp:=(.nils,[])
def qj6:Tree (Unit):=
 .ret ()
def qnz:Option (Unit):=(qj6).run some
def qsf:List (Nat×LEnt):=[]
def qrL:Ent:=smF ⟨69,[],[.k (.es 1)],[],[]⟩ [] (Unit) (fun x=>qnz) cs1 fun _=>qko
theorem qiG:FnVal Tryz.prog ⟨69,[],[.k (.es 1)],[],[]⟩ [] (fun x=>qj6) (fun _=>qko):=
  fn_val (H:=qsl) (L:=lenv (qsf)) 0 qqO (qqk 0) (lenv_ok (by kernel_rfl) trivial) (rg0 (by kernel_rfl)) fun x=>by kernel_rfl
theorem qx0:SmOK Tryz.prog (qrL):=smF_ok (qiG)
def qkc (z:Unit):Unit:=()
def qsd (z:Unit):Unit:=()
def qbY (a0:List UInt8):Option (Unit):=
 bif a0.isEmpty then
  (qnA).bind fun z0=>(qnz).bind fun z1=>chk (qkc z0=qsd z1) (some (qkc z0))
 else qhM a0
def qlB:Ent:=smF ⟨69,[],[.x .bl],[],[]⟩ [.bl] (Unit) (fun x=>qbY x.1) cs1 fun x=>qir x.1
theorem qr7:SmOK Tryz.prog (qlB):=smF_ok fun x z h l=>by
  obtain ⟨a0,_⟩:=x
  replace h:qbY a0=some z:=h
  unfold qbY at h
  rcases cond_some h with ⟨e,h2⟩ | ⟨_,h2⟩<;>clear h
  · have e:=List.isEmpty_iff.1 e
    subst e
    obtain ⟨z0,c0,h2⟩:=bind_some h2
    obtain ⟨z1,c1,h2⟩:=bind_some h2
    obtain ⟨hE,h2⟩:=chk_some h2
    obtain rfl:=Option.some.inj h2
    refine maybe_val (t:=.bl) (x:=[]) rfl (TV.ers []) (TV.ers []) (by exact qiy (()) _ c0 l) ?_
    rw [hE]
    exact (nil_vec (n:=100050) (sz:=1) (x:=toPV .bl ([]:List UInt8)) rfl (by kernel_rfl) (by kernel_rfl) (qiG (()) _ c1 l))
  · exact qkk (a0,()) z h2 l
noncomputable def qyl:Code:=Tryz.f70.body.getD .skip
theorem qy4:FnF Tryz.prog 70 Tryz.f70 qyl:=⟨qi,by kernel_rfl,by kernel_rfl,by kernel_rfl⟩
def quP:TH:={ live:=[(0,[0]),(1,[0])] }
def qvb (N:Nat):List Ent:=[]
theorem qtl (N:Nat):SmAll Tryz.prog (qvb N):=trivial
def quT (z:Unit):TV×THp:=(.tv (.wa 8) ((((((((((Vector.replicate 8 0)).setIfInBounds 0 ((UInt32.ofNat 1779033703))).setIfInBounds 1 ((UInt32.ofNat 3144134277))).setIfInBounds 2 ((UInt32.ofNat 1013904242))).setIfInBounds 3 ((UInt32.ofNat 2773480762))).setIfInBounds 4 ((UInt32.ofNat 1359893119))).setIfInBounds 5 ((UInt32.ofNat 2600822924))).setIfInBounds 6 ((UInt32.ofNat 528734635))).setIfInBounds 7 ((UInt32.ofNat 1541459225)):Vector UInt32 8),[])
def qqL:Tree (Unit):=
 .chk (0 < 8) <|
 .chk (1 < 8) <|
 .chk (2 < 8) <|
 .chk (3 < 8) <|
 .chk (4 < 8) <|
 .chk (5 < 8) <|
 .chk (6 < 8) <|
 .chk (7 < 8) <|
 .ret ()
def qos:Option (Unit):=(qqL).run some
def qu8:List (Nat×LEnt):=[]
def qqz:Ent:=smF ⟨70,[],[],[],[]⟩ [] (Unit) (fun x=>qos) cs1 fun _=>quT
theorem qtS:SmOK Tryz.prog (qqz):=
  fn_ok (H:=quP) (L:=lenv (qu8)) (ts:=[]) (T:=fun x=>qqL) 0 qy4 (qtl 0) (lenv_ok (by kernel_rfl) trivial) (rg0 (by kernel_rfl)) fun x=>by kernel_rfl
noncomputable def qyi:Code:=Tryz.f71.body.getD .skip
theorem qyt:FnF Tryz.prog 71 Tryz.f71 qyi:=⟨qi,by kernel_rfl,by kernel_rfl,by kernel_rfl⟩
def quK:TH:={ live:=[(0,[0]),(1,[0])] }
def quJ (N:Nat):List Ent:=[]
theorem qts (N:Nat):SmAll Tryz.prog (quJ N):=trivial
def quI (z:Unit):TV×THp:=(.tv (.wa 64) ((((((((((((((((((((((((((((((((((((((((((((((((((((((((((((((((((Vector.replicate 64 0)).setIfInBounds 0 ((UInt32.ofNat 1116352408))).setIfInBounds 1 ((UInt32.ofNat 1899447441))).setIfInBounds 2 ((UInt32.ofNat 3049323471))).setIfInBounds 3 ((UInt32.ofNat 3921009573))).setIfInBounds 4 ((UInt32.ofNat 961987163))).setIfInBounds 5 ((UInt32.ofNat 1508970993))).setIfInBounds 6 ((UInt32.ofNat 2453635748))).setIfInBounds 7 ((UInt32.ofNat 2870763221))).setIfInBounds 8 ((UInt32.ofNat 3624381080))).setIfInBounds 9 ((UInt32.ofNat 310598401))).setIfInBounds 10 ((UInt32.ofNat 607225278))).setIfInBounds 11 ((UInt32.ofNat 1426881987))).setIfInBounds 12 ((UInt32.ofNat 1925078388))).setIfInBounds 13 ((UInt32.ofNat 2162078206))).setIfInBounds 14 ((UInt32.ofNat 2614888103))).setIfInBounds 15 ((UInt32.ofNat 3248222580))).setIfInBounds 16 ((UInt32.ofNat 3835390401))).setIfInBounds 17 ((UInt32.ofNat 4022224774))).setIfInBounds 18 ((UInt32.ofNat 264347078))).setIfInBounds 19 ((UInt32.ofNat 604807628))).setIfInBounds 20 ((UInt32.ofNat 770255983))).setIfInBounds 21 ((UInt32.ofNat 1249150122))).setIfInBounds 22 ((UInt32.ofNat 1555081692))).setIfInBounds 23 ((UInt32.ofNat 1996064986))).setIfInBounds 24 ((UInt32.ofNat 2554220882))).setIfInBounds 25 ((UInt32.ofNat 2821834349))).setIfInBounds 26 ((UInt32.ofNat 2952996808))).setIfInBounds 27 ((UInt32.ofNat 3210313671))).setIfInBounds 28 ((UInt32.ofNat 3336571891))).setIfInBounds 29 ((UInt32.ofNat 3584528711))).setIfInBounds 30 ((UInt32.ofNat 113926993))).setIfInBounds 31 ((UInt32.ofNat 338241895))).setIfInBounds 32 ((UInt32.ofNat 666307205))).setIfInBounds 33 ((UInt32.ofNat 773529912))).setIfInBounds 34 ((UInt32.ofNat 1294757372))).setIfInBounds 35 ((UInt32.ofNat 1396182291))).setIfInBounds 36 ((UInt32.ofNat 1695183700))).setIfInBounds 37 ((UInt32.ofNat 1986661051))).setIfInBounds 38 ((UInt32.ofNat 2177026350))).setIfInBounds 39 ((UInt32.ofNat 2456956037))).setIfInBounds 40 ((UInt32.ofNat 2730485921))).setIfInBounds 41 ((UInt32.ofNat 2820302411))).setIfInBounds 42 ((UInt32.ofNat 3259730800))).setIfInBounds 43 ((UInt32.ofNat 3345764771))).setIfInBounds 44 ((UInt32.ofNat 3516065817))).setIfInBounds 45 ((UInt32.ofNat 3600352804))).setIfInBounds 46 ((UInt32.ofNat 4094571909))).setIfInBounds 47 ((UInt32.ofNat 275423344))).setIfInBounds 48 ((UInt32.ofNat 430227734))).setIfInBounds 49 ((UInt32.ofNat 506948616))).setIfInBounds 50 ((UInt32.ofNat 659060556))).setIfInBounds 51 ((UInt32.ofNat 883997877))).setIfInBounds 52 ((UInt32.ofNat 958139571))).setIfInBounds 53 ((UInt32.ofNat 1322822218))).setIfInBounds 54 ((UInt32.ofNat 1537002063))).setIfInBounds 55 ((UInt32.ofNat 1747873779))).setIfInBounds 56 ((UInt32.ofNat 1955562222))).setIfInBounds 57 ((UInt32.ofNat 2024104815))).setIfInBounds 58 ((UInt32.ofNat 2227730452))).setIfInBounds 59 ((UInt32.ofNat 2361852424))).setIfInBounds 60 ((UInt32.ofNat 2428436474))).setIfInBounds 61 ((UInt32.ofNat 2756734187))).setIfInBounds 62 ((UInt32.ofNat 3204031479))).setIfInBounds 63 ((UInt32.ofNat 3329325298)):Vector UInt32 64),[])
def qqB:Tree (Unit):=
 .chk (0 < 64) <|
 .chk (1 < 64) <|
 .chk (2 < 64) <|
 .chk (3 < 64) <|
 .chk (4 < 64) <|
 .chk (5 < 64) <|
 .chk (6 < 64) <|
 .chk (7 < 64) <|
 .chk (8 < 64) <|
 .chk (9 < 64) <|
 .chk (10 < 64) <|
 .chk (11 < 64) <|
 .chk (12 < 64) <|
 .chk (13 < 64) <|
 .chk (14 < 64) <|
 .chk (15 < 64) <|
 .chk (16 < 64) <|
 .chk (17 < 64) <|
 .chk (18 < 64) <|
 .chk (19 < 64) <|
 .chk (20 < 64) <|
 .chk (21 < 64) <|
 .chk (22 < 64) <|
 .chk (23 < 64) <|
 .chk (24 < 64) <|
 .chk (25 < 64) <|
 .chk (26 < 64) <|
 .chk (27 < 64) <|
 .chk (28 < 64) <|
 .chk (29 < 64) <|
 .chk (30 < 64) <|
 .chk (31 < 64) <|
 .chk (32 < 64) <|
 .chk (33 < 64) <|
 .chk (34 < 64) <|
 .chk (35 < 64) <|
 .chk (36 < 64) <|
 .chk (37 < 64) <|
 .chk (38 < 64) <|
 .chk (39 < 64) <|
 .chk (40 < 64) <|
 .chk (41 < 64) <|
 .chk (42 < 64) <|
 .chk (43 < 64) <|
 .chk (44 < 64) <|
 .chk (45 < 64) <|
 .chk (46 < 64) <|
 .chk (47 < 64) <|
 .chk (48 < 64) <|
 .chk (49 < 64) <|
 .chk (50 < 64) <|
 .chk (51 < 64) <|
 .chk (52 < 64) <|
 .chk (53 < 64) <|
 .chk (54 < 64) <|
 .chk (55 < 64) <|
 .chk (56 < 64) <|
 .chk (57 < 64) <|
 .chk (58 < 64) <|
 .chk (59 < 64) <|
 .chk (60 < 64) <|
 .chk (61 < 64) <|
 .chk (62 < 64) <|
 .chk (63 < 64) <|
 .ret ()
def qox:Option (Unit):=(qqB).run some
def quZ:List (Nat×LEnt):=[]
def qqE:Ent:=smF ⟨71,[],[],[],[]⟩ [] (Unit) (fun x=>qox) cs1 fun _=>quI
theorem qt1:SmOK Tryz.prog (qqE):=
  fn_ok (H:=quK) (L:=lenv (quZ)) (ts:=[]) (T:=fun x=>qqB) 0 qyt (qts 0) (lenv_ok (by kernel_rfl) trivial) (rg0 (by kernel_rfl)) fun x=>by kernel_rfl
noncomputable def qwY:Code:=Tryz.f118.body.getD .skip
theorem qwi:FnF Tryz.prog 118 Tryz.f118 qwY:=⟨qi,by kernel_rfl,by kernel_rfl,by kernel_rfl⟩
def qjs:TH:={ live:=[(0,[0,1]),(1,[0,5]),(2,[4])] }
def qjx (N:Nat):List Ent:=[]
theorem qik (N:Nat):SmAll Tryz.prog (qjx N):=trivial
def qjv (z:Int):TV×THp:=(.tv (.i .u32) z,[])
def qa7 (a0:Int) (a1:Int):Tree (Int):=
 .chk (0≤(uAnd .u64 (IntKind.u64.wrap a1) 31)) <|
 let w1:Int:=uShl .u32 a0 (min (uAnd .u64 (IntKind.u64.wrap a1) 31).toNat 32)
 let w2:Int:=uSub .u64 ((32:Int)) (uAnd .u64 (IntKind.u64.wrap a1) 31)
 .chk (0≤w2) <|
 .ret (uOr .u32 w1 (uShr a0 (min w2.toNat 32)))
def qbP (a0:Int) (a1:Int):Option (Int):=(qa7 a0 a1).run some
def qjy:List (Nat×LEnt):=[]
def qee:Ent:=smF ⟨118,[],[.x (.i .u32),.x (.i .i64)],[],[]⟩ [(.i .u32),(.i .i64)] (Int) (fun x=>qbP x.1 x.2.1) cs1 fun _=>qjv
theorem qiX:SmOK Tryz.prog (qee):=
  fn_ok (H:=qjs) (L:=lenv (qjy)) (ts:=[(.i .u32),(.i .i64)]) (T:=fun x=>qa7 x.1 x.2.1) 0 qwi (qik 0) (lenv_ok (by kernel_rfl) trivial) (rg0 (by kernel_rfl)) fun x=>by kernel_rfl
noncomputable def qxQ:Code:=Tryz.f96.body.getD .skip
theorem qxC:FnF Tryz.prog 96 Tryz.f96 qxQ:=⟨qi,by kernel_rfl,by kernel_rfl,by kernel_rfl⟩
def quV:TH:={ live:=[(0,[0,1]),(1,[4])] }
def qu9 (N:Nat):List Ent:=[qee]
theorem qs8 (N:Nat):SmAll Tryz.prog (qu9 N):=⟨qiX,trivial⟩
def qu6 (z:Int):TV×THp:=(.tv (.i .u32) z,[])
def qky (a0:Int) (a1:Int):Tree (Int):=
 .chk (in64 (0 - a1)) <|
 .bind (qbP a0 (0 - a1)) fun r1=>
 .ret r1
def qE (a0:Int) (a1:Int):Option (Int):=(qky a0 a1).run some
def quU:List (Nat×LEnt):=[]
def qkN:Ent:=smF ⟨96,[],[.x (.i .u32),.x (.i .i64)],[],[]⟩ [(.i .u32),(.i .i64)] (Int) (fun x=>qE x.1 x.2.1) cs1 fun _=>qu6
theorem qoZ:SmOK Tryz.prog (qkN):=
  fn_ok (H:=quV) (L:=lenv (quU)) (ts:=[(.i .u32),(.i .i64)]) (T:=fun x=>qky x.1 x.2.1) 0 qxC (qs8 0) (lenv_ok (by kernel_rfl) trivial) (rg0 (by kernel_rfl)) fun x=>by kernel_rfl
noncomputable def qrt:Code:=Tryz.f95.body.getD .skip
theorem qxH:FnF Tryz.prog 95 Tryz.f95 qrt:=⟨qi,by kernel_rfl,by kernel_rfl,by kernel_rfl⟩
def qhy:TH:={ live:=[(0,[0,2]),(1,[0,2,3]),(2,[0,2,3,7]),(3,[0,2,3,7,8]),(4,[0,2,3,4,7]),(5,[0,2,3,4,7,11]),(6,[0,2,3,7]),(7,[0,2,3,4,5,6,7]),(8,[0,2,3,7]),(9,[0,2,3,7]),(10,[2])] }
def ql2 (N:Nat):List Ent:=[qkN]
theorem qjw (N:Nat):SmAll Tryz.prog (ql2 N):=⟨qoZ,trivial⟩
abbrev qbQ:=Vector UInt32 64×List UInt8
abbrev Zt:=Vector UInt32 64×Int×Bool
def qaF (f:qbQ) (y:Zt):Ex×TSt:=(.exit 0,⟨0,86,[],[(0,.tv .bl f.2),(2,.p 20 [] 0),(3,.p 30 [] 0),(7,xi y.2.1),(8,xb y.2.2)],[(20,.cell false (.tv (.wa 64) f.1)),(30,.cell false (.tv (.wa 64) (y.1:Vector UInt32 64)))],false,[]⟩)
def qqt (N:Nat):List (Nat×LEnt):=[]
abbrev qaH:=Vector UInt32 64×Int
def qiK:SP:=⟨0,86,[],[(0,.x .bl),(2,.k (.p 20 [] 0)),(3,.k (.p 30 [] 0)),(7,.x (.i .i64))],[(20,.cell false (.x (.wa 64))),(30,.cell false (.x (.wa 64)))],false,[]⟩
def qqr (f:qbQ) (v:qaH):TSt:=fillS qiK [dv (.wa 64) f.1,dv (.wa 64) v.1,dv .bl f.2,dv (.i .i64) v.2]
def Qd (N:Nat) (o_3:Vector UInt32 64) (s0_3:List UInt8) (v:qaH):Tree (qaH⊕Zt):=
 .cond (decide (v.2 < ((64:Int)))) (
 .cond (decide (v.2 < ((16:Int)))) (
 .chk (in64 (((4:Int)) * v.2)) <|
 .bind (getI s0_3 (((4:Int)) * v.2)) fun e1=>
 let w2:Int:=IntKind.u32.wrap ((e1.toNat:Nat):Int)
 .chk (0≤(24:Int)) <|
 .chk (in64 (((4:Int)) * v.2)) <|
 .chk (in64 ((((4:Int)) * v.2) + 1)) <|
 .bind (getI s0_3 ((((4:Int)) * v.2) + 1)) fun e3=>
 let w4:Int:=IntKind.u32.wrap ((e3.toNat:Nat):Int)
 .chk (0≤(16:Int)) <|
 let w5:Int:=uOr .u32 (uShl .u32 w2 24) (uShl .u32 w4 16)
 .chk (in64 (((4:Int)) * v.2)) <|
 .chk (in64 ((((4:Int)) * v.2) + 2)) <|
 .bind (getI s0_3 ((((4:Int)) * v.2) + 2)) fun e6=>
 let w7:Int:=IntKind.u32.wrap ((e6.toNat:Nat):Int)
 .chk (0≤(8:Int)) <|
 .chk (in64 (((4:Int)) * v.2)) <|
 .chk (in64 ((((4:Int)) * v.2) + 3)) <|
 .bind (getI s0_3 ((((4:Int)) * v.2) + 3)) fun e8=>
 let w9:Int:=IntKind.u32.wrap ((e8.toNat:Nat):Int)
 let w10:Int:=uOr .u32 (uOr .u32 w5 (uShl .u32 w7 8)) w9
 .chk (0≤v.2∧v.2 < ((64:Nat):Int)) <|
 .chk (inW w10) <|
 .chk (v.2.toNat < 64) <|
 .chk (in64 (v.2 + 1)) <|
 .ret (.inl (v.1.setIfInBounds v.2.toNat (UInt32.ofNat w10.toNat),v.2 + 1))) <|
 .chk (in64 (v.2 - 15)) <|
 .chk (0≤(v.2 - 15)∧(v.2 - 15) < ((64:Nat):Int)) <|
 .chk ((v.2 - 15).toNat < 64) <|
 .chk (in64 (v.2 - 2)) <|
 .chk (0≤(v.2 - 2)∧(v.2 - 2) < ((64:Nat):Int)) <|
 .chk ((v.2 - 2).toNat < 64) <|
 .chk (in64 (v.2 - 16)) <|
 .chk (0≤(v.2 - 16)∧(v.2 - 16) < ((64:Nat):Int)) <|
 .chk ((v.2 - 16).toNat < 64) <|
 .chk (in64 (v.2 - 7)) <|
 .chk (0≤(v.2 - 7)∧(v.2 - 7) < ((64:Nat):Int)) <|
 .chk ((v.2 - 7).toNat < 64) <|
 let w1:Int:=uAdd .u32 (((v.1.toList.getD ((v.2 - 16).toNat) 0).toNat:Nat):Int) (((v.1.toList.getD ((v.2 - 7).toNat) 0).toNat:Nat):Int)
 .bind (qE (((v.1.toList.getD ((v.2 - 15).toNat) 0).toNat:Nat):Int) 7) fun r2=>
 .bind (qE (((v.1.toList.getD ((v.2 - 15).toNat) 0).toNat:Nat):Int) 18) fun r3=>
 .chk (0≤(3:Int)) <|
 let w4:Int:=uShr (((v.1.toList.getD ((v.2 - 15).toNat) 0).toNat:Nat):Int) 3
 let w5:Int:=uAdd .u32 w1 (uXor .u32 (uXor .u32 r2 r3) w4)
 .bind (qE (((v.1.toList.getD ((v.2 - 2).toNat) 0).toNat:Nat):Int) 17) fun r6=>
 .bind (qE (((v.1.toList.getD ((v.2 - 2).toNat) 0).toNat:Nat):Int) 19) fun r7=>
 .chk (0≤(10:Int)) <|
 let w8:Int:=uShr (((v.1.toList.getD ((v.2 - 2).toNat) 0).toNat:Nat):Int) 10
 let w9:Int:=uAdd .u32 w5 (uXor .u32 (uXor .u32 r6 r7) w8)
 .chk (0≤v.2∧v.2 < ((64:Nat):Int)) <|
 .chk (inW w9) <|
 .chk (v.2.toNat < 64) <|
 .chk (in64 (v.2 + 1)) <|
 .ret (.inl (v.1.setIfInBounds v.2.toNat (UInt32.ofNat w9.toNat),v.2 + 1))) <|
 .ret (.inr (v.1,v.2,decide (v.2 < ((64:Int)))))
def qiI (N n:Nat) (f:qbQ) (v:qaH):Option Zt:=loopG (Qd N f.1 f.2) some n v
theorem qqs (N:Nat) (f:qbQ) (n:Nat) (v:qaH) (y:Zt) (h:qiI N n f v=some y):LG Tryz.prog qhy 95 (lookC qrt 3) (qqr f v) (qaF f y):=
  loop_g qi (E:=ql2 N) (L:=lenv (qqt N)) (st:=qaF f) (g:=some) (R:=qaF f) (qjw N) (lenv_ok (by kernel_rfl) trivial) (rg0 (by kernel_rfl)) (fun v=>by kernel_rfl) (good_self (st:=qaF f) fun y=>by rfl) n v y h
def qgB (N:Nat) (o_3:Vector UInt32 64) (s0_3:List UInt8) (o_3_2:Vector UInt32 64) (s7_3:Int):Option Zt:=qiI N N (o_3,s0_3) (o_3_2,s7_3)
def qiz (N:Nat):LEnt:=smL qiK [(.wa 64),(.wa 64),.bl,(.i .i64)] Zt (fun x=>qgB N x.1 x.2.2.1 x.2.1 x.2.2.2.1) cs1 fun x=>qaF (x.1,x.2.2.1)
theorem qpH (N:Nat):LsOK Tryz.prog qhy 95 (lookC qrt 3) (qiz N):=smL_ok fun x z h=>qqs N (x.1,x.2.2.1) N (x.2.1,x.2.2.2.1) z h
def qsF (z:Vector UInt32 64):TV×THp:=(.tv (.wa 64) z,[])
def qhE (N:Nat) (a0:List UInt8):Tree (Vector UInt32 64):=
 .bind (qgB N ((Vector.replicate 64 0)) a0 ((Vector.replicate 64 0)) 0) fun z1=>
 .ret z1.1
def qgZ (N:Nat) (a0:List UInt8):Option (Vector UInt32 64):=(qhE N a0).run some
def qsz (N:Nat):List (Nat×LEnt):=[(3,qiz N)]
def qlK (N:Nat):Ent:=smF ⟨95,[],[.x .bl],[],[]⟩ [.bl] (Vector UInt32 64) (fun x=>qgZ N x.1) cs1 fun _=>qsF
theorem qr4 (N:Nat):SmOK Tryz.prog (qlK N):=
  fn_ok (H:=qhy) (L:=lenv (qsz N)) (ts:=[.bl]) (T:=fun x=>qhE N x.1) 0 qxH (qjw N) (lenv_ok (by kernel_rfl) ⟨qpH N,trivial⟩) (rg0 (by kernel_rfl)) fun x=>by kernel_rfl
noncomputable def qjc:Code:=Tryz.f72.body.getD .skip
theorem qw_:FnF Tryz.prog 72 Tryz.f72 qjc:=⟨qi,by kernel_rfl,by kernel_rfl,by kernel_rfl⟩
def qa6:TH:={ live:=[(0,[0,2,6]),(1,[0,2,6,7]),(2,[0,2,6,7,19]),(3,[0,2,6,7,19,20]),(4,[0,2,6,7,8,19]),(5,[0,2,6,7,8,9,10,19]),(6,[0,2,6,7,9,11,19]),(7,[0,2,6,7,11,12,19]),(8,[0,2,6,7,11,12,19]),(9,[0,2,6,7,11,19]),(10,[0,2,6,7,19]),(11,[0,2,6,7,19]),(12,[0,7,95]),(13,[0,7,95,96]),(14,[0,7,13,95]),(15,[0,7,95]),(16,[0,7,95])] }
def qfI (N:Nat):List Ent:=[qlK N,qkN]
theorem qel (N:Nat):SmAll Tryz.prog (qfI N):=⟨qr4 N,qoZ,trivial⟩
abbrev qbg:=Vector UInt32 8×Vector UInt32 64×Vector UInt32 64
abbrev Qi:=Vector UInt32 8×Int×Bool
def ZB (f:qbg) (y:Qi):Ex×TSt:=(.exit 0,⟨1,110,[50,60],[(0,.p 50 [] 0),(2,.p 60 [] 0),(6,.p 100060 [] 0),(7,.p 100070 [] 0),(19,xi y.2.1),(20,xb y.2.2)],[(50,.cell false (.tv (.wa 8) f.1)),(60,.cell false (.tv (.wa 64) f.2.1)),(100060,.cell false (.tv (.wa 64) f.2.2)),(100070,.cell false (.tv (.wa 8) (y.1:Vector UInt32 8)))],false,[]⟩)
def qnP (N:Nat):List (Nat×LEnt):=[]
abbrev Zz:=Vector UInt32 8×Int
def qhj:SP:=⟨1,110,[50,60],[(0,.k (.p 50 [] 0)),(2,.k (.p 60 [] 0)),(6,.k (.p 100060 [] 0)),(7,.k (.p 100070 [] 0)),(19,.x (.i .i64))],[(50,.cell false (.x (.wa 8))),(60,.cell false (.x (.wa 64))),(100060,.cell false (.x (.wa 64))),(100070,.cell false (.x (.wa 8)))],false,[]⟩
def qod (f:qbg) (v:Zz):TSt:=fillS qhj [dv (.wa 8) f.1,dv (.wa 64) f.2.1,dv (.wa 64) f.2.2,dv (.wa 8) v.1,dv (.i .i64) v.2]
def ZA (N:Nat) (o_3:Vector UInt32 8) (o_3_2:Vector UInt32 64) (o_3_3:Vector UInt32 64) (v:Zz):Tree (Zz⊕Qi):=
 .cond (decide (v.2 < ((64:Int)))) (
 .chk (0≤(0:Int)∧(0:Int) < ((8:Nat):Int)) <|
 .chk (0 < 8) <|
 .chk (0≤(4:Int)∧(4:Int) < ((8:Nat):Int)) <|
 .chk (4 < 8) <|
 .chk (0≤(7:Int)∧(7:Int) < ((8:Nat):Int)) <|
 .chk (7 < 8) <|
 .bind (qE (((v.1.toList.getD 4 0).toNat:Nat):Int) 6) fun r1=>
 .bind (qE (((v.1.toList.getD 4 0).toNat:Nat):Int) 11) fun r2=>
 .bind (qE (((v.1.toList.getD 4 0).toNat:Nat):Int) 25) fun r3=>
 let w4:Int:=uAdd .u32 (((v.1.toList.getD 7 0).toNat:Nat):Int) (uXor .u32 (uXor .u32 r1 r2) r3)
 .chk (0≤(5:Int)∧(5:Int) < ((8:Nat):Int)) <|
 .chk (5 < 8) <|
 let w5:Int:=uAnd .u32 (((v.1.toList.getD 4 0).toNat:Nat):Int) (((v.1.toList.getD 5 0).toNat:Nat):Int)
 let w6:Int:=uXor .u32 (4294967295) (((v.1.toList.getD 4 0).toNat:Nat):Int)
 .chk (0≤(6:Int)∧(6:Int) < ((8:Nat):Int)) <|
 .chk (6 < 8) <|
 let w7:Int:=uAnd .u32 w6 (((v.1.toList.getD 6 0).toNat:Nat):Int)
 .chk (0≤v.2∧v.2 < ((64:Nat):Int)) <|
 .chk (v.2.toNat < 64) <|
 let w8:Int:=uAdd .u32 (uAdd .u32 w4 (uXor .u32 w5 w7)) (((o_3_2.toList.getD v.2.toNat 0).toNat:Nat):Int)
 .chk (0≤v.2∧v.2 < ((64:Nat):Int)) <|
 .chk (v.2.toNat < 64) <|
 let w9:Int:=uAdd .u32 w8 (((o_3_3.toList.getD v.2.toNat 0).toNat:Nat):Int)
 .bind (qE (((v.1.toList.getD 0 0).toNat:Nat):Int) 2) fun r10=>
 .bind (qE (((v.1.toList.getD 0 0).toNat:Nat):Int) 13) fun r11=>
 .bind (qE (((v.1.toList.getD 0 0).toNat:Nat):Int) 22) fun r12=>
 .chk (0≤(1:Int)∧(1:Int) < ((8:Nat):Int)) <|
 .chk (1 < 8) <|
 let w13:Int:=uAnd .u32 (((v.1.toList.getD 0 0).toNat:Nat):Int) (((v.1.toList.getD 1 0).toNat:Nat):Int)
 .chk (0≤(2:Int)∧(2:Int) < ((8:Nat):Int)) <|
 .chk (2 < 8) <|
 let w14:Int:=uAnd .u32 (((v.1.toList.getD 0 0).toNat:Nat):Int) (((v.1.toList.getD 2 0).toNat:Nat):Int)
 .chk (0≤(1:Int)∧(1:Int) < ((8:Nat):Int)) <|
 .chk (1 < 8) <|
 .chk (0≤(2:Int)∧(2:Int) < ((8:Nat):Int)) <|
 .chk (2 < 8) <|
 let w15:Int:=uAnd .u32 (((v.1.toList.getD 1 0).toNat:Nat):Int) (((v.1.toList.getD 2 0).toNat:Nat):Int)
 let w16:Int:=uAdd .u32 (uXor .u32 (uXor .u32 r10 r11) r12) (uXor .u32 (uXor .u32 w13 w14) w15)
 .chk (0≤(0:Int)∧(0:Int) < ((8:Nat):Int)) <|
 .chk (inW (uAdd .u32 w9 w16)) <|
 .chk (0 < 8) <|
 .chk (0≤(4:Int)∧(4:Int) < ((8:Nat):Int)) <|
 .chk (4 < 8) <|
 let w17:Int:=uAdd .u32 (((((shiftV v.1 1 7).setIfInBounds 0 (UInt32.ofNat (uAdd .u32 w9 w16).toNat)).toList.getD 4 0).toNat:Nat):Int) w9
 .chk (0≤(4:Int)∧(4:Int) < ((8:Nat):Int)) <|
 .chk (inW w17) <|
 .chk (4 < 8) <|
 .chk (in64 (v.2 + 1)) <|
 .ret (.inl (((shiftV v.1 1 7).setIfInBounds 0 (UInt32.ofNat (uAdd .u32 w9 w16).toNat)).setIfInBounds 4 (UInt32.ofNat w17.toNat),v.2 + 1))) <|
 .ret (.inr (v.1,v.2,decide (v.2 < ((64:Int)))))
def qht (N n:Nat) (f:qbg) (v:Zz):Option Qi:=loopG (ZA N f.1 f.2.1 f.2.2) some n v
theorem qn3 (N:Nat) (f:qbg) (n:Nat) (v:Zz) (y:Qi) (h:qht N n f v=some y):LG Tryz.prog qa6 72 (lookC qjc 3) (qod f v) (ZB f y):=
  loop_g qi (E:=qfI N) (L:=lenv (qnP N)) (st:=ZB f) (g:=some) (R:=ZB f) (qel N) (lenv_ok (by kernel_rfl) trivial) (rg0 (by kernel_rfl)) (fun v=>by kernel_rfl) (good_self (st:=ZB f) fun y=>by rfl) n v y h
def qeN (N:Nat) (o_3:Vector UInt32 8) (o_3_2:Vector UInt32 64) (o_3_3:Vector UInt32 64) (o_3_4:Vector UInt32 8) (s19_3:Int):Option Qi:=qht N N (o_3,o_3_2,o_3_3) (o_3_4,s19_3)
def qhn (N:Nat):LEnt:=smL qhj [(.wa 8),(.wa 64),(.wa 64),(.wa 8),(.i .i64)] Qi (fun x=>qeN N x.1 x.2.1 x.2.2.1 x.2.2.2.1 x.2.2.2.2.1) cs1 fun x=>ZB (x.1,x.2.1,x.2.2.1)
theorem qmX (N:Nat):LsOK Tryz.prog qa6 72 (lookC qjc 3) (qhn N):=smL_ok fun x z h=>qn3 N (x.1,x.2.1,x.2.2.1) N (x.2.2.2.1,x.2.2.2.2.1) z h
abbrev qaM:=Vector UInt32 64×Vector UInt32 8
abbrev zU:=Vector UInt32 8×Int×Bool
def Zj (f:qaM) (y:zU):Ex×TSt:=(.exit 2,⟨1,110,[50,60],[(0,.p 50 [] 0),(7,.p 100070 [] 0),(95,xi y.2.1),(96,xb y.2.2)],[(50,.cell false (.tv (.wa 8) (y.1:Vector UInt32 8))),(60,.cell false (.tv (.wa 64) f.1)),(100070,.cell false (.tv (.wa 8) f.2))],false,[]⟩)
def qmE (N:Nat):List (Nat×LEnt):=[]
abbrev Zl:=Vector UInt32 8×Int
def qgE:SP:=⟨1,110,[50,60],[(0,.k (.p 50 [] 0)),(7,.k (.p 100070 [] 0)),(95,.x (.i .i64))],[(50,.cell false (.x (.wa 8))),(60,.cell false (.x (.wa 64))),(100070,.cell false (.x (.wa 8)))],false,[]⟩
def qm_ (f:qaM) (v:Zl):TSt:=fillS qgE [dv (.wa 8) v.1,dv (.wa 64) f.1,dv (.wa 8) f.2,dv (.i .i64) v.2]
def qaN (N:Nat) (o_13_2:Vector UInt32 64) (o_13_3:Vector UInt32 8) (v:Zl):Tree (Zl⊕zU):=
 .cond (decide (v.2 < ((8:Int)))) (
 .chk (0≤v.2∧v.2 < ((8:Nat):Int)) <|
 .chk (v.2.toNat < 8) <|
 .chk (0≤v.2∧v.2 < ((8:Nat):Int)) <|
 .chk (v.2.toNat < 8) <|
 let w1:Int:=uAdd .u32 (((v.1.toList.getD v.2.toNat 0).toNat:Nat):Int) (((o_13_3.toList.getD v.2.toNat 0).toNat:Nat):Int)
 .chk (0≤v.2∧v.2 < ((8:Nat):Int)) <|
 .chk (inW w1) <|
 .chk (v.2.toNat < 8) <|
 .chk (in64 (v.2 + 1)) <|
 .ret (.inl (v.1.setIfInBounds v.2.toNat (UInt32.ofNat w1.toNat),v.2 + 1))) <|
 .ret (.inr (v.1,v.2,decide (v.2 < ((8:Int)))))
def qg6 (N n:Nat) (f:qaM) (v:Zl):Option zU:=loopG (qaN N f.1 f.2) some n v
theorem qmG (N:Nat) (f:qaM) (n:Nat) (v:Zl) (y:zU) (h:qg6 N n f v=some y):LG Tryz.prog qa6 72 (lookC qjc 13) (qm_ f v) (Zj f y):=
  loop_g qi (E:=qfI N) (L:=lenv (qmE N)) (st:=Zj f) (g:=some) (R:=Zj f) (qel N) (lenv_ok (by kernel_rfl) trivial) (rg0 (by kernel_rfl)) (fun v=>by kernel_rfl) (good_self (st:=Zj f) fun y=>by rfl) n v y h
def qd4 (N:Nat) (o_13_2:Vector UInt32 64) (o_13_3:Vector UInt32 8) (o_13:Vector UInt32 8) (s95_13:Int):Option zU:=qg6 N N (o_13_2,o_13_3) (o_13,s95_13)
def qgR (N:Nat):LEnt:=smL qgE [(.wa 8),(.wa 64),(.wa 8),(.i .i64)] zU (fun x=>qd4 N x.2.1 x.2.2.1 x.1 x.2.2.2.1) cs1 fun x=>Zj (x.2.1,x.2.2.1)
theorem qlD (N:Nat):LsOK Tryz.prog qa6 72 (lookC qjc 13) (qgR N):=smL_ok fun x z h=>qmG N (x.2.1,x.2.2.1) N (x.1,x.2.2.2.1) z h
def qrI (a1:Vector UInt32 64) (z:Vector UInt32 8):TV×THp:=(.tup [],[(50,.cell false (.tv (.wa 8) z)),(60,.cell false (.tv (.wa 64) a1))])
def qfC (N:Nat) (a0:Vector UInt32 8) (a1:Vector UInt32 64) (a2:List UInt8):Tree (Vector UInt32 8):=
 .bind (qgZ N a2) fun r1=>
 .bind (qeN N a0 a1 r1 a0 0) fun z2=>
 .bind (qd4 N a1 z2.1 a0 0) fun z3=>
 .ret z3.1
def qb8 (N:Nat) (a0:Vector UInt32 8) (a1:Vector UInt32 64) (a2:List UInt8):Option (Vector UInt32 8):=(qfC N a0 a1 a2).run some
def qrp (N:Nat):List (Nat×LEnt):=[(3,qhn N),(13,qgR N)]
def qjE (N:Nat):Ent:=smF ⟨72,[],[.k (.p 50 [] 0),.x .bl,.k (.p 60 [] 0)],[],[(50,.cell false (.x (.wa 8))),(60,.cell false (.x (.wa 64)))]⟩ [(.wa 8),(.wa 64),.bl] (Vector UInt32 8) (fun x=>qb8 N x.1 x.2.1 x.2.2.1) cs1 fun x=>qrI x.2.1
theorem qqe (N:Nat):SmOK Tryz.prog (qjE N):=
  fn_ok (H:=qa6) (L:=lenv (qrp N)) (ts:=[(.wa 8),(.wa 64),.bl]) (T:=fun x=>qfC N x.1 x.2.1 x.2.2.1) 0 qw_ (qel N) (lenv_ok (by kernel_rfl) ⟨qmX N,qlD N,trivial⟩) (rg0 (by kernel_rfl)) fun x=>by kernel_rfl
noncomputable def qbI:Code:=Tryz.f35.body.getD .skip
theorem qyz:FnF Tryz.prog 35 Tryz.f35 qbI:=⟨qi,by kernel_rfl,by kernel_rfl,by kernel_rfl⟩
def qaU:TH:={ live:=[(0,[0,2]),(1,[0,2,3]),(2,[0,2,3,16]),(3,[0,2,3]),(4,[0,2,3,20]),(5,[0,2,3,20,21]),(6,[0,2,3,4,20]),(7,[0,2,3,20]),(8,[0,2,3,20]),(9,[2,3,5,6]),(10,[2,3,5,6,40]),(11,[2,3,5,6]),(12,[2,3,5,6]),(13,[2,5,7]),(14,[2,5,7,46]),(15,[2,5,7,46,47]),(16,[2,5,7,8,46]),(17,[2,5,7,46]),(18,[2,5,7,46]),(19,[2])],fresh:=[10] }
def qf5 (N:Nat):List Ent:=[qlB,qqz,qqE,qjE N]
theorem qcV (N:Nat):SmAll Tryz.prog (qf5 N):=⟨qr7,qtS,qt1,qqe N,trivial⟩
abbrev qhf:=Vector UInt8 32×List UInt8
abbrev qb0:=List UInt8×Bool
def qd5 (f:qhf) (y:qb0):Ex×TSt:=(.exit 0,⟨0,63,[],[(0,.tv .bl f.2),(2,.p 20 [] 0),(3,.v 100050 y.1.length),(16,xb y.2)],[(20,.cell false (.tv (.ba 32) f.1)),(100050,.vec false 1 .bl (y.1:List UInt8))],false,[]⟩)
def quv (N:Nat):List (Nat×LEnt):=[]
abbrev qef:=List UInt8
def qoR:SP:=⟨0,63,[],[(0,.x .bl),(2,.k (.p 20 [] 0)),(3,.vs 100050)],[(20,.cell false (.x (.ba 32))),(100050,.vec false 1)],false,[]⟩
def quA (f:qhf) (v:qef):TSt:=fillS qoR [dv .bl v,dv (.ba 32) f.1,dv .bl f.2]
def qea (N:Nat) (o_2_2:Vector UInt8 32) (s0_2:List UInt8) (v:qef):Tree (qef⊕qb0):=
 .chk ((64:Int)≠0) <|
 .cond (!decide ((((v.length:Nat):Int).tmod 64)=56)) (
 .chk (avOK v.length v.length ((v++[(UInt8.ofNat 0)]).length) 1) <|
 .ret (.inl (v++[(UInt8.ofNat 0)]))) <|
 .ret (.inr (v,!decide ((((v.length:Nat):Int).tmod 64)=56)))
def qph (N n:Nat) (f:qhf) (v:qef):Option qb0:=loopG (qea N f.1 f.2) some n v
theorem qum (N:Nat) (f:qhf) (n:Nat) (v:qef) (y:qb0) (h:qph N n f v=some y):LG Tryz.prog qaU 35 (lookC qbI 2) (quA f v) (qd5 f y):=
  loop_g qi (E:=qf5 N) (L:=lenv (quv N)) (st:=qd5 f) (g:=some) (R:=qd5 f) (qcV N) (lenv_ok (by kernel_rfl) trivial) (rg0 (by kernel_rfl)) (fun v=>by kernel_rfl) (good_self (st:=qd5 f) fun y=>by rfl) n v y h
def qiY (N:Nat) (o_2_2:Vector UInt8 32) (s0_2:List UInt8) (o_2:List UInt8):Option qb0:=qph N N (o_2_2,s0_2) o_2
def qo0 (N:Nat):LEnt:=smL qoR [.bl,(.ba 32),.bl] qb0 (fun x=>qiY N x.2.1 x.2.2.1 x.1) cs1 fun x=>qd5 (x.2.1,x.2.2.1)
theorem qtx (N:Nat):LsOK Tryz.prog qaU 35 (lookC qbI 2) (qo0 N):=smL_ok fun x z h=>qum N (x.2.1,x.2.2.1) N x.1 z h
abbrev qgI:=Vector UInt8 32×List UInt8
abbrev qb1:=List UInt8×Int×Bool
def qdL (f:qgI) (y:qb1):Ex×TSt:=(.exit 2,⟨0,63,[],[(0,.tv .bl f.2),(2,.p 20 [] 0),(3,.v 100050 y.1.length),(20,xi y.2.1),(21,xb y.2.2)],[(20,.cell false (.tv (.ba 32) f.1)),(100050,.vec false 1 .bl (y.1:List UInt8))],false,[]⟩)
def qul (N:Nat):List (Nat×LEnt):=[]
abbrev qek:=List UInt8×Int
def qo4:SP:=⟨0,63,[],[(0,.x .bl),(2,.k (.p 20 [] 0)),(3,.vs 100050),(20,.x (.i .i64))],[(20,.cell false (.x (.ba 32))),(100050,.vec false 1)],false,[]⟩
def qux (f:qgI) (v:qek):TSt:=fillS qo4 [dv .bl v.1,dv (.ba 32) f.1,dv .bl f.2,dv (.i .i64) v.2]
def qgM (N:Nat) (o_5_2:Vector UInt8 32) (s0_5:List UInt8) (v:qek):Tree (qek⊕qb1):=
 .cond (decide (v.2 < ((8:Int)))) (
 let w1:Int:=IntKind.u64.wrap ((s0_5.length:Nat):Int)
 .chk (in64 (((7:Int)) - v.2)) <|
 .chk (in64 (((8:Int)) * (((7:Int)) - v.2))) <|
 .chk (0≤(((8:Int)) * (((7:Int)) - v.2))) <|
 let w2:Int:=uShr (uMul .u64 w1 8) (min (((8:Int)) * (((7:Int)) - v.2)).toNat 64)
 .chk (inB (IntKind.u8.wrap w2)) <|
 .chk (avOK v.1.length v.1.length ((v.1++[UInt8.ofNat (IntKind.u8.wrap w2).toNat]).length) 1) <|
 .chk (in64 (v.2 + 1)) <|
 .ret (.inl (v.1++[UInt8.ofNat (IntKind.u8.wrap w2).toNat],v.2 + 1))) <|
 .ret (.inr (v.1,v.2,decide (v.2 < ((8:Int)))))
def qo8 (N n:Nat) (f:qgI) (v:qek):Option qb1:=loopG (qgM N f.1 f.2) some n v
theorem quy (N:Nat) (f:qgI) (n:Nat) (v:qek) (y:qb1) (h:qo8 N n f v=some y):LG Tryz.prog qaU 35 (lookC qbI 5) (qux f v) (qdL f y):=
  loop_g qi (E:=qf5 N) (L:=lenv (qul N)) (st:=qdL f) (g:=some) (R:=qdL f) (qcV N) (lenv_ok (by kernel_rfl) trivial) (rg0 (by kernel_rfl)) (fun v=>by kernel_rfl) (good_self (st:=qdL f) fun y=>by rfl) n v y h
def qmK (N:Nat) (o_5_2:Vector UInt8 32) (s0_5:List UInt8) (o_5:List UInt8) (s20_5:Int):Option qb1:=qo8 N N (o_5_2,s0_5) (o_5,s20_5)
def qpf (N:Nat):LEnt:=smL qo4 [.bl,(.ba 32),.bl,(.i .i64)] qb1 (fun x=>qmK N x.2.1 x.2.2.1 x.1 x.2.2.2.1) cs1 fun x=>qdL (x.2.1,x.2.2.1)
theorem qtH (N:Nat):LsOK Tryz.prog qaU 35 (lookC qbI 5) (qpf N):=smL_ok fun x z h=>quy N (x.2.1,x.2.2.1) N (x.1,x.2.2.2.1) z h
abbrev QH:=List UInt8×Vector UInt8 32×Vector UInt32 8×Vector UInt32 64
abbrev zQ:=Unit⊕(Vector UInt32 8×List UInt8×Bool)
def QG (f:QH):zQ→Ex×TSt
 | .inl y=>(.exit 4,⟨0,63,[],[(2,.p 20 [] 0),(3,.v 100050 f.1.length),(5,.p 50 [] 0),(6,.p 60 [] 0),(40,xb (decide (((0:Int)) < ((f.1.length:Nat):Int))))],[(20,.cell false (.tv (.ba 32) f.2.1)),(50,.cell false (.tv (.wa 8) f.2.2.1)),(60,.cell false (.tv (.wa 64) f.2.2.2)),(100050,.vec false 1 .bl f.1)],false,[]⟩)
 | .inr y=>(.exit 4,⟨0,63,[],[(2,.p 20 [] 0),(3,.tv .bl (y.2.1:List UInt8)),(5,.p 50 [] 0),(6,.p 60 [] 0),(40,xb y.2.2)],[(20,.cell false (.tv (.ba 32) f.2.1)),(50,.cell false (.tv (.wa 8) (y.1:Vector UInt32 8))),(60,.cell false (.tv (.wa 64) f.2.2.2))],false,[]⟩)
def qnu (N:Nat):List (Nat×LEnt):=[]
abbrev ZI:=Vector UInt32 8×List UInt8
def qrq:SP:=⟨0,63,[],[(2,.k (.p 20 [] 0)),(3,.x .bl),(5,.k (.p 50 [] 0)),(6,.k (.p 60 [] 0))],[(20,.cell false (.x (.ba 32))),(50,.cell false (.x (.wa 8))),(60,.cell false (.x (.wa 64)))],false,[]⟩
def qji (f:QH) (v:ZI):TSt:=fillS qrq [dv (.ba 32) f.2.1,dv (.wa 8) v.1,dv (.wa 64) f.2.2.2,dv .bl v.2]
def qcv (N:Nat) (o_10:List UInt8) (o_10_2:Vector UInt8 32) (o_10_3:Vector UInt32 8) (o_10_4:Vector UInt32 64) (v:ZI):Tree (ZI⊕zQ):=
 .cond (decide (((0:Int)) < ((v.2.length:Nat):Int))) (
 .chk (0≤(0:Int)∧(0:Int)≤(64:Int)∧(64:Int)≤((v.2.length:Nat):Int)) <|
 .bind (qb8 N v.1 o_10_4 ((v.2.take 64).drop 0)) fun r1=>
 .chk (0≤(64:Int)∧(64:Int)≤((v.2.length:Nat):Int)) <|
 .ret (.inl (r1,v.2.drop 64))) <|
 .ret (.inr (.inr ((v.1,v.2,decide (((0:Int)) < ((v.2.length:Nat):Int))))))
def qjh (N n:Nat) (f:QH) (v:ZI):Option zQ:=loopG (qcv N f.1 f.2.1 f.2.2.1 f.2.2.2) some n v
theorem qrd (N:Nat) (f:QH) (n:Nat) (v:ZI) (y:zQ) (h:qjh N n f v=some y):LG Tryz.prog qaU 35 (lookC qbI 10) (qji f v) (QG f y):=
  loop_g qi (E:=qf5 N) (L:=lenv (qnu N)) (st:=QG f) (g:=some) (R:=QG f) (qcV N) (lenv_ok (by kernel_rfl) trivial) (rg0 (by kernel_rfl)) (fun v=>by kernel_rfl) (good_self (st:=QG f) fun y=>by rcases y with _ | _<;>rfl) n v y h
abbrev qcO:=Unit
def qny:SP:=⟨0,63,[],[(2,.k (.p 20 [] 0)),(3,.vs 100050),(5,.k (.p 50 [] 0)),(6,.k (.p 60 [] 0))],[(20,.cell false (.x (.ba 32))),(50,.cell false (.x (.wa 8))),(60,.cell false (.x (.wa 64))),(100050,.vec false 1)],false,[]⟩
def qtk (f:QH) (v:qcO):TSt:=fillS qny [dv .bl f.1,dv (.ba 32) f.2.1,dv (.wa 8) f.2.2.1,dv (.wa 64) f.2.2.2]
abbrev qis:=ZI⊕zQ
def qfw (N:Nat) (o_10:List UInt8) (o_10_2:Vector UInt8 32) (o_10_3:Vector UInt32 8) (o_10_4:Vector UInt32 64) (v:qcO):Tree (qcO⊕qis):=
 .cond (decide (((0:Int)) < ((o_10.length:Nat):Int))) (
 .chk (0≤(0:Int)∧(0:Int)≤(64:Int)∧(64:Int)≤((o_10.length:Nat):Int)) <|
 .chk (o_10.length=o_10.length) <|
 .bind (qb8 N o_10_3 o_10_4 ((o_10.take 64).drop 0)) fun r1=>
 .chk (0≤(64:Int)∧(64:Int)≤((o_10.length:Nat):Int)) <|
 .chk (o_10.length=o_10.length) <|
 .ret (.inr (.inl (r1,o_10.drop 64)))) <|
 .ret (.inr (.inr ((.inl ()))))
def qiv (N n:Nat) (f:QH):qis→Option zQ
 | .inl w=>qjh N n f w
 | .inr w=>some w
def qs7 (f:QH):qis→Ex×TSt
 | .inl w=>(.normal,qji f w)
 | .inr w=>QG f w
def qnx (N n:Nat) (f:QH) (v:qcO):Option zQ:=loopG (qfw N f.1 f.2.1 f.2.2.1 f.2.2.2) (qiv N n f) n v
theorem qtm (N:Nat) (f:QH) (n:Nat) (v:qcO) (y:zQ) (h:qnx N n f v=some y):LG Tryz.prog qaU 35 (lookC qbI 10) (qtk f v) (QG f y):=
  loop_g qi (E:=qf5 N) (L:=lenv (qnu N)) (st:=qs7 f) (g:=(qiv N n f)) (R:=QG f) (qcV N) (lenv_ok (by kernel_rfl) trivial) (rg0 (by kernel_rfl)) (fun v=>by kernel_rfl) (fun w y h=>by
  rcases w with w | w
  · exact qrd N f n w y h
  · exact good_self (st:=QG f) (fun y=>by rcases y with _ | _<;>rfl) w y h
) n v y h
def qe3 (N:Nat) (o_10:List UInt8) (o_10_2:Vector UInt8 32) (o_10_3:Vector UInt32 8) (o_10_4:Vector UInt32 64):Option zQ:=qnx N N (o_10,o_10_2,o_10_3,o_10_4) ()
def qnJ (N:Nat):LEnt:=smL qny [.bl,(.ba 32),(.wa 8),(.wa 64)] zQ (fun x=>qe3 N x.1 x.2.1 x.2.2.1 x.2.2.2.1) (csS cs1) fun x=>QG (x.1,x.2.1,x.2.2.1,x.2.2.2.1)
theorem qsO (N:Nat):LsOK Tryz.prog qaU 35 (lookC qbI 10) (qnJ N):=smL_ok fun x z h=>qtm N (x.1,x.2.1,x.2.2.1,x.2.2.2.1) N () z h
abbrev qfs:=Vector UInt8 32×Vector UInt32 8
abbrev qbo:=Vector UInt8 32×Int×Bool
def qcL (f:qfs) (y:qbo):Ex×TSt:=(.exit 6,⟨0,63,[],[(2,.p 20 [] 0),(5,.p 50 [] 0),(7,.p 70 [] 0),(46,xi y.2.1),(47,xb y.2.2)],[(20,.cell false (.tv (.ba 32) f.1)),(50,.cell false (.tv (.wa 8) f.2)),(70,.cell false (.tv (.ba 32) (y.1:Vector UInt8 32)))],false,[]⟩)
def qtF (N:Nat):List (Nat×LEnt):=[]
abbrev qcM:=Vector UInt8 32×Int
def qnF:SP:=⟨0,63,[],[(2,.k (.p 20 [] 0)),(5,.k (.p 50 [] 0)),(7,.k (.p 70 [] 0)),(46,.x (.i .i64))],[(20,.cell false (.x (.ba 32))),(50,.cell false (.x (.wa 8))),(70,.cell false (.x (.ba 32)))],false,[]⟩
def qtA (f:qfs) (v:qcM):TSt:=fillS qnF [dv (.ba 32) f.1,dv (.wa 8) f.2,dv (.ba 32) v.1,dv (.i .i64) v.2]
def qfm (N:Nat) (o_15:Vector UInt8 32) (o_15_2:Vector UInt32 8) (v:qcM):Tree (qcM⊕qbo):=
 .cond (decide (v.2 < ((32:Int)))) (
 .chk ((4:Int)≠0) <|
 .chk (in64 (v.2.tdiv 4)) <|
 .chk (0≤(v.2.tdiv 4)∧(v.2.tdiv 4) < ((8:Nat):Int)) <|
 .chk ((v.2.tdiv 4).toNat < 8) <|
 .chk ((4:Int)≠0) <|
 .chk (in64 (((8:Int)) * (v.2.tmod 4))) <|
 .chk (in64 (((24:Int)) - (((8:Int)) * (v.2.tmod 4)))) <|
 .chk (0≤(((24:Int)) - (((8:Int)) * (v.2.tmod 4)))) <|
 let w1:Int:=uShr (((o_15_2.toList.getD ((v.2.tdiv 4).toNat) 0).toNat:Nat):Int) (min (((24:Int)) - (((8:Int)) * (v.2.tmod 4))).toNat 32)
 .chk (0≤v.2∧v.2 < ((32:Nat):Int)) <|
 .chk (inB (IntKind.u8.wrap w1)) <|
 .chk (v.2.toNat < 32) <|
 .chk (in64 (v.2 + 1)) <|
 .ret (.inl (v.1.setIfInBounds v.2.toNat (UInt8.ofNat (IntKind.u8.wrap w1).toNat),v.2 + 1))) <|
 .ret (.inr (v.1,v.2,decide (v.2 < ((32:Int)))))
def qnG (N n:Nat) (f:qfs) (v:qcM):Option qbo:=loopG (qfm N f.1 f.2) some n v
theorem qto (N:Nat) (f:qfs) (n:Nat) (v:qcM) (y:qbo) (h:qnG N n f v=some y):LG Tryz.prog qaU 35 (lookC qbI 15) (qtA f v) (qcL f y):=
  loop_g qi (E:=qf5 N) (L:=lenv (qtF N)) (st:=qcL f) (g:=some) (R:=qcL f) (qcV N) (lenv_ok (by kernel_rfl) trivial) (rg0 (by kernel_rfl)) (fun v=>by kernel_rfl) (good_self (st:=qcL f) fun y=>by rfl) n v y h
def qhJ (N:Nat) (o_15:Vector UInt8 32) (o_15_2:Vector UInt32 8) (o_15_3:Vector UInt8 32) (s46_15:Int):Option qbo:=qnG N N (o_15,o_15_2) (o_15_3,s46_15)
def qnw (N:Nat):LEnt:=smL qnF [(.ba 32),(.wa 8),(.ba 32),(.i .i64)] qbo (fun x=>qhJ N x.1 x.2.1 x.2.2.1 x.2.2.2.1) cs1 fun x=>qcL (x.1,x.2.1)
theorem qsQ (N:Nat):LsOK Tryz.prog qaU 35 (lookC qbI 15) (qnw N):=smL_ok fun x z h=>qto N (x.1,x.2.1) N (x.2.2.1,x.2.2.2.1) z h
def qo7 (z:Vector UInt8 32):TV×THp:=(.tv (.ba 32) z,[])
def qoY (N:Nat) (a0:List UInt8):Tree (Vector UInt8 32):=
 .bind (qbY a0) fun r1=>
 .chk (avOK (((([]:List UInt8))++a0).length) (((([]:List UInt8))++a0).length) ((((([]:List UInt8))++a0)++[(UInt8.ofNat 128)]).length) 1) <|
 .bind (chkLs [((((([]:List UInt8))++a0)++[(UInt8.ofNat 128)]).length,(((([]:List UInt8))++a0)++[(UInt8.ofNat 128)]).length)] (qiY N ((Vector.replicate 32 0)) a0 (((([]:List UInt8))++a0)++[(UInt8.ofNat 128)]))) fun z2=>
 .bind (chkLs [(z2.1.length,z2.1.length)] (qmK N ((Vector.replicate 32 0)) a0 z2.1 0)) fun z3=>
 .bind (qos) fun r4=>
 .bind (qox) fun r5=>
 .bind (chkLs [(z3.1.length,z3.1.length)] (qe3 N z3.1 ((Vector.replicate 32 0)) ((((((((((Vector.replicate 8 0)).setIfInBounds 0 ((UInt32.ofNat 1779033703))).setIfInBounds 1 ((UInt32.ofNat 3144134277))).setIfInBounds 2 ((UInt32.ofNat 1013904242))).setIfInBounds 3 ((UInt32.ofNat 2773480762))).setIfInBounds 4 ((UInt32.ofNat 1359893119))).setIfInBounds 5 ((UInt32.ofNat 2600822924))).setIfInBounds 6 ((UInt32.ofNat 528734635))).setIfInBounds 7 ((UInt32.ofNat 1541459225))) ((((((((((((((((((((((((((((((((((((((((((((((((((((((((((((((((((Vector.replicate 64 0)).setIfInBounds 0 ((UInt32.ofNat 1116352408))).setIfInBounds 1 ((UInt32.ofNat 1899447441))).setIfInBounds 2 ((UInt32.ofNat 3049323471))).setIfInBounds 3 ((UInt32.ofNat 3921009573))).setIfInBounds 4 ((UInt32.ofNat 961987163))).setIfInBounds 5 ((UInt32.ofNat 1508970993))).setIfInBounds 6 ((UInt32.ofNat 2453635748))).setIfInBounds 7 ((UInt32.ofNat 2870763221))).setIfInBounds 8 ((UInt32.ofNat 3624381080))).setIfInBounds 9 ((UInt32.ofNat 310598401))).setIfInBounds 10 ((UInt32.ofNat 607225278))).setIfInBounds 11 ((UInt32.ofNat 1426881987))).setIfInBounds 12 ((UInt32.ofNat 1925078388))).setIfInBounds 13 ((UInt32.ofNat 2162078206))).setIfInBounds 14 ((UInt32.ofNat 2614888103))).setIfInBounds 15 ((UInt32.ofNat 3248222580))).setIfInBounds 16 ((UInt32.ofNat 3835390401))).setIfInBounds 17 ((UInt32.ofNat 4022224774))).setIfInBounds 18 ((UInt32.ofNat 264347078))).setIfInBounds 19 ((UInt32.ofNat 604807628))).setIfInBounds 20 ((UInt32.ofNat 770255983))).setIfInBounds 21 ((UInt32.ofNat 1249150122))).setIfInBounds 22 ((UInt32.ofNat 1555081692))).setIfInBounds 23 ((UInt32.ofNat 1996064986))).setIfInBounds 24 ((UInt32.ofNat 2554220882))).setIfInBounds 25 ((UInt32.ofNat 2821834349))).setIfInBounds 26 ((UInt32.ofNat 2952996808))).setIfInBounds 27 ((UInt32.ofNat 3210313671))).setIfInBounds 28 ((UInt32.ofNat 3336571891))).setIfInBounds 29 ((UInt32.ofNat 3584528711))).setIfInBounds 30 ((UInt32.ofNat 113926993))).setIfInBounds 31 ((UInt32.ofNat 338241895))).setIfInBounds 32 ((UInt32.ofNat 666307205))).setIfInBounds 33 ((UInt32.ofNat 773529912))).setIfInBounds 34 ((UInt32.ofNat 1294757372))).setIfInBounds 35 ((UInt32.ofNat 1396182291))).setIfInBounds 36 ((UInt32.ofNat 1695183700))).setIfInBounds 37 ((UInt32.ofNat 1986661051))).setIfInBounds 38 ((UInt32.ofNat 2177026350))).setIfInBounds 39 ((UInt32.ofNat 2456956037))).setIfInBounds 40 ((UInt32.ofNat 2730485921))).setIfInBounds 41 ((UInt32.ofNat 2820302411))).setIfInBounds 42 ((UInt32.ofNat 3259730800))).setIfInBounds 43 ((UInt32.ofNat 3345764771))).setIfInBounds 44 ((UInt32.ofNat 3516065817))).setIfInBounds 45 ((UInt32.ofNat 3600352804))).setIfInBounds 46 ((UInt32.ofNat 4094571909))).setIfInBounds 47 ((UInt32.ofNat 275423344))).setIfInBounds 48 ((UInt32.ofNat 430227734))).setIfInBounds 49 ((UInt32.ofNat 506948616))).setIfInBounds 50 ((UInt32.ofNat 659060556))).setIfInBounds 51 ((UInt32.ofNat 883997877))).setIfInBounds 52 ((UInt32.ofNat 958139571))).setIfInBounds 53 ((UInt32.ofNat 1322822218))).setIfInBounds 54 ((UInt32.ofNat 1537002063))).setIfInBounds 55 ((UInt32.ofNat 1747873779))).setIfInBounds 56 ((UInt32.ofNat 1955562222))).setIfInBounds 57 ((UInt32.ofNat 2024104815))).setIfInBounds 58 ((UInt32.ofNat 2227730452))).setIfInBounds 59 ((UInt32.ofNat 2361852424))).setIfInBounds 60 ((UInt32.ofNat 2428436474))).setIfInBounds 61 ((UInt32.ofNat 2756734187))).setIfInBounds 62 ((UInt32.ofNat 3204031479))).setIfInBounds 63 ((UInt32.ofNat 3329325298))))) fun z6=>
 .sum z6 (fun z7=>
 .bind (qhJ N ((Vector.replicate 32 0)) ((((((((((Vector.replicate 8 0)).setIfInBounds 0 ((UInt32.ofNat 1779033703))).setIfInBounds 1 ((UInt32.ofNat 3144134277))).setIfInBounds 2 ((UInt32.ofNat 1013904242))).setIfInBounds 3 ((UInt32.ofNat 2773480762))).setIfInBounds 4 ((UInt32.ofNat 1359893119))).setIfInBounds 5 ((UInt32.ofNat 2600822924))).setIfInBounds 6 ((UInt32.ofNat 528734635))).setIfInBounds 7 ((UInt32.ofNat 1541459225))) ((Vector.replicate 32 0)) 0) fun z8=>
 .ret z8.1) fun z7=>
 .bind (qhJ N ((Vector.replicate 32 0)) z7.1 ((Vector.replicate 32 0)) 0) fun z8=>
 .ret z8.1
def qb_ (N:Nat) (a0:List UInt8):Option (Vector UInt8 32):=(qoY N a0).run some
def qwk (N:Nat):List (Nat×LEnt):=[(2,qo0 N),(5,qpf N),(10,qnJ N),(15,qnw N)]
def qor (N:Nat):Ent:=smF ⟨35,[],[.x .bl],[],[]⟩ [.bl] (Vector UInt8 32) (fun x=>qb_ N x.1) cs1 fun _=>qo7
theorem qu3 (N:Nat):FnVal Tryz.prog ⟨35,[],[.x .bl],[],[]⟩ [.bl] (fun x=>qoY N x.1) (fun _=>qo7):=
  fn_val (H:=qaU) (L:=lenv (qwk N)) 0 qyz (qcV N) (lenv_ok (by kernel_rfl) ⟨qtx N,qtH N,qsO N,qsQ N,trivial⟩) (rg0 (by kernel_rfl)) fun x=>by kernel_rfl
theorem qm5 (N:Nat):SmOK Tryz.prog (qor N):=smF_ok (qu3 N)
end Go.Rx
end
set_option maxRecDepth 100000
noncomputable section
namespace Go.Rx
open Go.Proofs
def dg0:Vector UInt8 32:=#v[110,52,11,156,255,179,122,152,156,165,68,230,187,120,10,44,120,144,29,63,179,55,56,118,133,17,163,6,23,175,160,29]
theorem qAq:qb_ 300 [0]=some dg0:=by kernel_rfl
def dg1:Vector UInt8 32:=#v[45,113,22,66,183,38,176,68,1,98,124,169,251,172,50,245,200,83,15,177,144,60,196,219,2,37,135,23,146,26,72,129]
theorem qAr:qb_ 300 [120]=some dg1:=by kernel_rfl
def dg2:Vector UInt8 32:=#v[217,234,19,0,182,245,117,92,168,138,178,15,28,158,218,100,105,227,235,245,218,173,131,66,21,81,99,85,79,134,92,199]
theorem qAm:qb_ 300 [1,7,0,0,0,0,0,0,0,0,0,0,0,0,0,0,0,0,1,2,9,1,120]=some dg2:=by kernel_rfl
def shaT:List (List UInt8×Vector UInt8 32):=[([0],dg0),([120],dg1),([1,7,0,0,0,0,0,0,0,0,0,0,0,0,0,0,0,0,1,2,9,1,120],dg2)]
theorem qzc:TabOK (qb_ 300) shaT:=⟨qAq,qAr,qAm,trivial⟩
def quz:Ent:=smF ⟨35,[],[.x .bl],[],[]⟩ [.bl] (Vector UInt8 32) (fun x=>tabS shaT x.1) cs1 fun _=>qo7
theorem qzM:SmOK Tryz.prog quz:=smF_le (qm5 300) fun x z h=>tabS_ok qzc x.1 z h
end Go.Rx
end
set_option maxRecDepth 100000
noncomputable section
namespace Go.Rx
open Go.Proofs
def qzC:List (Nat×TH):=[(9,{ live:=[(1,[1,2]),(2,[1,2,3]),(3,[1,2,5,6]),(4,[1,2,5,6,7,8]),(5,[1,2,5,6,7,8,9,10,11]),(6,[0])],dec:=[42,48,55,58,61,66,72,75,80,84,88],rd:=[(1,[1]),(2,[3]),(3,[5]),(4,[7]),(5,[9])] }),
 (12,{ live:=[(0,[1,2]),(1,[1,2,13]),(2,[2,3]),(3,[1,2,4]),(4,[2,4,19,20,21]),(5,[2,4,19,20,21,22]),(6,[2,4,6,19,20,21]),(7,[2,4,6,7,19,20,21]),(8,[2,4,7,19,20,21,31,32,33]),(9,[2,4,7,19,20,21,31,32,33,34]),(10,[2,4,7,9,19,20,21,31,32,33]),(11,[2,4,7,9,10,19,20,21,31,32,33]),(12,[2,4,7,19,20,21,31,32,33]),(13,[2,4,7,19,20,21,31,32,33]),(14,[2,4,19,20,21]),(15,[2,4,19,20,21]),(16,[2,3])],rd:=[(6,[6]),(10,[9])] }),
 (16,{ live:=[(0,[1]),(1,[1,6,7,8]),(2,[1,6,7,8,9]),(3,[1,3,4,6,7,8]),(4,[1,6,7,8,32]),(5,[2]),(6,[1,6,7,8]),(7,[2])],dec:=[16,19],rd:=[(3,[4])] }),
 (17,{ live:=[(0,[2,3]),(1,[2,3,5]),(2,[2,3,6]),(3,[4])],dec:=[13] }),
 (18,{ live:=[(0,[2,3,4]),(1,[2,4,6]),(2,[2,4,6,12]),(3,[4,5]),(4,[4,5])] }),
 (20,{ live:=[(0,[3,4,5,6]),(1,[5,6,8]),(2,[6,8,10]),(3,[6,8,10,22]),(4,[6,7]),(5,[6,7])],rd:=[(1,[8])] }),
 (22,{ live:=[(0,[2,3,4,6]),(1,[2,3,4,6,9]),(2,[2,4,6,9,18]),(3,[9,10,20]),(4,[9,10,11]),(5,[9,10,11,13]),(6,[9,10,11,28]),(8,[6,14,15]),(9,[6,7,8])],fresh:=[18],rd:=[(1,[9]),(3,[10]),(4,[11]),(5,[12]),(8,[14])] }),
 (27,{ live:=[(0,[1]),(1,[1,6,7,8]),(2,[1,6,7,8,9]),(3,[1,3,4,6,7,8]),(4,[1,6,7,8,32]),(5,[2]),(6,[1,6,7,8]),(7,[2])],dec:=[16,19],rd:=[(3,[4])] }),
 (30,{ live:=[(0,[1,2]),(1,[2,3]),(2,[2])] }),
 (32,{ live:=[(0,[0]),(1,[0,6]),(2,[2]),(3,[0,3]),(4,[0,3,9]),(5,[0,3]),(6,[0,3]),(7,[2])] }),
 (33,{ live:=[(0,[0,2]),(1,[2])] }),
 (34,{ live:=[(0,[3,5,6,7,9,10]),(1,[3,5,6,7,9,10,27]),(2,[10,11]),(3,[10,11])],dec:=[15,19,23] }),
 (35,{ live:=[(0,[0,2]),(1,[0,2,3]),(2,[0,2,3,16]),(3,[0,2,3]),(4,[0,2,3,20]),(5,[0,2,3,20,21]),(6,[0,2,3,4,20]),(7,[0,2,3,20]),(8,[0,2,3,20]),(9,[2,3,5,6]),(10,[2,3,5,6,40]),(11,[2,3,5,6]),(12,[2,3,5,6]),(13,[2,5,7]),(14,[2,5,7,46]),(15,[2,5,7,46,47]),(16,[2,5,7,8,46]),(17,[2,5,7,46]),(18,[2,5,7,46]),(19,[2])],fresh:=[10] }),
 (44,{ live:=[(0,[1]),(1,[1,6,7,8]),(2,[1,6,7,8,9]),(3,[1,3,4,6,7,8]),(4,[1,6,7,8,33]),(5,[2]),(6,[1,6,7,8]),(7,[2])],dec:=[18,21,38,43],rd:=[(3,[4])] }),
 (45,{ live:=[(0,[2,3]),(1,[4])],dec:=[8] }),
 (46,{ live:=[(0,[2,3]),(1,[4])],dec:=[10,17,24,31] }),
 (47,{ live:=[(0,[0,1]),(1,[0,1,10]),(2,[4]),(3,[0,1,12,13]),(4,[0,1,12,13,14]),(5,[0,1,5,12,13]),(6,[0,1,12,13,24]),(7,[4]),(8,[0,1,12,13]),(9,[4])] }),
 (48,{ live:=[(0,[2,3,4]),(1,[5])],dec:=[11,18] }),
 (49,{ live:=[(0,[0,1,2]),(1,[0,1,2,14]),(2,[6]),(3,[1,2,15,16,17]),(4,[1,2,15,16,17,18]),(5,[1,2,7,8,15,16,17]),(6,[1,2,8,9,15,16,17]),(7,[1,2,15,16,17,30]),(8,[6]),(9,[1,2,15,16,17]),(10,[6])],rd:=[(5,[8]),(6,[9])] }),
 (50,{ live:=[(0,[0,1,2]),(1,[0,1,2,14]),(2,[6]),(3,[1,2,15,16,17]),(4,[1,2,15,16,17,18]),(5,[1,2,7,8,15,16,17]),(6,[1,2,8,9,15,16,17]),(7,[1,2,15,16,17,30]),(8,[6]),(9,[1,2,15,16,17]),(10,[6])],rd:=[(5,[8]),(6,[9])] }),
 (51,{ live:=[(0,[0,1]),(1,[0,1,7,8]),(2,[0,1,7,8,9]),(3,[0,1,5,7,8]),(4,[0,1,5,7,8,16]),(5,[4]),(6,[0,1,7,8]),(7,[4])] }),
 (52,{ live:=[(0,[1,2]),(1,[3])] }),
 (53,{ live:=[(0,[1,2]),(1,[1,2]),(2,[1,2,10,11]),(3,[1,2,10,11,12]),(4,[1,2,3,10,11]),(5,[1,2,10,11]),(6,[1,2,10,11]),(7,[2])],fresh:=[6] }),
 (54,{ live:=[(0,[0,1]),(1,[0,1,7,8]),(2,[0,1,7,8,9]),(3,[0,1,5,7,8]),(4,[0,1,5,7,8,16]),(5,[4]),(6,[0,1,7,8]),(7,[4])] }),
 (55,{ live:=[(0,[1,2]),(1,[3])] }),
 (56,{ live:=[(0,[1]),(1,[2])],esc:=true }),
 (59,{ live:=[(0,[1]),(1,[1,21]),(2,[2]),(3,[1,23,24,25]),(4,[1,23,24,25,26]),(5,[1,3,4,23,24,25]),(6,[1,4,5,23,24,25]),(7,[1,23,24,25,74]),(8,[2]),(9,[1,23,24,25]),(10,[2])],dec:=[10,15,32,37,40,55,60,66],rd:=[(5,[4])] }),
 (62,{ live:=[(0,[1,2]),(1,[1,2]),(2,[2])] }),
 (65,{ live:=[(0,[1]),(1,[1,15]),(2,[2,3]),(3,[1,4]),(4,[4,22,23,24]),(5,[4,22,23,24,25]),(6,[4,6,22,23,24]),(7,[4,6,7,22,23,24]),(8,[4,6,22,23,24]),(9,[4,22,23,24,47,48,49]),(10,[4,22,23,24,47,48,49,50]),(11,[4,10,22,23,24,47,48,49]),(12,[4,10,11,22,23,24,47,48,49]),(13,[4,22,23,24,47,48,49]),(14,[4,22,23,24,47,48,49]),(15,[4,22,23,24]),(16,[2,3])],fresh:=[20],esc:=true,rd:=[(6,[6]),(11,[10])] }),
 (66,{ live:=[(0,[0,2]),(1,[2])] }),
 (67,{ live:=[(0,[1,2,3,6]),(1,[2,3,6,8,9]),(2,[2,3,6,8,9,18]),(3,[6,7]),(4,[6,7])],rd:=[(1,[8])] }),
 (68,{ live:=[(0,[1,2,3,4,5]),(1,[5])] }),
 (69,{ live:=[(0,[0]),(1,[0,4]),(2,[2]),(3,[2])],vecs:=[5],esc:=true }),
 (70,{ live:=[(0,[0]),(1,[0])] }),
 (71,{ live:=[(0,[0]),(1,[0])] }),
 (72,{ live:=[(0,[0,2,6]),(1,[0,2,6,7]),(2,[0,2,6,7,19]),(3,[0,2,6,7,19,20]),(4,[0,2,6,7,8,19]),(5,[0,2,6,7,8,9,10,19]),(6,[0,2,6,7,9,11,19]),(7,[0,2,6,7,11,12,19]),(8,[0,2,6,7,11,12,19]),(9,[0,2,6,7,11,19]),(10,[0,2,6,7,19]),(11,[0,2,6,7,19]),(12,[0,7,95]),(13,[0,7,95,96]),(14,[0,7,13,95]),(15,[0,7,95]),(16,[0,7,95])],rd:=[(0,[6])] }),
 (78,{ live:=[(0,[2,3]),(1,[4])],dec:=[8,13,18,23,32,37] }),
 (79,{ live:=[(0,[1]),(1,[2])],dec:=[6,10,15,20] }),
 (80,{ live:=[(0,[0,1]),(1,[4])] }),
 (81,{ live:=[(0,[0]),(1,[0,4]),(2,[2]),(3,[2])],vecs:=[5],esc:=true }),
 (82,{ live:=[(0,[0]),(1,[0,4]),(2,[2]),(3,[2])],vecs:=[5],esc:=true }),
 (83,{ live:=[(0,[0,8,9,10]),(1,[0,8,9,10,11]),(2,[0,4,8,9,10]),(3,[0,4,8,9,10,15,16,17]),(4,[0,4,8,9,10,15,16,17,18]),(5,[0,4,6,8,9,10,15,16,17]),(6,[0,4,8,9,10,15,16,17,33]),(7,[0,4,8,9,10,15,16,17]),(8,[0,8,9,10])],rd:=[(2,[4]),(5,[6])] }),
 (85,{ live:=[(0,[1]),(1,[2])],dec:=[7,12] }),
 (86,{ live:=[(0,[2,3]),(1,[4])],dec:=[8] }),
 (87,{ live:=[(0,[0]),(1,[0,4]),(2,[2]),(3,[2])],vecs:=[5],esc:=true }),
 (88,{ live:=[(0,[0]),(1,[0,3]),(2,[0,3,4]),(3,[0,3,4,10,11]),(4,[0,3,4,10,11,12]),(5,[0,3,4,5,10,11]),(6,[0,3,4,10,11]),(7,[0,3,4,10,11]),(8,[4]),(9,[2])],esc:=true }),
 (89,{ live:=[(0,[1]),(1,[1,6]),(2,[2,3]),(3,[2,3])],fresh:=[15],esc:=true }),
 (90,{ live:=[(0,[1]),(1,[1,8]),(2,[2,3]),(3,[1,4]),(4,[2,3])],fresh:=[12],esc:=true }),
 (91,{ live:=[(0,[0]),(1,[0,3,4]),(2,[0,3,4,7,8]),(3,[0,3,4,7,8,9]),(4,[0,3,4,5,7,8]),(5,[0,3,4,7,8]),(6,[0,3,4,7,8]),(7,[0,3,4,7,8]),(8,[2])] }),
 (92,{ live:=[(0,[1,2,4]),(1,[1,2,4,6]),(2,[1,4,6,12]),(3,[1,4,6,12]),(4,[4,6,12]),(5,[4,5]),(6,[4,6,21]),(7,[4,5]),(8,[4,5])],rd:=[(1,[6])] }),
 (93,{ live:=[(0,[1,2]),(1,[1,2,3]),(2,[2,3,9,10,11]),(3,[2,3,9,10,11,12]),(4,[2,3,5,9,10,11]),(5,[2,3,5,9,10,11]),(6,[2,3,9,10,11,20,21,22]),(7,[2,3,9,10,11,20,21,22,23]),(8,[2,3,7,9,10,11,20,21,22]),(9,[2,3,9,10,11,20,21,22]),(10,[2,3,9,10,11,20,21,22]),(11,[2,3,9,10,11]),(12,[2])],rd:=[(4,[5]),(8,[7])] }),
 (94,{ live:=[(0,[2,3,4]),(1,[2,3,4,22]),(2,[4,5]),(3,[2,3,4,6]),(4,[2,3,4,6,7]),(5,[4,6,7,30,31,32]),(6,[4,6,7,30,31,32,33]),(7,[4,6,7,9,30,31,32]),(8,[4,6,7,9,10,11,30,31,32]),(9,[4,6,7,9,10,30,31,32,44]),(10,[4,6,7,9,30,31,32]),(11,[4,6,7,30,31,32]),(12,[4,6,7,30,31,32]),(13,[4,6,7,30,31,32]),(14,[4,6,7,67]),(15,[4,5]),(16,[4,6,7]),(17,[4,6,7,12]),(18,[4,6,12,71,72,73]),(19,[4,6,12,71,72,73,74]),(20,[4,6,12,14,71,72,73]),(21,[4,6,12,71,72,73]),(22,[4,6,12,71,72,73]),(23,[4,5])],dec:=[18],rd:=[(7,[9]),(8,[10]),(20,[14])] }),
 (95,{ live:=[(0,[0,2]),(1,[0,2,3]),(2,[0,2,3,7]),(3,[0,2,3,7,8]),(4,[0,2,3,4,7]),(5,[0,2,3,4,7,11]),(6,[0,2,3,7]),(7,[0,2,3,4,5,6,7]),(8,[0,2,3,7]),(9,[0,2,3,7]),(10,[2])] }),
 (96,{ live:=[(0,[0,1]),(1,[4])] }),
 (106,{ live:=[(0,[0]),(1,[0,4]),(2,[2]),(3,[2])] }),
 (108,{ live:=[(0,[0]),(1,[0,3]),(2,[3,6,7,8]),(3,[3,6,7,8,9]),(4,[3,5,6,7,8]),(5,[3,5,6,7,8,14]),(6,[2]),(7,[3,6,7,8]),(8,[2])] }),
 (109,{ live:=[(0,[0,1]),(1,[0,1,5]),(2,[0,1,5,6]),(3,[0,1,6,11]),(4,[12]),(5,[4]),(6,[4]),(7,[0,1,13]),(8,[4]),(9,[0,1,16]),(10,[4]),(11,[19]),(12,[4]),(13,[4])] }),
 (110,{ live:=[(0,[0]),(1,[0,3]),(2,[0,3]),(3,[0,3,7]),(4,[0,3]),(5,[0,3]),(6,[2])] }),
 (111,{ live:=[(0,[0]),(1,[2])],fresh:=[6],esc:=true }),
 (112,{ live:=[(0,[0,1]),(1,[4])] }),
 (113,{ live:=[(0,[2,3,4]),(1,[2,3,4,7]),(2,[4]),(3,[4])] }),
 (114,{ live:=[(0,[0]),(1,[0,3]),(2,[0,3,9,10,11]),(3,[0,3,9,10,11,12]),(4,[0,3,5,9,10,11]),(5,[0,3,9,10,11]),(6,[0,3,9,10,11,20]),(7,[0,3,9,10,11]),(8,[0,3,9,10,11]),(9,[0,6]),(10,[6,25,26,27]),(11,[6,25,26,27,28]),(12,[6,8,25,26,27]),(13,[6,25,26,27]),(14,[6,25,26,27]),(15,[2])],raw:=[121],fresh:=[24] }),
 (115,{ live:=[(0,[2,3,4]),(1,[2,3,4,23]),(2,[4,5]),(3,[2,3,4,6]),(4,[2,3,4,6]),(5,[2,3,4,6]),(6,[4,6,7]),(7,[4,7,43]),(8,[7,8]),(10,[4,5])],dec:=[12,17],fresh:=[43],rd:=[(8,[8])] }),
 (116,{ live:=[(0,[0,1,4])] }),
 (117,{ live:=[(0,[2,3]),(1,[4])] }),
 (118,{ live:=[(0,[0,1]),(1,[0,5]),(2,[4])] }),
 (120,{ live:=[(0,[0]),(1,[2])] }),
 (121,{ live:=[(0,[0,1]),(1,[0,1,6]),(2,[0,1]),(3,[0,1]),(4,[0,1,16]),(5,[0]),(6,[4])],esc:=true,nil:=[(5,[⟨.sl 0,900001210,(.sl 19 (.ag [(.ba 16),(.ag [(.i .i64),(.i .i64)]),(.sl 4 (.ag [(.i .i64),(.ag [(.ag [(.i .i64),(.i .i64)]),.s])]))]))⟩])] }),
 (122,{ live:=[(0,[0,3]),(1,[0,9,10,11]),(2,[0,9,10,11,12]),(3,[0,5,9,10,11]),(4,[0,5,6,7,9,10,11]),(5,[0,5,6,9,10,11,22]),(6,[0,9,10,11]),(7,[0,9,10,11]),(8,[0,9,10,11])],rd:=[(3,[5]),(4,[6])] }),
 (123,{ live:=[(0,[2,3]),(1,[4])],esc:=true }),
 (124,{ live:=[(0,[0,1,2,3,4,10]),(1,[0,1,2,3,4,10,11]),(2,[0,1,2,3,4,10,11,12]),(3,[0,1,2,3,4,10,11,12,25]),(5,[0,1,2,3,4,10,11,12,32]),(7,[0,1,2,3,4,10,11,12,39]),(8,[0,1,2,3,4,10,11,12]),(9,[0,1,2,3,4,10,11,12]),(10,[0,1,2,3,4,10,11,12,13,14]),(11,[0,1,2,3,4,10,11,12,13,14,56]),(12,[0,1,2,3,4,10,11,12,13]),(13,[0,1,2,3,4,10,11,12,13]),(14,[0,1,2,3,4,10,11,12,13,14]),(15,[0,1,2,3,4,10,11,12,13,75]),(16,[0,1,2,3,4,10,11,12,13,80]),(17,[0,1,2,3,4,10,11,12,13,97]),(18,[0,2,3,4,10,11,15]),(19,[0,1,2,3,4,10,11]),(20,[0,1,2,3,4,12,16,17]),(21,[0,1,2,3,4,11,12,16]),(22,[0,1,2,3,4,11,12,16,18,19]),(23,[0,1,2,3,4,11,16,18,19,20]),(24,[0,1,2,3,4,11,16,18,19,20,125]),(25,[0,1,2,3,4,10,11,16]),(26,[0,2,3,4,10,11,16]),(27,[0,1,2,3,4,10,11]),(28,[0,1,2,3,4,10,11,16]),(29,[0,1,3,4,10,11,16]),(30,[0,1,2,3,4,10,11])],dec:=[69,72,83] }),
 (125,{ live:=[(0,[0]),(1,[2]),(2,[2])] }),
 (126,{ live:=[(0,[2,3,4]),(1,[2,3,4,7]),(2,[4]),(3,[4])] }),
 (127,{ live:=[(0,[0,1,2,7]),(1,[0,1,2,7,8]),(2,[0,1,2,4,7]),(3,[0,1,2,4,5,6,7]),(4,[0,1,2,7,30]),(5,[0,1,2,7])],dec:=[17,23],rd:=[(3,[5])] }),
 (128,{ live:=[(0,[0,1,2,3,8]),(1,[0,1,2,3,8,14]),(2,[0,1,2,3,8]),(3,[0,1,2,3,8,9]),(4,[0,1,2,3,8,9,34]),(5,[0,1,2,3,8,9]),(6,[0,1,2,3,8,9])],dec:=[21] }),
 (129,{ live:=[(0,[0,1,2,3,8]),(1,[0,1,2,3,8,9]),(2,[0,3,8,9,10]),(3,[0,3,8,9,10,11]),(4,[0,3,8,9,10,11,21]),(5,[0,3,8,9,10,11]),(6,[0,3,8,9,10,11]),(7,[0,3,8,9,12]),(8,[0,3,8,9,12,33]),(9,[0,3,8,9,12]),(10,[0,3,8,9,12]),(11,[0,3,8,9,12])] }),
 (130,{ live:=[(0,[0,1,8]),(1,[0,1,8,17]),(2,[0,1,8,9]),(3,[0,1,8,9,10]),(4,[0,1,8,9,10,11]),(5,[0,1,8,9,10,11,35]),(6,[0,1,8,9,10,11]),(7,[0,1,8,9,10,11,12]),(8,[0,1,8,9,10,11,12,45]),(9,[0,1,8,9,10,11,12]),(10,[0,1,8,9,10,11])] }),
 (131,{ live:=[(0,[0,1,2,3]),(1,[0,1,3,10]),(2,[0,1,3,10,11]),(3,[0,1,3,10,11,12]),(4,[0,1,3,10,11,12,13]),(5,[0,3,10,11,12,13,14]),(6,[0,3,10,11,12,13,14,34]),(7,[0,3,11,12,13,14,36]),(8,[0,3,11,12,13,14]),(9,[0,3,11,12,13,14]),(10,[0,3,11,12,13,14]),(11,[11,13]),(12,[13,55]),(13,[8,9]),(14,[13,55,57]),(15,[8,9]),(16,[13,60]),(17,[8,9])] }),
 (132,{ live:=[(0,[0,2,8]),(1,[0,8,9]),(2,[0,8,9,15]),(3,[0,8,9]),(4,[0,8,9]),(5,[0,8,9])] }),
 (133,{ live:=[(0,[0,1,2,3]),(1,[0,1,2,3,9]),(2,[0,1,2,3,9,10]),(3,[0,1,2,3,9,10,16]),(4,[0,1,2,3,9,10]),(5,[0,1,2,3,9,10,36]),(6,[0,1,2,3,9,10]),(7,[0,1,2,3,9,10,41]),(8,[8]),(9,[0,1,2,3,9,10,45]),(10,[8]),(11,[0,1,2,3,9,10]),(12,[0,1,2,3,9,10,65]),(13,[0,1,2,3,9,10,11]),(14,[0,1,2,3,9,10,11,69]),(15,[0,1,2,3,9,10,11]),(16,[0,1,2,3,9,10,11,84]),(17,[0,1,2,3,9,10,11]),(18,[0,1,2,3,9,10,104]),(19,[0,1,2,3,9,10,12]),(20,[0,1,2,3,9,10,12,109]),(21,[0,1,2,3,9,10,12]),(22,[0,1,2,3,9,10,12,124]),(23,[0,1,2,3,9,10,12]),(24,[8])],dec:=[22] }),
 (134,{ live:=[(0,[0,1,2,3,4]),(1,[0,1,2,4]),(2,[0,1,4,11,12]),(3,[0,1,4,11,12,47]),(4,[0,1,4,11,12]),(5,[0,1,4,11,12,65]),(6,[0,1,4,11,12]),(7,[0,1,4,11,12,70]),(8,[0,1,4,11,12]),(9,[0,1,4,11,12]),(10,[0,1,4,11,12]),(11,[10])],dec:=[34,53] }),
 (135,{ live:=[(0,[0,1,2,3,4]),(1,[0,1,2,4]),(2,[0,1,4,12,13]),(3,[0,1,4,12,13,47]),(4,[0,1,4,12,13]),(5,[0,1,4,12,13,66]),(6,[0,1,4,12,13]),(7,[0,1,4,12,13,71]),(8,[13]),(9,[10,11]),(10,[0,1,4,12,13]),(11,[0,1,4,12,13]),(12,[0,1,4,12,13]),(13,[0,1,4,12,13,120]),(14,[0,1,4,12,13]),(15,[0,1,4,12,13,139]),(16,[0,1,4,12,13]),(17,[0,1,4,12,13,144]),(18,[0,1,4,12,13]),(19,[0,1,4,12,13]),(20,[0,1,4,12,13]),(21,[13]),(22,[10,11])],dec:=[35,53,108,126] }),
 (136,{ live:=[(0,[0,2]),(1,[0,2,4]),(2,[0]),(3,[0,2]),(4,[0,2,8]),(5,[0,2]),(6,[0,2]),(7,[2])] }),
 (137,{ live:=[(0,[0,2]),(1,[0,2,4]),(2,[0]),(3,[0,2]),(4,[0,2,8]),(5,[0,2]),(6,[0,2]),(7,[0,2,14]),(8,[0,2]),(9,[0,2]),(10,[2])] }),
 (138,{ live:=[(0,[2,3]),(1,[5]),(2,[13,14]),(3,[13,14,15]),(4,[7,13,14]),(5,[8,13,14]),(6,[8,13,14,20]),(7,[4]),(8,[13,14]),(9,[4])],rd:=[(1,[5])] }),
 (139,{ live:=[(0,[0,2,3,4,10]),(1,[0,2,3,4,10,11]),(2,[0,2,3,4,10,11,18]),(3,[0,2,3,4,10,11,40]),(4,[0,2,3,4,10,11]),(5,[0,2,3,4,10,11,58]),(6,[0,2,3,4,11]),(7,[0,2,3,4,10])],dec:=[23] }),
 (140,{ live:=[(0,[0]),(1,[2])] }),
 (141,{ live:=[(0,[0]),(1,[0]),(2,[0]),(3,[0]),(4,[2])] }),
 (142,{ live:=[(0,[0,1,2,3]),(1,[8])] }),
 (143,{ live:=[(0,[0,1,2,3,4,5]),(1,[0,1,2,3,4,5]),(2,[0,1,2,4,5]),(3,[2]),(4,[12])] }),
 (144,{ live:=[(0,[0,1]),(1,[2])] }),
 (145,{ live:=[(0,[2,3,4]),(1,[2,3,4,7]),(2,[6]),(3,[12]),(4,[6]),(5,[6])] }),
 (146,{ live:=[(0,[0,1]),(1,[2])] }),
 (147,{ live:=[(0,[2,3,4]),(1,[2,3,4,7]),(2,[6]),(3,[12]),(4,[6]),(5,[6])] }),
 (148,{ live:=[(0,[2,3]),(1,[4])],dec:=[8] }),
 (149,{ live:=[(0,[0,1]),(1,[2])] }),
 (150,{ live:=[(0,[0,1]),(1,[0,1,5]),(2,[0,1,5,6]),(3,[0,1,6,11]),(4,[12]),(5,[4]),(6,[4]),(7,[0,1,13]),(8,[4]),(9,[0,1,16]),(10,[4]),(11,[19]),(12,[4]),(13,[4])] }),
 (151,{ live:=[(0,[0,1,2,3,4]),(1,[1,2,3,22]),(2,[1,2]),(3,[10,11]),(4,[10,11])] }),
 (152,{ live:=[(0,[0]),(1,[2])] })]
def qzH (k:FuncId):TH:=(get qzC k).getD {}
theorem qzh:KsOK Tryz.prog [22,115]:=⟨ksOK_one (fn:=Tryz.f22) (c:=Tryz.f22.body.getD .skip) (by kernel_rfl) (by kernel_rfl) (by kernel_rfl),ksOK_one (fn:=Tryz.f115) (c:=Tryz.f115.body.getD .skip) (by kernel_rfl) (by kernel_rfl) (by kernel_rfl),trivial⟩
def qvJ:Option Bool:=some true
theorem qw3:autoR Tryz.prog qzH [22,115] [quz] 400 30 9=some (.pv (.b true),[]):=by kernel_rfl
def qvi:Ent:=smF ⟨9,[],[],[],[]⟩ [] Bool (fun _=>qvJ) cs1 fun _ z=>(xb z,[])
theorem qyY:SmOK Tryz.prog qvi:=auto_ok Tryz.prog (fun _=>rfl) qi (base:=[quz]) ⟨qzM,trivial⟩ qzh qw3
end Go.Rx
end
set_option maxRecDepth 100000
noncomputable section
namespace Go.Rx
open Go.Proofs
noncomputable def qqW:Code:=Tryz.f36.body.getD .skip
theorem qyb:FnF Tryz.prog 36 Tryz.f36 qqW:=⟨qi,by kernel_rfl,by kernel_rfl,by kernel_rfl⟩
def qei:TH:={ live:=[(0,[1]),(1,[1,7]),(2,[2]),(3,[1,3]),(4,[1,3,12]),(5,[1,3]),(6,[1,3,23]),(7,[2]),(8,[2])] }
def qh4 (N:Nat):List Ent:=[]
theorem qg3 (N:Nat):SmAll Tryz.prog (qh4 N):=trivial
abbrev qav:=qf
abbrev zM:=Unit⊕(Int×Bool)
def QQ (f:qav):zM→Ex×TSt
 | .inl y=>(.ret,⟨0,24,[],[(2,.bc false)],[],false,[]⟩)
 | .inr y=>(.exit 0,⟨0,24,[],[(1,.p 10 [] 0),(3,xi y.1),(12,xb y.2)],[(10,.cell false (.tv qv f))],false,[]⟩)
def qlA (N:Nat):List (Nat×LEnt):=[]
abbrev Q8:=Int
def qgg:SP:=⟨0,24,[],[(1,.k (.p 10 [] 0)),(3,.x (.i .i64))],[(10,.cell false (.x qv))],false,[]⟩
def qlv (f:qav) (v:Q8):TSt:=fillS qgg [dv qv f,dv (.i .i64) v]
def qat (N:Nat) (o_4:qf) (v:Q8):Tree (Q8⊕zM):=
 .cond (decide (v < (((qf.F o_4).length:Nat):Int))) (
 .bind (getI (qf.F o_4) v) fun e1=>
 .cond (decide (((300:Int)) < (((qr.V (qk.C e1)).length:Nat):Int))) (
 .ret (.inr (.inl ()))) <|
 .chk (in64 (v + 1)) <|
 .ret (.inl (v + 1))) <|
 .ret (.inr (.inr ((v,decide (v < (((qf.F o_4).length:Nat):Int))))))
def qgq (N n:Nat) (f:qav) (v:Q8):Option zM:=loopG (qat N f) some n v
theorem qlW (N:Nat) (f:qav) (n:Nat) (v:Q8) (y:zM) (h:qgq N n f v=some y):LG Tryz.prog qei 36 (lookC qqW 4) (qlv f v) (QQ f y):=
  loop_g qi (E:=qh4 N) (L:=lenv (qlA N)) (st:=QQ f) (g:=some) (R:=QQ f) (qg3 N) (lenv_ok (by kernel_rfl) trivial) (rg0 (by kernel_rfl)) (fun v=>by kernel_rfl) (good_self (st:=QQ f) fun y=>by rcases y with _ | _<;>rfl) n v y h
def qdf (N:Nat) (o_4:qf) (s3_4:Int):Option zM:=qgq N N o_4 s3_4
def qfM (N:Nat):LEnt:=smL qgg [qv,(.i .i64)] zM (fun x=>qdf N x.1 x.2.1) (csS cs1) fun x=>QQ x.1
theorem qkZ (N:Nat):LsOK Tryz.prog qei 36 (lookC qqW 4) (qfM N):=smL_ok fun x z h=>qlW N x.1 N x.2.1 z h
def qpl (z:Bool):TV×THp:=(xb z,[])
def qdA (N:Nat) (a0:qf):Tree (Bool):=
 .cond (decide (((12:Int)) < (((qf.F a0).length:Nat):Int))) (
 .ret false) <|
 .bind (qdf N a0 0) fun z1=>
 .sum z1 (fun z2=>
 .ret false) fun z2=>
 .ret true
def QK (N:Nat) (a0:qf):Option (Bool):=(qdA N a0).run some
def qov (N:Nat):List (Nat×LEnt):=[(4,qfM N)]
def qib (N:Nat):Ent:=smF ⟨36,[],[.x qv],[],[]⟩ [qv] (Bool) (fun x=>QK N x.1) cs1 fun _=>qpl
theorem qn1 (N:Nat):SmOK Tryz.prog (qib N):=
  fn_ok (H:=qei) (L:=lenv (qov N)) (ts:=[qv]) (T:=fun x=>qdA N x.1) 0 qyb (qg3 N) (lenv_ok (by kernel_rfl) ⟨qkZ N,trivial⟩) (rg0 (by kernel_rfl)) fun x=>by kernel_rfl
noncomputable def qq2:Code:=Tryz.f10.body.getD .skip
theorem qyM:FnF Tryz.prog 10 Tryz.f10 qq2:=⟨qi,by kernel_rfl,by kernel_rfl,by kernel_rfl⟩
def qdS:TH:={ live:=[(0,[1]),(1,[1,8]),(2,[2]),(3,[1,3]),(4,[1,3,13]),(5,[1,3]),(6,[1,3,4]),(7,[1,3,23]),(8,[2]),(9,[2])] }
def qhT (N:Nat):List Ent:=[qib N]
theorem qgy (N:Nat):SmAll Tryz.prog (qhT N):=⟨qn1 N,trivial⟩
abbrev qaf:=qh
abbrev zD:=Unit⊕(Int×Bool)
def Q5 (f:qaf):zD→Ex×TSt
 | .inl y=>(.ret,⟨0,24,[],[(2,.bc false)],[],false,[]⟩)
 | .inr y=>(.exit 0,⟨0,24,[],[(1,.p 10 [] 0),(3,xi y.1),(13,xb y.2)],[(10,.cell false (.tv qt f))],false,[]⟩)
def qlr (N:Nat):List (Nat×LEnt):=[]
abbrev QP:=Int
def qf4:SP:=⟨0,24,[],[(1,.k (.p 10 [] 0)),(3,.x (.i .i64))],[(10,.cell false (.x qt))],false,[]⟩
def qlU (f:qaf) (v:QP):TSt:=fillS qf4 [dv qt f,dv (.i .i64) v]
def qaq (N:Nat) (o_4:qh) (v:QP):Tree (QP⊕zD):=
 .cond (decide (v < (((qh.R o_4).length:Nat):Int))) (
 .bind (getI (qh.R o_4) v) fun e1=>
 .bind (QK N e1) fun r2=>
 .cond (!r2) (
 .ret (.inr (.inl ()))) <|
 .chk (in64 (v + 1)) <|
 .ret (.inl (v + 1))) <|
 .ret (.inr (.inr ((v,decide (v < (((qh.R o_4).length:Nat):Int))))))
def qgf (N n:Nat) (f:qaf) (v:QP):Option zD:=loopG (qaq N f) some n v
theorem qly (N:Nat) (f:qaf) (n:Nat) (v:QP) (y:zD) (h:qgf N n f v=some y):LG Tryz.prog qdS 10 (lookC qq2 4) (qlU f v) (Q5 f y):=
  loop_g qi (E:=qhT N) (L:=lenv (qlr N)) (st:=Q5 f) (g:=some) (R:=Q5 f) (qgy N) (lenv_ok (by kernel_rfl) trivial) (rg0 (by kernel_rfl)) (fun v=>by kernel_rfl) (good_self (st:=Q5 f) fun y=>by rcases y with _ | _<;>rfl) n v y h
def qc6 (N:Nat) (o_4:qh) (s3_4:Int):Option zD:=qgf N N o_4 s3_4
def qgp (N:Nat):LEnt:=smL qf4 [qt,(.i .i64)] zD (fun x=>qc6 N x.1 x.2.1) (csS cs1) fun x=>Q5 x.1
theorem qkv (N:Nat):LsOK Tryz.prog qdS 10 (lookC qq2 4) (qgp N):=smL_ok fun x z h=>qly N x.1 N x.2.1 z h
def qpy (z:Bool):TV×THp:=(xb z,[])
def qdO (N:Nat) (a0:qh):Tree (Bool):=
 .cond (decide (((14:Int)) < (((qh.R a0).length:Nat):Int))) (
 .ret false) <|
 .bind (qc6 N a0 0) fun z1=>
 .sum z1 (fun z2=>
 .ret false) fun z2=>
 .ret true
def qcD (N:Nat) (a0:qh):Option (Bool):=(qdO N a0).run some
def qoo (N:Nat):List (Nat×LEnt):=[(4,qgp N)]
def qhR (N:Nat):Ent:=smF ⟨10,[],[.x qt],[],[]⟩ [qt] (Bool) (fun x=>qcD N x.1) cs1 fun _=>qpy
theorem qn2 (N:Nat):SmOK Tryz.prog (qhR N):=
  fn_ok (H:=qdS) (L:=lenv (qoo N)) (ts:=[qt]) (T:=fun x=>qdO N x.1) 0 qyM (qgy N) (lenv_ok (by kernel_rfl) ⟨qkv N,trivial⟩) (rg0 (by kernel_rfl)) fun x=>by kernel_rfl
noncomputable def qjn:Code:=Tryz.f11.body.getD .skip
theorem qyN:FnF Tryz.prog 11 Tryz.f11 qjn:=⟨qi,by kernel_rfl,by kernel_rfl,by kernel_rfl⟩
def Z0:TH:={ live:=[(0,[1]),(1,[1,8]),(2,[2]),(3,[1,3]),(4,[1,3,13]),(5,[1,3]),(6,[1,3,23]),(7,[2]),(8,[1,3,4]),(9,[1,3,4,32]),(10,[1,3,4]),(11,[1,3,4,46]),(12,[2]),(13,[2])] }
def qdZ (N:Nat):List Ent:=[]
theorem qcy (N:Nat):SmAll Tryz.prog (qdZ N):=trivial
abbrev qam:=qb×Int
abbrev zx:=Unit⊕(Int×Bool)
def QW (f:qam):zx→Ex×TSt
 | .inl y=>(.ret,⟨0,47,[],[(2,.bc false)],[],false,[]⟩)
 | .inr y=>(.exit 2,⟨0,47,[],[(1,.p 10 [] 0),(3,xi f.2),(4,xi y.1),(32,xb y.2)],[(10,.cell false (.tv qn f.1))],false,[]⟩)
def qlw (N:Nat):List (Nat×LEnt):=[]
abbrev QS:=Int
def qf3:SP:=⟨0,47,[],[(1,.k (.p 10 [] 0)),(3,.x (.i .i64)),(4,.x (.i .i64))],[(10,.cell false (.x qn))],false,[]⟩
def ql0 (f:qam) (v:QS):TSt:=fillS qf3 [dv qn f.1,dv (.i .i64) f.2,dv (.i .i64) v]
def qar (N:Nat) (o_9:qb) (s3_9:Int) (v:QS):Tree (QS⊕zx):=
 .bind (getI (qb.L o_9) s3_9) fun e1=>
 .cond (decide (v < (((qd.F e1).length:Nat):Int))) (
 .bind (getI (qb.L o_9) s3_9) fun e2=>
 .bind (getI (qd.F e2) v) fun e3=>
 .cond (decide (((40:Int)) < (((qe.B e3).length:Nat):Int))) (
 .ret (.inr (.inl ()))) <|
 .chk (in64 (v + 1)) <|
 .ret (.inl (v + 1))) <|
 .ret (.inr (.inr ((v,decide (v < (((qd.F e1).length:Nat):Int))))))
def qfQ (N n:Nat) (f:qam) (v:QS):Option zx:=loopG (qar N f.1 f.2) some n v
theorem qmu (N:Nat) (f:qam) (n:Nat) (v:QS) (y:zx) (h:qfQ N n f v=some y):LG Tryz.prog Z0 11 (lookC (lookC qjn 4) 9) (ql0 f v) (QW f y):=
  loop_g qi (E:=qdZ N) (L:=lenv (qlw N)) (st:=QW f) (g:=some) (R:=QW f) (qcy N) (lenv_ok (by kernel_rfl) trivial) (rg0 (by kernel_rfl)) (fun v=>by kernel_rfl) (good_self (st:=QW f) fun y=>by rcases y with _ | _<;>rfl) n v y h
def qdb (N:Nat) (o_9:qb) (s3_9:Int) (s4_9:Int):Option zx:=qfQ N N (o_9,s3_9) s4_9
def qf8 (N:Nat):LEnt:=smL qf3 [qn,(.i .i64),(.i .i64)] zx (fun x=>qdb N x.1 x.2.1 x.2.2.1) (csS cs1) fun x=>QW (x.1,x.2.1)
theorem qkF (N:Nat):LsOK Tryz.prog Z0 11 (lookC (lookC qjn 4) 9) (qf8 N):=smL_ok fun x z h=>qmu N (x.1,x.2.1) N x.2.2.1 z h
abbrev qap:=qb
abbrev zu:=Unit⊕(Int×Bool)
def QM (f:qap):zu→Ex×TSt
 | .inl y=>(.ret,⟨0,47,[],[(2,.bc false)],[],false,[]⟩)
 | .inr y=>(.exit 0,⟨0,47,[],[(1,.p 10 [] 0),(3,xi y.1),(13,xb y.2)],[(10,.cell false (.tv qn f))],false,[]⟩)
def ql5 (N:Nat):List (Nat×LEnt):=[(9,qf8 N)]
abbrev QT:=Int
def qgs:SP:=⟨0,47,[],[(1,.k (.p 10 [] 0)),(3,.x (.i .i64))],[(10,.cell false (.x qn))],false,[]⟩
def qmg (f:qap) (v:QT):TSt:=fillS qgs [dv qn f,dv (.i .i64) v]
def qac (N:Nat) (o_4:qb) (v:QT):Tree (QT⊕zu):=
 .cond (decide (v < (((qb.L o_4).length:Nat):Int))) (
 .bind (getI (qb.L o_4) v) fun e1=>
 .cond (decide (((12:Int)) < (((qd.F e1).length:Nat):Int))) (
 .ret (.inr (.inl ()))) <|
 .bind (qdb N o_4 v 0) fun z2=>
 .sum z2 (fun z3=>
 .ret (.inr (.inl ()))) fun z3=>
 .chk (in64 (v + 1)) <|
 .ret (.inl (v + 1))) <|
 .ret (.inr (.inr ((v,decide (v < (((qb.L o_4).length:Nat):Int))))))
def qgw (N n:Nat) (f:qap) (v:QT):Option zu:=loopG (qac N f) some n v
theorem ql6 (N:Nat) (f:qap) (n:Nat) (v:QT) (y:zu) (h:qgw N n f v=some y):LG Tryz.prog Z0 11 (lookC qjn 4) (qmg f v) (QM f y):=
  loop_g qi (E:=qdZ N) (L:=lenv (ql5 N)) (st:=QM f) (g:=some) (R:=QM f) (qcy N) (lenv_ok (by kernel_rfl) ⟨qkF N,trivial⟩) (rg0 (by kernel_rfl)) (fun v=>by kernel_rfl) (good_self (st:=QM f) fun y=>by rcases y with _ | _<;>rfl) n v y h
def qc9 (N:Nat) (o_4:qb) (s3_4:Int):Option zu:=qgw N N o_4 s3_4
def qgb (N:Nat):LEnt:=smL qgs [qn,(.i .i64)] zu (fun x=>qc9 N x.1 x.2.1) (csS cs1) fun x=>QM x.1
theorem qld (N:Nat):LsOK Tryz.prog Z0 11 (lookC qjn 4) (qgb N):=smL_ok fun x z h=>ql6 N x.1 N x.2.1 z h
def qoB (z:Bool):TV×THp:=(xb z,[])
def qd0 (N:Nat) (a0:qb):Tree (Bool):=
 .cond (decide (((14:Int)) < (((qb.L a0).length:Nat):Int))) (
 .ret false) <|
 .bind (qc9 N a0 0) fun z1=>
 .sum z1 (fun z2=>
 .ret false) fun z2=>
 .ret true
def qa3 (N:Nat) (a0:qb):Option (Bool):=(qd0 N a0).run some
def qpq (N:Nat):List (Nat×LEnt):=[(4,qgb N)]
def qh5 (N:Nat):Ent:=smF ⟨11,[],[.x qn],[],[]⟩ [qn] (Bool) (fun x=>qa3 N x.1) cs1 fun _=>qoB
theorem qnU (N:Nat):SmOK Tryz.prog (qh5 N):=
  fn_ok (H:=Z0) (L:=lenv (qpq N)) (ts:=[qn]) (T:=fun x=>qd0 N x.1) 0 qyN (qcy N) (lenv_ok (by kernel_rfl) ⟨qld N,trivial⟩) (rg0 (by kernel_rfl)) fun x=>by kernel_rfl
noncomputable def qyu:Code:=Tryz.f79.body.getD .skip
theorem qyG:FnF Tryz.prog 79 Tryz.f79 qyu:=⟨qi,by kernel_rfl,by kernel_rfl,by kernel_rfl⟩
def qu0:TH:={ live:=[(0,[1]),(1,[2])],dec:=[6,10,15,20] }
def quW (N:Nat):List Ent:=[]
theorem qs6 (N:Nat):SmAll Tryz.prog (quW N):=trivial
def quH (z:Bool):TV×THp:=(xb z,[])
def qkI (a0:qc):Tree (Bool):=
 .cond (eqE qo a0 (qc.mk 0 0)) (
 .ret true) <|
 .cond (decide (((0:Int)) < (qc.N a0))) (
 .cond (decide ((qc.N a0)≤((1099511627776:Int)))) (
 .cond (decide (((0:Int))≤(qc.Rep a0))) (
 .ret (decide ((qc.Rep a0) < ((8:Int))))) <|
 .ret false) <|
 .ret false) <|
 .ret false
def qbz (a0:qc):Option (Bool):=(qkI a0).run some
def quN:List (Nat×LEnt):=[]
def qbK:Ent:=smF ⟨79,[],[.x qo],[],[]⟩ [qo] (Bool) (fun x=>qbz x.1) cs1 fun _=>quH
theorem qbV:SmOK Tryz.prog (qbK):=
  fn_ok (H:=qu0) (L:=lenv (quN)) (ts:=[qo]) (T:=fun x=>qkI x.1) 0 qyG (qs6 0) (lenv_ok (by kernel_rfl) trivial) (rg0 (by kernel_rfl)) fun x=>by kernel_rfl
noncomputable def qxs:Code:=Tryz.f85.body.getD .skip
theorem qyo:FnF Tryz.prog 85 Tryz.f85 qxs:=⟨qi,by kernel_rfl,by kernel_rfl,by kernel_rfl⟩
def qvx:TH:={ live:=[(0,[1]),(1,[2])],dec:=[7,12] }
def qvU (N:Nat):List Ent:=[qbK]
theorem qus (N:Nat):SmAll Tryz.prog (qvU N):=⟨qbV,trivial⟩
def qv7 (z:Bool):TV×THp:=(xb z,[])
def qm0 (a0:qr):Tree (Bool):=
 .cond (!(eqE qo (qr.S a0) (qc.mk 0 0))) (
 .bind (qbz (qr.S a0)) fun r1=>
 .cond r1 (
 .ret (decide ((((qr.V a0).length:Nat):Int)≤((200:Int))))) <|
 .ret false) <|
 .ret false
def qd9 (a0:qr):Option (Bool):=(qm0 a0).run some
def qvK:List (Nat×LEnt):=[]
def qm1:Ent:=smF ⟨85,[],[.x q8],[],[]⟩ [q8] (Bool) (fun x=>qd9 x.1) cs1 fun _=>qv7
theorem qqH:SmOK Tryz.prog (qm1):=
  fn_ok (H:=qvx) (L:=lenv (qvK)) (ts:=[q8]) (T:=fun x=>qm0 x.1) 0 qyo (qus 0) (lenv_ok (by kernel_rfl) trivial) (rg0 (by kernel_rfl)) fun x=>by kernel_rfl
noncomputable def qwn:Code:=Tryz.f120.body.getD .skip
theorem qwp:FnF Tryz.prog 120 Tryz.f120 qwn:=⟨qi,by kernel_rfl,by kernel_rfl,by kernel_rfl⟩
def qrO:TH:={ live:=[(0,[0]),(1,[2])] }
def qr5 (N:Nat):List Ent:=[]
theorem qp3 (N:Nat):SmAll Tryz.prog (qr5 N):=trivial
def qr9 (a0:Int) (z:Unit):TV×THp:=(xb (!decide (a0=a0)),[])
def qgO (a0:Int):Tree (Unit):=
 .ret ()
def qfy (a0:Int):Option (Unit):=(qgO a0).run some
def qr2:List (Nat×LEnt):=[]
def qj9:Ent:=smF ⟨120,[],[.x (.i .i64)],[],[]⟩ [(.i .i64)] (Unit) (fun x=>qfy x.1) cs1 fun x=>qr9 x.1
theorem qq6:SmOK Tryz.prog (qj9):=
  fn_ok (H:=qrO) (L:=lenv (qr2)) (ts:=[(.i .i64)]) (T:=fun x=>qgO x.1) 0 qwp (qp3 0) (lenv_ok (by kernel_rfl) trivial) (rg0 (by kernel_rfl)) fun x=>by kernel_rfl
noncomputable def qwz:Code:=Tryz.f109.body.getD .skip
theorem qwq:FnF Tryz.prog 109 Tryz.f109 qwz:=⟨qi,by kernel_rfl,by kernel_rfl,by kernel_rfl⟩
def qqm:TH:={ live:=[(0,[0,1]),(1,[0,1,5]),(2,[0,1,5,6]),(3,[0,1,6,11]),(4,[12]),(5,[4]),(6,[4]),(7,[0,1,13]),(8,[4]),(9,[0,1,16]),(10,[4]),(11,[19]),(12,[4]),(13,[4])] }
def qp4 (N:Nat):List Ent:=[qj9]
theorem qob (N:Nat):SmAll Tryz.prog (qp4 N):=⟨qq6,trivial⟩
def qpT (z:Int):TV×THp:=(xi z,[])
def qeJ (a0:Int) (a1:Int):Tree (Int):=
 .bind (qfy a0) fun r1=>
 .bind (qfy a1) fun r2=>
 .cond (!decide (a0=a0)) (
 .cond (!decide (a1=a1)) (
 .ret 0) <|
 .ret (-1)) <|
 .cond (!decide (a1=a1)) (
 .ret 1) <|
 .cond (decide (a0 < a1)) (
 .ret (-1)) <|
 .cond (decide (a1 < a0)) (
 .ret 1) <|
 .ret 0
def qbD (a0:Int) (a1:Int):Option (Int):=(qeJ a0 a1).run some
def qqa:List (Nat×LEnt):=[]
def qiB:Ent:=smF ⟨109,[],[.x (.i .i64),.x (.i .i64)],[],[]⟩ [(.i .i64),(.i .i64)] (Int) (fun x=>qbD x.1 x.2.1) cs1 fun _=>qpT
theorem qpD:SmOK Tryz.prog (qiB):=
  fn_ok (H:=qqm) (L:=lenv (qqa)) (ts:=[(.i .i64),(.i .i64)]) (T:=fun x=>qeJ x.1 x.2.1) 0 qwq (qob 0) (lenv_ok (by kernel_rfl) trivial) (rg0 (by kernel_rfl)) fun x=>by kernel_rfl
noncomputable def qpI:Code:=Tryz.f108.body.getD .skip
theorem qwD:FnF Tryz.prog 108 Tryz.f108 qpI:=⟨qi,by kernel_rfl,by kernel_rfl,by kernel_rfl⟩
def qjk:TH:={ live:=[(0,[0]),(1,[0,3]),(2,[3,6,7,8]),(3,[3,6,7,8,9]),(4,[3,5,6,7,8]),(5,[3,5,6,7,8,14]),(6,[2]),(7,[3,6,7,8]),(8,[2])] }
def qpo (N:Nat):List Ent:=[]
theorem qlM (N:Nat):SmAll Tryz.prog (qpo N):=trivial
abbrev qdm:=List Int×Int
abbrev qae:=Int⊕(Int×Bool)
def qbG (f:qdm):qae→Ex×TSt
 | .inl y=>(.ret,⟨0,18,[],[(2,xi y)],[],false,[]⟩)
 | .inr y=>(.exit 0,⟨0,18,[],[(3,.ic .i64 0),(6,.tv (.sl 1 (.i .i64)) f.1),(7,xi f.2),(8,xi y.1),(9,xb y.2)],[],false,[]⟩)
def qsn (N:Nat):List (Nat×LEnt):=[]
abbrev qbw:=Int
def qkj:SP:=⟨0,18,[],[(3,.k (.ic .i64 0)),(6,.x (.sl 1 (.i .i64))),(7,.x (.i .i64)),(8,.x (.i .i64))],[],false,[]⟩
def qso (f:qdm) (v:qbw):TSt:=fillS qkj [dv (.sl 1 (.i .i64)) f.1,dv (.i .i64) f.2,dv (.i .i64) v]
def Zr (N:Nat) (s6_3:List Int) (s7_3:Int) (v:qbw):Tree (qbw⊕qae):=
 .cond (decide (v < s7_3)) (
 .bind (getI s6_3 v) fun e1=>
 .cond (!decide (e1=((0:Int)))) (
 .ret (.inr (.inl e1))) <|
 .chk (in64 (v + 1)) <|
 .ret (.inl (v + 1))) <|
 .ret (.inr (.inr ((v,decide (v < s7_3)))))
def qj_ (N n:Nat) (f:qdm) (v:qbw):Option qae:=loopG (Zr N f.1 f.2) some n v
theorem qse (N:Nat) (f:qdm) (n:Nat) (v:qbw) (y:qae) (h:qj_ N n f v=some y):LG Tryz.prog qjk 108 (lookC qpI 3) (qso f v) (qbG f y):=
  loop_g qi (E:=qpo N) (L:=lenv (qsn N)) (st:=qbG f) (g:=some) (R:=qbG f) (qlM N) (lenv_ok (by kernel_rfl) trivial) (rg0 (by kernel_rfl)) (fun v=>by kernel_rfl) (good_self (st:=qbG f) fun y=>by rcases y with _ | _<;>rfl) n v y h
def qiu (N:Nat) (s6_3:List Int) (s7_3:Int) (s8_3:Int):Option qae:=qj_ N N (s6_3,s7_3) s8_3
def qka (N:Nat):LEnt:=smL qkj [(.sl 1 (.i .i64)),(.i .i64),(.i .i64)] qae (fun x=>qiu N x.1 x.2.1 x.2.2.1) (csS cs1) fun x=>qbG (x.1,x.2.1)
theorem qrE (N:Nat):LsOK Tryz.prog qjk 108 (lookC qpI 3) (qka N):=smL_ok fun x z h=>qse N (x.1,x.2.1) N x.2.2.1 z h
def qud (z:Int):TV×THp:=(xi z,[])
def qi9 (N:Nat) (a0:List Int):Tree (Int):=
 .bind (qiu N a0 ((a0.length:Nat):Int) 0) fun z1=>
 .sum z1 (fun z2=>
 .ret z2) fun z2=>
 .ret 0
def qg0 (N:Nat) (a0:List Int):Option (Int):=(qi9 N a0).run some
def qt0 (N:Nat):List (Nat×LEnt):=[(3,qka N)]
def qpG (N:Nat):Ent:=smF ⟨108,[],[.x (.sl 1 (.i .i64))],[],[]⟩ [(.sl 1 (.i .i64))] (Int) (fun x=>qg0 N x.1) cs1 fun _=>qud
theorem qte (N:Nat):SmOK Tryz.prog (qpG N):=
  fn_ok (H:=qjk) (L:=lenv (qt0 N)) (ts:=[(.sl 1 (.i .i64))]) (T:=fun x=>qi9 N x.1) 0 qwD (qlM N) (lenv_ok (by kernel_rfl) ⟨qrE N,trivial⟩) (rg0 (by kernel_rfl)) fun x=>by kernel_rfl
noncomputable def qxp:Code:=Tryz.f86.body.getD .skip
theorem qyF:FnF Tryz.prog 86 Tryz.f86 qxp:=⟨qi,by kernel_rfl,by kernel_rfl,by kernel_rfl⟩
def qur:TH:={ live:=[(0,[2,3]),(1,[4])],dec:=[8] }
def qt9 (N:Nat):List Ent:=[qiB,qpG N]
theorem qsG (N:Nat):SmAll Tryz.prog (qt9 N):=⟨qpD,qte N,trivial⟩
def qt_ (z:Bool):TV×THp:=(xb z,[])
def qju (N:Nat) (a0:qc) (a1:qc):Tree (Bool):=
 .cond (!(eqE qo a0 a1)) (
 .bind (qbD (qc.N a0) (qc.N a1)) fun r1=>
 .bind (qbD (qc.Rep a0) (qc.Rep a1)) fun r2=>
 .bind (qg0 N [r1,r2]) fun r3=>
 .ret (decide (r3 < ((0:Int))))) <|
 .ret false
def qbH (N:Nat) (a0:qc) (a1:qc):Option (Bool):=(qju N a0 a1).run some
def qug (N:Nat):List (Nat×LEnt):=[]
def qja (N:Nat):Ent:=smF ⟨86,[],[.x qo,.x qo],[],[]⟩ [qo,qo] (Bool) (fun x=>qbH N x.1 x.2.1) cs1 fun _=>qt_
theorem qnD (N:Nat):SmOK Tryz.prog (qja N):=
  fn_ok (H:=qur) (L:=lenv (qug N)) (ts:=[qo,qo]) (T:=fun x=>qju N x.1 x.2.1) 0 qyF (qsG N) (lenv_ok (by kernel_rfl) trivial) (rg0 (by kernel_rfl)) fun x=>by kernel_rfl
noncomputable def qrn:Code:=Tryz.f59.body.getD .skip
theorem qyZ:FnF Tryz.prog 59 Tryz.f59 qrn:=⟨qi,by kernel_rfl,by kernel_rfl,by kernel_rfl⟩
def qoC:TH:={ live:=[(0,[1]),(1,[1,21]),(2,[2]),(3,[1,23,24,25]),(4,[1,23,24,25,26]),(5,[1,3,4,23,24,25]),(6,[1,4,5,23,24,25]),(7,[1,23,24,25,74]),(8,[2]),(9,[1,23,24,25]),(10,[2])],dec:=[10,15,32,37,40,55,60,66] }
def qsV (N:Nat):List Ent:=[qbK,qm1,qja N]
theorem qqD (N:Nat):SmAll Tryz.prog (qsV N):=⟨qbV,qqH,qnD N,trivial⟩
abbrev qg5:=qf×List qk×Int
abbrev qbX:=Unit⊕(Int×Bool)
def qd_ (f:qg5):qbX→Ex×TSt
 | .inl y=>(.ret,⟨0,76,[],[(2,.bc false)],[],false,[]⟩)
 | .inr y=>(.exit 0,⟨0,76,[],[(1,.p 10 [] 0),(23,.tv (.sl 4 qM) f.2.1),(24,xi f.2.2),(25,xi y.1),(26,xb y.2)],[(10,.cell false (.tv qv f.1))],false,[]⟩)
def qun (N:Nat):List (Nat×LEnt):=[]
abbrev qeh:=Int
def qoK:SP:=⟨0,76,[],[(1,.k (.p 10 [] 0)),(23,.x (.sl 4 qM)),(24,.x (.i .i64)),(25,.x (.i .i64))],[(10,.cell false (.x qv))],false,[]⟩
def quc (f:qg5) (v:qeh):TSt:=fillS qoK [dv qv f.1,dv (.sl 4 qM) f.2.1,dv (.i .i64) f.2.2,dv (.i .i64) v]
def qhb (N:Nat) (o_4:qf) (s23_4:List qk) (s24_4:Int) (v:qeh):Tree (qeh⊕qbX):=
 .cond (decide (v < s24_4)) (
 .bind (getI s23_4 v) fun e1=>
 .cond (decide (v=((0:Int)))) (
 .cond (decide (((0:Int))≤(qk.No e1))) (
 .cond (decide (((8:Int))≤(qk.No e1))) (
 .ret (.inr (.inl ()))) <|
 .bind (qd9 (qk.C e1)) fun r2=>
 .cond (!r2) (
 .ret (.inr (.inl ()))) <|
 .bind (qbH N (qf.Dead o_4) (qr.S (qk.C e1))) fun r3=>
 .cond (!r3) (
 .ret (.inr (.inl ()))) <|
 .chk (in64 (v + 1)) <|
 .ret (.inl (v + 1))) <|
 .cond (decide (((0:Int)) < v)) (
 .chk (in64 (v - 1)) <|
 .bind (getI (qf.F o_4) (v - 1)) fun e2=>
 .cond (!(decide ((qk.No e2) < (qk.No e1)))) (
 .ret (.inr (.inl ()))) <|
 .cond (decide (((8:Int))≤(qk.No e1))) (
 .ret (.inr (.inl ()))) <|
 .bind (qd9 (qk.C e1)) fun r3=>
 .cond (!r3) (
 .ret (.inr (.inl ()))) <|
 .bind (qbH N (qf.Dead o_4) (qr.S (qk.C e1))) fun r4=>
 .cond (!r4) (
 .ret (.inr (.inl ()))) <|
 .chk (in64 (v + 1)) <|
 .ret (.inl (v + 1))) <|
 .ret (.inr (.inl ()))) <|
 .cond (decide (((0:Int)) < v)) (
 .chk (in64 (v - 1)) <|
 .bind (getI (qf.F o_4) (v - 1)) fun e2=>
 .cond (!(decide ((qk.No e2) < (qk.No e1)))) (
 .ret (.inr (.inl ()))) <|
 .cond (decide (((8:Int))≤(qk.No e1))) (
 .ret (.inr (.inl ()))) <|
 .bind (qd9 (qk.C e1)) fun r3=>
 .cond (!r3) (
 .ret (.inr (.inl ()))) <|
 .bind (qbH N (qf.Dead o_4) (qr.S (qk.C e1))) fun r4=>
 .cond (!r4) (
 .ret (.inr (.inl ()))) <|
 .chk (in64 (v + 1)) <|
 .ret (.inl (v + 1))) <|
 .ret (.inr (.inl ()))) <|
 .ret (.inr (.inr ((v,decide (v < s24_4)))))
def qpC (N n:Nat) (f:qg5) (v:qeh):Option qbX:=loopG (qhb N f.1 f.2.1 f.2.2) some n v
theorem qtZ (N:Nat) (f:qg5) (n:Nat) (v:qeh) (y:qbX) (h:qpC N n f v=some y):LG Tryz.prog qoC 59 (lookC qrn 4) (quc f v) (qd_ f y):=
  loop_g qi (E:=qsV N) (L:=lenv (qun N)) (st:=qd_ f) (g:=some) (R:=qd_ f) (qqD N) (lenv_ok (by kernel_rfl) trivial) (rg0 (by kernel_rfl)) (fun v=>by kernel_rfl) (good_self (st:=qd_ f) fun y=>by rcases y with _ | _<;>rfl) n v y h
def qiZ (N:Nat) (o_4:qf) (s23_4:List qk) (s24_4:Int) (s25_4:Int):Option qbX:=qpC N N (o_4,s23_4,s24_4) s25_4
def qoN (N:Nat):LEnt:=smL qoK [qv,(.sl 4 qM),(.i .i64),(.i .i64)] qbX (fun x=>qiZ N x.1 x.2.1 x.2.2.1 x.2.2.2.1) (csS cs1) fun x=>qd_ (x.1,x.2.1,x.2.2.1)
theorem qtI (N:Nat):LsOK Tryz.prog qoC 59 (lookC qrn 4) (qoN N):=smL_ok fun x z h=>qtZ N (x.1,x.2.1,x.2.2.1) N x.2.2.2.1 z h
def qwN (z:Bool):TV×THp:=(xb z,[])
def qo9 (N:Nat) (a0:qf):Tree (Bool):=
 .bind (qbz (qf.Dead a0)) fun r1=>
 .cond (!r1) (
 .ret false) <|
 .cond (decide ((((qf.F a0).length:Nat):Int)=((0:Int)))) (
 .cond (eqE qo (qf.Dead a0) (qc.mk 0 0)) (
 .ret false) <|
 .bind (qiZ N a0 (qf.F a0) (((qf.F a0).length:Nat):Int) 0) fun z2=>
 .sum z2 (fun z3=>
 .ret false) fun z3=>
 .ret true) <|
 .bind (qiZ N a0 (qf.F a0) (((qf.F a0).length:Nat):Int) 0) fun z2=>
 .sum z2 (fun z3=>
 .ret false) fun z3=>
 .ret true
def qpO (N:Nat) (a0:qf):Option (Bool):=(qo9 N a0).run some
def qwR (N:Nat):List (Nat×LEnt):=[(4,qoN N)]
def qs3 (N:Nat):Ent:=smF ⟨59,[],[.x qv],[],[]⟩ [qv] (Bool) (fun x=>qpO N x.1) cs1 fun _=>qwN
theorem qvP (N:Nat):SmOK Tryz.prog (qs3 N):=
  fn_ok (H:=qoC) (L:=lenv (qwR N)) (ts:=[qv]) (T:=fun x=>qo9 N x.1) 0 qyZ (qqD N) (lenv_ok (by kernel_rfl) ⟨qtI N,trivial⟩) (rg0 (by kernel_rfl)) fun x=>by kernel_rfl
noncomputable def qx5:Code:=Tryz.f80.body.getD .skip
theorem qxJ:FnF Tryz.prog 80 Tryz.f80 qx5:=⟨qi,by kernel_rfl,by kernel_rfl,by kernel_rfl⟩
def qsr:TH:={ live:=[(0,[0,1]),(1,[4])] }
def qsj (N:Nat):List Ent:=[qwL]
theorem qp1 (N:Nat):SmAll Tryz.prog (qsj N):=⟨qzq,trivial⟩
def qrZ (z:Int):TV×THp:=(xi z,[])
def qhi (a0:List UInt8) (a1:List UInt8):Tree (Int):=
 .bind (bcmp a0 a1) fun r1=>
 .ret r1
def qix (a0:List UInt8) (a1:List UInt8):Option (Int):=(qhi a0 a1).run some
def qr8:List (Nat×LEnt):=[]
def qkn:Ent:=smF ⟨80,[],[.x .bl,.x .bl],[],[]⟩ [.bl,.bl] (Int) (fun x=>qix x.1 x.2.1) cs1 fun _=>qrZ
theorem qqT:SmOK Tryz.prog (qkn):=
  fn_ok (H:=qsr) (L:=lenv (qr8)) (ts:=[.bl,.bl]) (T:=fun x=>qhi x.1 x.2.1) 0 qxJ (qp1 0) (lenv_ok (by kernel_rfl) trivial) (rg0 (by kernel_rfl)) fun x=>by kernel_rfl
noncomputable def qxV:Code:=Tryz.f45.body.getD .skip
theorem qxI:FnF Tryz.prog 45 Tryz.f45 qxV:=⟨qi,by kernel_rfl,by kernel_rfl,by kernel_rfl⟩
def quF:TH:={ live:=[(0,[2,3]),(1,[4])],dec:=[8] }
def quD (N:Nat):List Ent:=[qkn]
theorem qs_ (N:Nat):SmAll Tryz.prog (quD N):=⟨qqT,trivial⟩
def quL (z:Bool):TV×THp:=(xb z,[])
def qk1 (a0:Vector UInt8 16) (a1:Vector UInt8 16):Tree (Bool):=
 .cond (!(eqE (.ba 16) a0 a1)) (
 .bind (qix a0.toList a1.toList) fun r1=>
 .ret (decide (r1 < ((0:Int))))) <|
 .ret false
def qh_ (a0:Vector UInt8 16) (a1:Vector UInt8 16):Option (Bool):=(qk1 a0 a1).run some
def qu7:List (Nat×LEnt):=[]
def qkS:Ent:=smF ⟨45,[],[.x (.ba 16),.x (.ba 16)],[],[]⟩ [(.ba 16),(.ba 16)] (Bool) (fun x=>qh_ x.1 x.2.1) cs1 fun _=>quL
theorem qoU:SmOK Tryz.prog (qkS):=
  fn_ok (H:=quF) (L:=lenv (qu7)) (ts:=[(.ba 16),(.ba 16)]) (T:=fun x=>qk1 x.1 x.2.1) 0 qxI (qs_ 0) (lenv_ok (by kernel_rfl) trivial) (rg0 (by kernel_rfl)) fun x=>by kernel_rfl
noncomputable def qre:Code:=Tryz.f27.body.getD .skip
theorem qyT:FnF Tryz.prog 27 Tryz.f27 qre:=⟨qi,by kernel_rfl,by kernel_rfl,by kernel_rfl⟩
def qne:TH:={ live:=[(0,[1]),(1,[1,6,7,8]),(2,[1,6,7,8,9]),(3,[1,3,4,6,7,8]),(4,[1,6,7,8,32]),(5,[2]),(6,[1,6,7,8]),(7,[2])],dec:=[16,19] }
def qrW (N:Nat):List Ent:=[qs3 N,qkS]
theorem qpE (N:Nat):SmAll Tryz.prog (qrW N):=⟨qvP N,qoU,trivial⟩
abbrev qfv:=qh×List qf×Int
abbrev qbq:=Unit⊕(Int×Bool)
def qcP (f:qfv):qbq→Ex×TSt
 | .inl y=>(.ret,⟨0,38,[],[(2,.bc false)],[],false,[]⟩)
 | .inr y=>(.exit 0,⟨0,38,[],[(1,.p 10 [] 0),(6,.tv (.sl 19 qv) f.2.1),(7,xi f.2.2),(8,xi y.1),(9,xb y.2)],[(10,.cell false (.tv qt f.1))],false,[]⟩)
def qtd (N:Nat):List (Nat×LEnt):=[]
abbrev qcI:=Int
def qnC:SP:=⟨0,38,[],[(1,.k (.p 10 [] 0)),(6,.x (.sl 19 qv)),(7,.x (.i .i64)),(8,.x (.i .i64))],[(10,.cell false (.x qt))],false,[]⟩
def qtq (f:qfv) (v:qcI):TSt:=fillS qnC [dv qt f.1,dv (.sl 19 qv) f.2.1,dv (.i .i64) f.2.2,dv (.i .i64) v]
def qft (N:Nat) (o_2:qh) (s6_2:List qf) (s7_2:Int) (v:qcI):Tree (qcI⊕qbq):=
 .cond (decide (v < s7_2)) (
 .bind (getI s6_2 v) fun e1=>
 .bind (qpO N e1) fun r2=>
 .cond (!r2) (
 .ret (.inr (.inl ()))) <|
 .cond (decide (((0:Int)) < v)) (
 .chk (in64 (v - 1)) <|
 .bind (getI (qh.R o_2) (v - 1)) fun e3=>
 .bind (qh_ (qf.ID e3) (qf.ID e1)) fun r4=>
 .cond (!r4) (
 .ret (.inr (.inl ()))) <|
 .chk (in64 (v + 1)) <|
 .ret (.inl (v + 1))) <|
 .chk (in64 (v + 1)) <|
 .ret (.inl (v + 1))) <|
 .ret (.inr (.inr ((v,decide (v < s7_2)))))
def qnt (N n:Nat) (f:qfv) (v:qcI):Option qbq:=loopG (qft N f.1 f.2.1 f.2.2) some n v
theorem qtp (N:Nat) (f:qfv) (n:Nat) (v:qcI) (y:qbq) (h:qnt N n f v=some y):LG Tryz.prog qne 27 (lookC qre 2) (qtq f v) (qcP f y):=
  loop_g qi (E:=qrW N) (L:=lenv (qtd N)) (st:=qcP f) (g:=some) (R:=qcP f) (qpE N) (lenv_ok (by kernel_rfl) trivial) (rg0 (by kernel_rfl)) (fun v=>by kernel_rfl) (good_self (st:=qcP f) fun y=>by rcases y with _ | _<;>rfl) n v y h
def qkJ (N:Nat) (o_2:qh) (s6_2:List qf) (s7_2:Int) (s8_2:Int):Option qbq:=qnt N N (o_2,s6_2,s7_2) s8_2
def qnE (N:Nat):LEnt:=smL qnC [qt,(.sl 19 qv),(.i .i64),(.i .i64)] qbq (fun x=>qkJ N x.1 x.2.1 x.2.2.1 x.2.2.2.1) (csS cs1) fun x=>qcP (x.1,x.2.1,x.2.2.1)
theorem qsA (N:Nat):LsOK Tryz.prog qne 27 (lookC qre 2) (qnE N):=smL_ok fun x z h=>qtp N (x.1,x.2.1,x.2.2.1) N x.2.2.2.1 z h
def qv9 (z:Bool):TV×THp:=(xb z,[])
def qnn (N:Nat) (a0:qh):Tree (Bool):=
 .bind (qkJ N a0 (qh.R a0) (((qh.R a0).length:Nat):Int) 0) fun z1=>
 .sum z1 (fun z2=>
 .ret false) fun z2=>
 .ret (decide ((((qh.R a0).length:Nat):Int)≤((10:Int))))
def qhG (N:Nat) (a0:qh):Option (Bool):=(qnn N a0).run some
def qv8 (N:Nat):List (Nat×LEnt):=[(2,qnE N)]
def qnf (N:Nat):Ent:=smF ⟨27,[],[.x qt],[],[]⟩ [qt] (Bool) (fun x=>qhG N x.1) cs1 fun _=>qv9
theorem qqC (N:Nat):SmOK Tryz.prog (qnf N):=
  fn_ok (H:=qne) (L:=lenv (qv8 N)) (ts:=[qt]) (T:=fun x=>qnn N x.1) 0 qyT (qpE N) (lenv_ok (by kernel_rfl) ⟨qsA N,trivial⟩) (rg0 (by kernel_rfl)) fun x=>by kernel_rfl
noncomputable def qo6:Code:=Tryz.f110.body.getD .skip
theorem qwK:FnF Tryz.prog 110 Tryz.f110 qo6:=⟨qi,by kernel_rfl,by kernel_rfl,by kernel_rfl⟩
def qij:TH:={ live:=[(0,[0]),(1,[0,3]),(2,[0,3]),(3,[0,3,7]),(4,[0,3]),(5,[0,3]),(6,[2])] }
def qns (N:Nat):List Ent:=[]
theorem qj7 (N:Nat):SmAll Tryz.prog (qns N):=trivial
abbrev qct:=Unit
abbrev ZF:=Int×Int×Bool
def qbe (f:qct) (y:ZF):Ex×TSt:=(.exit 0,⟨0,13,[],[(0,.tv (.i .u64) (y.1:Int)),(3,xi y.2.1),(7,xb y.2.2)],[],false,[]⟩)
def qqU (N:Nat):List (Nat×LEnt):=[]
abbrev qa_:=Int×Int
def qjr:SP:=⟨0,13,[],[(0,.x (.i .u64)),(3,.x (.i .i64))],[],false,[]⟩
def qrk (f:qct) (v:qa_):TSt:=fillS qjr [dv (.i .u64) v.1,dv (.i .i64) v.2]
def QJ (N:Nat) (v:qa_):Tree (qa_⊕ZF):=
 .cond (decide (((0:Int)) < v.1)) (
 .chk (in64 (v.2 + 1)) <|
 .chk (0≤(7:Int)) <|
 .ret (.inl (uShr v.1 7,v.2 + 1))) <|
 .ret (.inr (v.1,v.2,decide (((0:Int)) < v.1)))
def qjD (N n:Nat) (f:qct) (v:qa_):Option ZF:=loopG (QJ N) some n v
theorem qry (N:Nat) (f:qct) (n:Nat) (v:qa_) (y:ZF) (h:qjD N n f v=some y):LG Tryz.prog qij 110 (lookC qo6 3) (qrk f v) (qbe f y):=
  loop_g qi (E:=qns N) (L:=lenv (qqU N)) (st:=qbe f) (g:=some) (R:=qbe f) (qj7 N) (lenv_ok (by kernel_rfl) trivial) (rg0 (by kernel_rfl)) (fun v=>by kernel_rfl) (good_self (st:=qbe f) fun y=>by rfl) n v y h
def qes (N:Nat) (s0_3:Int) (s3_3:Int):Option ZF:=qjD N N () (s0_3,s3_3)
def qjF (N:Nat):LEnt:=smL qjr [(.i .u64),(.i .i64)] ZF (fun x=>qes N x.1 x.2.1) cs1 fun x=>qbe ()
theorem qqw (N:Nat):LsOK Tryz.prog qij 110 (lookC qo6 3) (qjF N):=smL_ok fun x z h=>qry N () N (x.1,x.2.1) z h
def qtj (z:Int):TV×THp:=(xi z,[])
def qfr (N:Nat) (a0:Int):Tree (Int):=
 .chk (0≤(7:Int)) <|
 .bind (qes N (uShr a0 7) 1) fun z1=>
 .ret z1.2.1
def qcW (N:Nat) (a0:Int):Option (Int):=(qfr N a0).run some
def qtr (N:Nat):List (Nat×LEnt):=[(3,qjF N)]
def qnK (N:Nat):Ent:=smF ⟨110,[],[.x (.i .u64)],[],[]⟩ [(.i .u64)] (Int) (fun x=>qcW N x.1) cs1 fun _=>qtj
theorem qsI (N:Nat):SmOK Tryz.prog (qnK N):=
  fn_ok (H:=qij) (L:=lenv (qtr N)) (ts:=[(.i .u64)]) (T:=fun x=>qfr N x.1) 0 qwK (qj7 N) (lenv_ok (by kernel_rfl) ⟨qqw N,trivial⟩) (rg0 (by kernel_rfl)) fun x=>by kernel_rfl
noncomputable def qq5:Code:=Tryz.f88.body.getD .skip
theorem qxX:FnF Tryz.prog 88 Tryz.f88 qq5:=⟨qi,by kernel_rfl,by kernel_rfl,by kernel_rfl⟩
def qmD:TH:={ live:=[(0,[0]),(1,[0,3]),(2,[0,3,4]),(3,[0,3,4,10,11]),(4,[0,3,4,10,11,12]),(5,[0,3,4,5,10,11]),(6,[0,3,4,10,11]),(7,[0,3,4,10,11]),(8,[4]),(9,[2])],esc:=true }
def qss (N:Nat):List Ent:=[qnK N]
theorem qoj (N:Nat):SmAll Tryz.prog (qss N):=⟨qsI N,trivial⟩
abbrev qfq:=Int×Int×Nat×Int
abbrev qbp:=List UInt8×Int×Bool
def qcJ (f:qfq) (y:qbp):Ex×TSt:=(.exit 0,⟨1,35,[],[(0,.tv (.i .u64) f.1),(3,xi f.2.1),(4,.v 100090 f.2.2.1),(10,xi f.2.2.2),(11,xi y.2.1),(12,xb y.2.2)],[(100090,.vec false 1 .bl (y.1:List UInt8))],false,[]⟩)
def qtD (N:Nat):List (Nat×LEnt):=[]
abbrev qcT:=List UInt8×Int
def qnv:SP:=⟨1,35,[],[(0,.x (.i .u64)),(3,.x (.i .i64)),(4,.v 100090),(10,.x (.i .i64)),(11,.x (.i .i64))],[(100090,.vec false 1)],false,[]⟩
def qty (f:qfq) (v:qcT):TSt:=fillS qnv [dv .bl v.1,dv (.i .u64) f.1,dv (.i .i64) f.2.1,dv .nat f.2.2.1,dv (.i .i64) f.2.2.2,dv (.i .i64) v.2]
def qaB (N:Nat) (s0_4:Int) (s3_4:Int) (s4_4:Nat) (s10_4:Int) (v:qcT):Tree (qcT⊕qbp):=
 .cond (decide (v.2 < s10_4)) (
 .chk (in64 (s3_4 - 1)) <|
 .chk (in64 ((s3_4 - 1) - v.2)) <|
 .chk (in64 (((7:Int)) * v.2)) <|
 .chk (0≤(((7:Int)) * v.2)) <|
 let w1:Int:=uShr s0_4 (min (((7:Int)) * v.2).toNat 64)
 .chk (0≤((s3_4 - 1) - v.2)∧((s3_4 - 1) - v.2) < ((s4_4:Nat):Int)) <|
 .chk (vecOK v.1.length s4_4 (((s3_4 - 1) - v.2).toNat)) <|
 .chk (inB (uOr .u8 (IntKind.u8.wrap w1) 128)) <|
 .chk (in64 (v.2 + 1)) <|
 .ret (.inl (v.1.set (((s3_4 - 1) - v.2).toNat) (UInt8.ofNat (uOr .u8 (IntKind.u8.wrap w1) 128).toNat),v.2 + 1))) <|
 .ret (.inr (v.1,v.2,decide (v.2 < s10_4)))
def qnp (N n:Nat) (f:qfq) (v:qcT):Option qbp:=loopG (qaB N f.1 f.2.1 f.2.2.1 f.2.2.2) some n v
theorem qtc (N:Nat) (f:qfq) (n:Nat) (v:qcT) (y:qbp) (h:qnp N n f v=some y):LG Tryz.prog qmD 88 (lookC qq5 4) (qty f v) (qcJ f y):=
  loop_g qi (E:=qss N) (L:=lenv (qtD N)) (st:=qcJ f) (g:=some) (R:=qcJ f) (qoj N) (lenv_ok (by kernel_rfl) trivial) (rg0 (by kernel_rfl)) (fun v=>by kernel_rfl) (good_self (st:=qcJ f) fun y=>by rfl) n v y h
def qcX (N:Nat) (s0_4:Int) (s3_4:Int) (s4_4:Nat) (s10_4:Int) (o_4:List UInt8) (s11_4:Int):Option qbp:=qnp N N (s0_4,s3_4,s4_4,s10_4) (o_4,s11_4)
def qnB (N:Nat):LEnt:=smL qnv [.bl,(.i .u64),(.i .i64),.nat,(.i .i64),(.i .i64)] qbp (fun x=>qcX N x.2.1 x.2.2.1 x.2.2.2.1 x.2.2.2.2.1 x.1 x.2.2.2.2.2.1) cs1 fun x=>qcJ (x.2.1,x.2.2.1,x.2.2.2.1,x.2.2.2.2.1)
theorem qsE (N:Nat):LsOK Tryz.prog qmD 88 (lookC qq5 4) (qnB N):=smL_ok fun x z h=>qtc N (x.2.1,x.2.2.1,x.2.2.2.1,x.2.2.2.2.1) N (x.1,x.2.2.2.2.2.1) z h
def qvR (z:List UInt8×Nat):TV×THp:=(.v 100090 z.2,[(100090,.vec false 1 .bl (z.1:List UInt8))])
def qi0 (N:Nat) (a0:Int):Tree (List UInt8×Nat):=
 .bind (qcW N a0) fun r1=>
 .chk (mkOK r1 r1 1) <|
 .bind (qcX N a0 r1 (((List.replicate r1.toNat 0:List UInt8)).length) r1 ((List.replicate r1.toNat 0:List UInt8)) 0) fun z2=>
 .chk (in64 (r1 - 1)) <|
 .chk (0≤(r1 - 1)∧(r1 - 1) < ((((List.replicate r1.toNat 0:List UInt8)).length:Nat):Int)) <|
 .bind (getV z2.1 (((List.replicate r1.toNat 0:List UInt8)).length) ((r1 - 1).toNat)) fun e3=>
 let w4:Int:=uAndNot .u8 ((e3.toNat:Nat):Int) 128
 .chk (0≤(r1 - 1)∧(r1 - 1) < ((((List.replicate r1.toNat 0:List UInt8)).length:Nat):Int)) <|
 .chk (vecOK z2.1.length (((List.replicate r1.toNat 0:List UInt8)).length) ((r1 - 1).toNat)) <|
 .chk (inB w4) <|
 .ret (z2.1.set ((r1 - 1).toNat) (UInt8.ofNat w4.toNat),((List.replicate r1.toNat 0:List UInt8)).length)
def qO (N:Nat) (a0:Int):Option (List UInt8×Nat):=(qi0 N a0).run some
def qv3 (N:Nat):List (Nat×LEnt):=[(4,qnB N)]
def qgP (N:Nat):Ent:=smF ⟨88,[],[.x (.i .u64)],[],[]⟩ [(.i .u64)] (List UInt8×Nat) (fun x=>qO N x.1) cs1 fun _=>qvR
theorem qhK (N:Nat):SmOK Tryz.prog (qgP N):=
  fn_ok (H:=qmD) (L:=lenv (qv3 N)) (ts:=[(.i .u64)]) (T:=fun x=>qi0 N x.1) 0 qxX (qoj N) (lenv_ok (by kernel_rfl) ⟨qsE N,trivial⟩) (rg0 (by kernel_rfl)) fun x=>by kernel_rfl
noncomputable def qxL:Code:=Tryz.f89.body.getD .skip
theorem qt7:FnF Tryz.prog 89 Tryz.f89 qxL:=⟨qi,by kernel_rfl,by kernel_rfl,by kernel_rfl⟩
def qu2:TH:={ live:=[(0,[1]),(1,[1,6]),(2,[2,3]),(3,[2,3])],fresh:=[15] }
def qu4 (N:Nat):List Ent:=[qbK,qgP N]
theorem qtC (N:Nat):SmAll Tryz.prog (qu4 N):=⟨qbV,qhK N,trivial⟩
def qu5 (z:List UInt8×Bool):TV×THp:=(.tup [.tv .bl (z.1:List UInt8),xb z.2],[])
def qhN (N:Nat) (a0:qc):Tree (List UInt8×Bool):=
 .bind (qbz a0) fun r1=>
 .cond (!r1) (
 .ret ([],false)) <|
 .chk (0≤(3:Int)) <|
 let w2:Int:=uShl .u64 (IntKind.u64.wrap (qc.N a0)) 3
 let w3:Int:=uOr .u64 w2 (IntKind.u64.wrap (qc.Rep a0))
 .bind (qO N w3) fun r4=>
 .chk (r4.1.length=r4.2) <|
 .ret (r4.1,true)
def qce (N:Nat) (a0:qc):Option (List UInt8×Bool):=(qhN N a0).run some
def qu1 (N:Nat):List (Nat×LEnt):=[]
def qqA (N:Nat):Ent:=smF ⟨89,[],[.x qo],[],[]⟩ [qo] (List UInt8×Bool) (fun x=>qce N x.1) cs1 fun _=>qu5
theorem qub (N:Nat):SmOK Tryz.prog (qqA N):=
  fn_ok (H:=qu2) (L:=lenv (qu1 N)) (ts:=[qo]) (T:=fun x=>qhN N x.1) 0 qt7 (qtC N) (lenv_ok (by kernel_rfl) trivial) (rg0 (by kernel_rfl)) fun x=>by kernel_rfl
def qtu:TH:={ live:=[(0,[1]),(1,[1,6]),(2,[2,3]),(3,[2,3])],fresh:=[15],esc:=true }
def qtB (N:Nat):List Ent:=[qbK,qgP N]
theorem qrP (N:Nat):SmAll Tryz.prog (qtB N):=⟨qbV,qhK N,trivial⟩
def qtt:Unit⊕(List UInt8×Nat)→TV×THp
 | .inl z=>(.tup [.nils,.bc false],[])
 | .inr z=>(.tup [.v 100090 z.2,.bc true],[(100090,.vec false 1 .bl (z.1:List UInt8))])
def qfn (N:Nat) (a0:qc):Tree (Unit⊕(List UInt8×Nat)):=
 .bind (qbz a0) fun r1=>
 .cond (!r1) (
 .ret (.inl ())) <|
 .chk (0≤(3:Int)) <|
 let w2:Int:=uShl .u64 (IntKind.u64.wrap (qc.N a0)) 3
 let w3:Int:=uOr .u64 w2 (IntKind.u64.wrap (qc.Rep a0))
 .bind (qO N w3) fun r4=>
 .ret (.inr ((r4.1,r4.2)))
def qaT (N:Nat) (a0:qc):Option (Unit⊕(List UInt8×Nat)):=(qfn N a0).run some
def qtz (N:Nat):List (Nat×LEnt):=[]
def qno (N:Nat):Ent:=smF ⟨89,[],[.x qo],[],[]⟩ [qo] (Unit⊕(List UInt8×Nat)) (fun x=>qaT N x.1) (csS cs1) fun _=>qtt
theorem qsB (N:Nat):SmOK Tryz.prog (qno N):=
  fn_ok (H:=qtu) (L:=lenv (qtz N)) (ts:=[qo]) (T:=fun x=>qfn N x.1) 0 qt7 (qrP N) (lenv_ok (by kernel_rfl) trivial) (rg0 (by kernel_rfl)) fun x=>by kernel_rfl
noncomputable def qw2:Code:=Tryz.f111.body.getD .skip
theorem qwF:FnF Tryz.prog 111 Tryz.f111 qw2:=⟨qi,by kernel_rfl,by kernel_rfl,by kernel_rfl⟩
def quC:TH:={ live:=[(0,[0]),(1,[2])],fresh:=[6] }
def quR (N:Nat):List Ent:=[qgP N]
theorem qtf (N:Nat):SmAll Tryz.prog (quR N):=⟨qhK N,trivial⟩
def qu_ (z:List UInt8):TV×THp:=(.tv .bl z,[])
def qhO (N:Nat) (a0:List UInt8):Tree (List UInt8):=
 let w1:Int:=IntKind.u64.wrap ((a0.length:Nat):Int)
 .bind (qO N w1) fun r2=>
 .chk (avOK r2.1.length r2.2 ((r2.1++a0).length) 1) <|
 .chk ((r2.1++a0).length=(r2.1++a0).length) <|
 .ret (r2.1++a0)
def qd3 (N:Nat) (a0:List UInt8):Option (List UInt8):=(qhO N a0).run some
def qva (N:Nat):List (Nat×LEnt):=[]
def qqK (N:Nat):Ent:=smF ⟨111,[],[.x .s],[],[]⟩ [.s] (List UInt8) (fun x=>qd3 N x.1) cs1 fun _=>qu_
theorem qt8 (N:Nat):SmOK Tryz.prog (qqK N):=
  fn_ok (H:=quC) (L:=lenv (qva N)) (ts:=[.s]) (T:=fun x=>qhO N x.1) 0 qwF (qtf N) (lenv_ok (by kernel_rfl) trivial) (rg0 (by kernel_rfl)) fun x=>by kernel_rfl
noncomputable def qyV:Code:=Tryz.f90.body.getD .skip
theorem qxB:FnF Tryz.prog 90 Tryz.f90 qyV:=⟨qi,by kernel_rfl,by kernel_rfl,by kernel_rfl⟩
def qvv:TH:={ live:=[(0,[1]),(1,[1,8]),(2,[2,3]),(3,[1,4]),(4,[2,3])],fresh:=[12],nil:=[(3,[⟨.sl 4,45,.bl⟩])] }
def qvN (N:Nat):List Ent:=[qm1,qno N,qqK N]
theorem qtU (N:Nat):SmAll Tryz.prog (qvN N):=⟨qqH,qsB N,qt8 N,trivial⟩
def qv4 (z:List UInt8×Bool):TV×THp:=(.tup [.tv .bl (z.1:List UInt8),xb z.2],[])
def qiW (N:Nat) (a0:qr):Tree (List UInt8×Bool):=
 .bind (qd9 a0) fun r1=>
 .cond (!r1) (
 .ret ([],false)) <|
 .bind (qaT N (qr.S a0)) fun r2=>
 .sum r2 (fun r3=>
 .bind (qd3 N (qr.V a0)) fun r4=>
 .chk (avOK ((([]:List UInt8)).length) 0 (((([]:List UInt8))++r4).length) 1) <|
 .chk (((([]:List UInt8))++r4).length=((([]:List UInt8))++r4).length) <|
 .ret ((([]:List UInt8))++r4,true)) fun r3=>
 .bind (qd3 N (qr.V a0)) fun r4=>
 .chk (avOK r3.1.length r3.2 ((r3.1++r4).length) 1) <|
 .chk ((r3.1++r4).length=(r3.1++r4).length) <|
 .ret (r3.1++r4,true)
def qdx (N:Nat) (a0:qr):Option (List UInt8×Bool):=(qiW N a0).run some
def qvT (N:Nat):List (Nat×LEnt):=[]
def qrS (N:Nat):Ent:=smF ⟨90,[],[.x q8],[],[]⟩ [q8] (List UInt8×Bool) (fun x=>qdx N x.1) cs1 fun _=>qv4
theorem quM (N:Nat):SmOK Tryz.prog (qrS N):=
  fn_ok (H:=qvv) (L:=lenv (qvT N)) (ts:=[q8]) (T:=fun x=>qiW N x.1) 0 qxB (qtU N) (lenv_ok (by kernel_rfl) trivial) (rg0 (by kernel_rfl)) fun x=>by kernel_rfl
noncomputable def qjp:Code:=Tryz.f65.body.getD .skip
theorem qyf:FnF Tryz.prog 65 Tryz.f65 qjp:=⟨qi,by kernel_rfl,by kernel_rfl,by kernel_rfl⟩
def qe9:TH:={ live:=[(0,[1]),(1,[1,15]),(2,[2,3]),(3,[1,4]),(4,[4,22,23,24]),(5,[4,22,23,24,25]),(6,[4,6,22,23,24]),(7,[4,6,7,22,23,24]),(8,[4,6,22,23,24]),(9,[4,22,23,24,47,48,49]),(10,[4,22,23,24,47,48,49,50]),(11,[4,10,22,23,24,47,48,49]),(12,[4,10,11,22,23,24,47,48,49]),(13,[4,22,23,24,47,48,49]),(14,[4,22,23,24,47,48,49]),(15,[4,22,23,24]),(16,[2,3])],fresh:=[20],rd:=[(6,[6]),(11,[10])] }
def qku (N:Nat):List Ent:=[qnf N,qgP N,qqA N,qrS N]
theorem qio (N:Nat):SmAll Tryz.prog (qku N):=⟨qqC N,qhK N,qub N,quM N,trivial⟩
abbrev qdn:=List qf×Int×Int×List qk×Int
abbrev Z9:=List UInt8×Nat×Int×Bool
def qbu (f:qdn) (y:Z9):Ex×TSt:=(.exit 2,⟨0,70,[],[(4,.v 100090 y.2.1),(22,.tv (.sl 19 qv) f.1),(23,xi f.2.1),(24,xi f.2.2.1),(47,.tv (.sl 4 qM) f.2.2.2.1),(48,xi f.2.2.2.2),(49,xi y.2.2.1),(50,xb y.2.2.2)],[(100090,.vec false 1 .bl (y.1:List UInt8))],false,[]⟩)
def qr6 (N:Nat):List (Nat×LEnt):=[]
abbrev qbE:=List UInt8×Nat×Int
def qkl:SP:=⟨0,70,[],[(4,.v 100090),(22,.x (.sl 19 qv)),(23,.x (.i .i64)),(24,.x (.i .i64)),(47,.x (.sl 4 qM)),(48,.x (.i .i64)),(49,.x (.i .i64))],[(100090,.vec false 1)],false,[]⟩
def qrR (f:qdn) (v:qbE):TSt:=fillS qkl [dv .bl v.1,dv .nat v.2.1,dv (.sl 19 qv) f.1,dv (.i .i64) f.2.1,dv (.i .i64) f.2.2.1,dv (.sl 4 qM) f.2.2.2.1,dv (.i .i64) f.2.2.2.2,dv (.i .i64) v.2.2]
def Zi (N:Nat) (s22_10:List qf) (s23_10:Int) (s24_10:Int) (s47_10:List qk) (s48_10:Int) (v:qbE):Tree (qbE⊕Z9):=
 .cond (decide (v.2.2 < s48_10)) (
 .bind (getI s47_10 v.2.2) fun e1=>
 .bind (qdx N (qk.C e1)) fun r2=>
 .chk (inB (IntKind.u8.wrap (qk.No e1))) <|
 .chk (avOK v.1.length v.2.1 ((v.1++[UInt8.ofNat (IntKind.u8.wrap (qk.No e1)).toNat]).length) 1) <|
 .chk (avOK ((v.1++[UInt8.ofNat (IntKind.u8.wrap (qk.No e1)).toNat]).length) ((v.1++[UInt8.ofNat (IntKind.u8.wrap (qk.No e1)).toNat]).length) (((v.1++[UInt8.ofNat (IntKind.u8.wrap (qk.No e1)).toNat])++r2.1).length) 1) <|
 .chk (in64 (v.2.2 + 1)) <|
 .ret (.inl ((v.1++[UInt8.ofNat (IntKind.u8.wrap (qk.No e1)).toNat])++r2.1,((v.1++[UInt8.ofNat (IntKind.u8.wrap (qk.No e1)).toNat])++r2.1).length,v.2.2 + 1))) <|
 .ret (.inr (v.1,v.2.1,v.2.2,decide (v.2.2 < s48_10)))
def qki (N n:Nat) (f:qdn) (v:qbE):Option Z9:=loopG (Zi N f.1 f.2.1 f.2.2.1 f.2.2.2.1 f.2.2.2.2) some n v
theorem qrQ (N:Nat) (f:qdn) (n:Nat) (v:qbE) (y:Z9) (h:qki N n f v=some y):LG Tryz.prog qe9 65 (lookC (lookC qjp 5) 10) (qrR f v) (qbu f y):=
  loop_g qi (E:=qku N) (L:=lenv (qr6 N)) (st:=qbu f) (g:=some) (R:=qbu f) (qio N) (lenv_ok (by kernel_rfl) trivial) (rg0 (by kernel_rfl)) (fun v=>by kernel_rfl) (good_self (st:=qbu f) fun y=>by rfl) n v y h
def qfu (N:Nat) (s22_10:List qf) (s23_10:Int) (s24_10:Int) (s47_10:List qk) (s48_10:Int) (o_10:List UInt8) (s4_10:Nat) (s49_10:Int):Option Z9:=qki N N (s22_10,s23_10,s24_10,s47_10,s48_10) (o_10,s4_10,s49_10)
def qkh (N:Nat):LEnt:=smL qkl [.bl,.nat,(.sl 19 qv),(.i .i64),(.i .i64),(.sl 4 qM),(.i .i64),(.i .i64)] Z9 (fun x=>qfu N x.2.2.1 x.2.2.2.1 x.2.2.2.2.1 x.2.2.2.2.2.1 x.2.2.2.2.2.2.1 x.1 x.2.1 x.2.2.2.2.2.2.2.1) cs1 fun x=>qbu (x.2.2.1,x.2.2.2.1,x.2.2.2.2.1,x.2.2.2.2.2.1,x.2.2.2.2.2.2.1)
theorem qru (N:Nat):LsOK Tryz.prog qe9 65 (lookC (lookC qjp 5) 10) (qkh N):=smL_ok fun x z h=>qrQ N (x.2.2.1,x.2.2.2.1,x.2.2.2.2.1,x.2.2.2.2.2.1,x.2.2.2.2.2.2.1) N (x.1,x.2.1,x.2.2.2.2.2.2.2.1) z h
abbrev qen:=List qf×Int
abbrev qaV:=List UInt8×Nat×Int×Bool
def qcb (f:qen) (y:qaV):Ex×TSt:=(.exit 0,⟨0,70,[],[(4,.v 100090 y.2.1),(22,.tv (.sl 19 qv) f.1),(23,xi f.2),(24,xi y.2.2.1),(25,xb y.2.2.2)],[(100090,.vec false 1 .bl (y.1:List UInt8))],false,[]⟩)
def qsy (N:Nat):List (Nat×LEnt):=[(10,qkh N)]
abbrev qb7:=List UInt8×Nat×Int
def qlO:SP:=⟨0,70,[],[(4,.v 100090),(22,.x (.sl 19 qv)),(23,.x (.i .i64)),(24,.x (.i .i64))],[(100090,.vec false 1)],false,[]⟩
def qsJ (f:qen) (v:qb7):TSt:=fillS qlO [dv .bl v.1,dv .nat v.2.1,dv (.sl 19 qv) f.1,dv (.i .i64) f.2,dv (.i .i64) v.2.2]
def ZC (N:Nat) (s22_5:List qf) (s23_5:Int) (v:qb7):Tree (qb7⊕qaV):=
 .cond (decide (v.2.2 < s23_5)) (
 .bind (getI s22_5 v.2.2) fun e1=>
 .bind (qce N (qf.Dead e1)) fun r2=>
 .chk (avOK v.1.length v.2.1 ((v.1++((qf.ID e1).toList)).length) 1) <|
 .chk (avOK ((v.1++((qf.ID e1).toList)).length) ((v.1++((qf.ID e1).toList)).length) (((v.1++((qf.ID e1).toList))++r2.1).length) 1) <|
 let w3:Int:=IntKind.u64.wrap (((qf.F e1).length:Nat):Int)
 .bind (qO N w3) fun r4=>
 .chk (r4.1.length=r4.2) <|
 .chk (avOK (((v.1++((qf.ID e1).toList))++r2.1).length) (((v.1++((qf.ID e1).toList))++r2.1).length) ((((v.1++((qf.ID e1).toList))++r2.1)++r4.1).length) 1) <|
 .bind (qfu N s22_5 s23_5 v.2.2 (qf.F e1) (((qf.F e1).length:Nat):Int) (((v.1++((qf.ID e1).toList))++r2.1)++r4.1) ((((v.1++((qf.ID e1).toList))++r2.1)++r4.1).length) 0) fun z5=>
 .chk (in64 (v.2.2 + 1)) <|
 .ret (.inl (z5.1,z5.2.1,v.2.2 + 1))) <|
 .ret (.inr (v.1,v.2.1,v.2.2,decide (v.2.2 < s23_5)))
def qlL (N n:Nat) (f:qen) (v:qb7):Option qaV:=loopG (ZC N f.1 f.2) some n v
theorem qsv (N:Nat) (f:qen) (n:Nat) (v:qb7) (y:qaV) (h:qlL N n f v=some y):LG Tryz.prog qe9 65 (lookC qjp 5) (qsJ f v) (qcb f y):=
  loop_g qi (E:=qku N) (L:=lenv (qsy N)) (st:=qcb f) (g:=some) (R:=qcb f) (qio N) (lenv_ok (by kernel_rfl) ⟨qru N,trivial⟩) (rg0 (by kernel_rfl)) (fun v=>by kernel_rfl) (good_self (st:=qcb f) fun y=>by rfl) n v y h
def qgJ (N:Nat) (s22_5:List qf) (s23_5:Int) (o_5:List UInt8) (s4_5:Nat) (s24_5:Int):Option qaV:=qlL N N (s22_5,s23_5) (o_5,s4_5,s24_5)
def qlQ (N:Nat):LEnt:=smL qlO [.bl,.nat,(.sl 19 qv),(.i .i64),(.i .i64)] qaV (fun x=>qgJ N x.2.2.1 x.2.2.2.1 x.1 x.2.1 x.2.2.2.2.1) cs1 fun x=>qcb (x.2.2.1,x.2.2.2.1)
theorem qsm (N:Nat):LsOK Tryz.prog qe9 65 (lookC qjp 5) (qlQ N):=smL_ok fun x z h=>qsv N (x.2.2.1,x.2.2.2.1) N (x.1,x.2.1,x.2.2.2.2.1) z h
def qvc (z:List UInt8×Bool):TV×THp:=(.tup [.tv .bl (z.1:List UInt8),xb z.2],[])
def qhL (N:Nat) (a0:qh):Tree (List UInt8×Bool):=
 .bind (qhG N a0) fun r1=>
 .cond (!r1) (
 .ret ([],false)) <|
 let w2:Int:=IntKind.u64.wrap (((qh.R a0).length:Nat):Int)
 .bind (qO N w2) fun r3=>
 .bind (qgJ N (qh.R a0) (((qh.R a0).length:Nat):Int) r3.1 r3.2 0) fun z4=>
 .chk (z4.1.length=z4.2.1) <|
 .ret (z4.1,true)
def qfO (N:Nat) (a0:qh):Option (List UInt8×Bool):=(qhL N a0).run some
def quQ (N:Nat):List (Nat×LEnt):=[(5,qlQ N)]
def qqF (N:Nat):Ent:=smF ⟨65,[],[.x qt],[],[]⟩ [qt] (List UInt8×Bool) (fun x=>qfO N x.1) cs1 fun _=>qvc
theorem qt2 (N:Nat):SmOK Tryz.prog (qqF N):=
  fn_ok (H:=qe9) (L:=lenv (quQ N)) (ts:=[qt]) (T:=fun x=>qhL N x.1) 0 qyf (qio N) (lenv_ok (by kernel_rfl) ⟨qsm N,trivial⟩) (rg0 (by kernel_rfl)) fun x=>by kernel_rfl
noncomputable def qxj:Code:=Tryz.f30.body.getD .skip
theorem qy3:FnF Tryz.prog 30 Tryz.f30 qxj:=⟨qi,by kernel_rfl,by kernel_rfl,by kernel_rfl⟩
def qsC:TH:={ live:=[(0,[1,2]),(1,[2,3]),(2,[2])] }
def qsL (N:Nat):List Ent:=[qqF N,qor N]
theorem qq0 (N:Nat):SmAll Tryz.prog (qsL N):=⟨qt2 N,qm5 N,trivial⟩
def qsD (z:Vector UInt8 32):TV×THp:=(.tv (.ba 32) z,[])
def qep (N:Nat) (a0:qh):Tree (Vector UInt8 32):=
 .bind (qfO N a0) fun r1=>
 .bind (qb_ N r1.1) fun r2=>
 .ret r2
def qaZ (N:Nat) (a0:qh):Option (Vector UInt8 32):=(qep N a0).run some
def qsP (N:Nat):List (Nat×LEnt):=[]
def qme (N:Nat):Ent:=smF ⟨30,[],[.x qt],[],[]⟩ [qt] (Vector UInt8 32) (fun x=>qaZ N x.1) cs1 fun _=>qsD
theorem qrU (N:Nat):SmOK Tryz.prog (qme N):=
  fn_ok (H:=qsC) (L:=lenv (qsP N)) (ts:=[qt]) (T:=fun x=>qep N x.1) 0 qy3 (qq0 N) (lenv_ok (by kernel_rfl) trivial) (rg0 (by kernel_rfl)) fun x=>by kernel_rfl
noncomputable def qxG:Code:=Tryz.f33.body.getD .skip
theorem qy0:FnF Tryz.prog 33 Tryz.f33 qxG:=⟨qi,by kernel_rfl,by kernel_rfl,by kernel_rfl⟩
def qx2:TH:={ live:=[(0,[0,2]),(1,[2])] }
def qyJ (N:Nat):List Ent:=[qor N]
theorem qvz (N:Nat):SmAll Tryz.prog (qyJ N):=⟨qm5 N,trivial⟩
def qxD (z:Vector UInt8 32):TV×THp:=(.tv (.ba 32) z,[])
def qra (N:Nat) (a0:List UInt8):Tree (Vector UInt8 32):=
 .chk (lenOK (a0:List UInt8).length) <|
 .bind (qb_ N a0) fun r1=>
 .ret r1
def qoP (N:Nat) (a0:List UInt8):Option (Vector UInt8 32):=(qra N a0).run some
def qyj (N:Nat):List (Nat×LEnt):=[]
def qq7 (N:Nat):Ent:=smF ⟨33,[],[.x .s],[],[]⟩ [.s] (Vector UInt8 32) (fun x=>qoP N x.1) cs1 fun _=>qxD
theorem qsU (N:Nat):SmOK Tryz.prog (qq7 N):=
  fn_ok (H:=qx2) (L:=lenv (qyj N)) (ts:=[.s]) (T:=fun x=>qra N x.1) 0 qy0 (qvz N) (lenv_ok (by kernel_rfl) trivial) (rg0 (by kernel_rfl)) fun x=>by kernel_rfl
noncomputable def qw0:Code:=Tryz.f112.body.getD .skip
theorem qwr:FnF Tryz.prog 112 Tryz.f112 qw0:=⟨qi,by kernel_rfl,by kernel_rfl,by kernel_rfl⟩
def quS:TH:={ live:=[(0,[0,1]),(1,[4])] }
def quE (N:Nat):List Ent:=[]
theorem qtw (N:Nat):SmAll Tryz.prog (quE N):=trivial
def quY (z:Int):TV×THp:=(.tv (.i .u32) z,[])
def qkW (a0:Int) (a1:Int):Tree (Int):=
 .chk (0≤(16:Int)) <|
 let w1:Int:=uOr .u32 (uShl .u32 (IntKind.u32.wrap a1) 16) (IntKind.u32.wrap a0)
 .ret w1
def qoM (a0:Int) (a1:Int):Option (Int):=(qkW a0 a1).run some
def quO:List (Nat×LEnt):=[]
def qqJ:Ent:=smF ⟨112,[],[.x (.i .u16),.x (.i .u16)],[],[]⟩ [(.i .u16),(.i .u16)] (Int) (fun x=>qoM x.1 x.2.1) cs1 fun _=>quY
theorem qtP:SmOK Tryz.prog (qqJ):=
  fn_ok (H:=quS) (L:=lenv (quO)) (ts:=[(.i .u16),(.i .u16)]) (T:=fun x=>qkW x.1 x.2.1) 0 qwr (qtw 0) (lenv_ok (by kernel_rfl) trivial) (rg0 (by kernel_rfl)) fun x=>by kernel_rfl
noncomputable def qq1:Code:=Tryz.f91.body.getD .skip
theorem qyg:FnF Tryz.prog 91 Tryz.f91 qq1:=⟨qi,by kernel_rfl,by kernel_rfl,by kernel_rfl⟩
def qm3:TH:={ live:=[(0,[0]),(1,[0,3,4]),(2,[0,3,4,7,8]),(3,[0,3,4,7,8,9]),(4,[0,3,4,5,7,8]),(5,[0,3,4,7,8]),(6,[0,3,4,7,8]),(7,[0,3,4,7,8]),(8,[2])] }
def qsg (N:Nat):List Ent:=[qqJ]
theorem qo3 (N:Nat):SmAll Tryz.prog (qsg N):=⟨qtP,trivial⟩
abbrev qfx:=List UInt8×Int
abbrev qbr:=Int×Int×Int×Bool
def qcN (f:qfx) (y:qbr):Ex×TSt:=(.exit 0,⟨0,24,[],[(0,.tv .s f.1),(3,.tv (.i .u16) (y.1:Int)),(4,.tv (.i .u16) (y.2.1:Int)),(7,xi f.2),(8,xi y.2.2.1),(9,xb y.2.2.2)],[],false,[]⟩)
def qs9 (N:Nat):List (Nat×LEnt):=[]
abbrev qcU:=Int×Int×Int
def qnI:SP:=⟨0,24,[],[(0,.x .s),(3,.x (.i .u16)),(4,.x (.i .u16)),(7,.x (.i .i64)),(8,.x (.i .i64))],[],false,[]⟩
def qta (f:qfx) (v:qcU):TSt:=fillS qnI [dv .s f.1,dv (.i .u16) v.1,dv (.i .u16) v.2.1,dv (.i .i64) f.2,dv (.i .i64) v.2.2]
def qfA (N:Nat) (s0_3:List UInt8) (s7_3:Int) (v:qcU):Tree (qcU⊕qbr):=
 .cond (decide (v.2.2 < s7_3)) (
 .bind (getI s0_3 v.2.2) fun e1=>
 let w2:Int:=IntKind.u16.wrap ((e1.toNat:Nat):Int)
 .chk (in64 (v.2.2 + 1)) <|
 .ret (.inl (uAdd .u16 v.1 w2,uAdd .u16 v.2.1 (uAdd .u16 v.1 w2),v.2.2 + 1))) <|
 .ret (.inr (v.1,v.2.1,v.2.2,decide (v.2.2 < s7_3)))
def qnr (N n:Nat) (f:qfx) (v:qcU):Option qbr:=loopG (qfA N f.1 f.2) some n v
theorem qtg (N:Nat) (f:qfx) (n:Nat) (v:qcU) (y:qbr) (h:qnr N n f v=some y):LG Tryz.prog qm3 91 (lookC qq1 3) (qta f v) (qcN f y):=
  loop_g qi (E:=qsg N) (L:=lenv (qs9 N)) (st:=qcN f) (g:=some) (R:=qcN f) (qo3 N) (lenv_ok (by kernel_rfl) trivial) (rg0 (by kernel_rfl)) (fun v=>by kernel_rfl) (good_self (st:=qcN f) fun y=>by rfl) n v y h
def qkY (N:Nat) (s0_3:List UInt8) (s7_3:Int) (s3_3:Int) (s4_3:Int) (s8_3:Int):Option qbr:=qnr N N (s0_3,s7_3) (s3_3,s4_3,s8_3)
def qnH (N:Nat):LEnt:=smL qnI [.s,(.i .u16),(.i .u16),(.i .i64),(.i .i64)] qbr (fun x=>qkY N x.1 x.2.2.2.1 x.2.1 x.2.2.1 x.2.2.2.2.1) cs1 fun x=>qcN (x.1,x.2.2.2.1)
theorem qsw (N:Nat):LsOK Tryz.prog qm3 91 (lookC qq1 3) (qnH N):=smL_ok fun x z h=>qtg N (x.1,x.2.2.2.1) N (x.2.1,x.2.2.1,x.2.2.2.2.1) z h
def qvF (z:Int):TV×THp:=(.tv (.i .u32) z,[])
def qmU (N:Nat) (a0:List UInt8):Tree (Int):=
 .bind (qkY N a0 ((a0.length:Nat):Int) 0 0 0) fun z1=>
 .bind (qoM z1.1 z1.2.1) fun r2=>
 .ret r2
def qnm (N:Nat) (a0:List UInt8):Option (Int):=(qmU N a0).run some
def qvs (N:Nat):List (Nat×LEnt):=[(3,qnH N)]
def qsq (N:Nat):Ent:=smF ⟨91,[],[.x .s],[],[]⟩ [.s] (Int) (fun x=>qnm N x.1) cs1 fun _=>qvF
theorem quG (N:Nat):SmOK Tryz.prog (qsq N):=
  fn_ok (H:=qm3) (L:=lenv (qvs N)) (ts:=[.s]) (T:=fun x=>qmU N x.1) 0 qyg (qo3 N) (lenv_ok (by kernel_rfl) ⟨qsw N,trivial⟩) (rg0 (by kernel_rfl)) fun x=>by kernel_rfl
noncomputable def qw6:Code:=Tryz.f66.body.getD .skip
theorem qyy:FnF Tryz.prog 66 Tryz.f66 qw6:=⟨qi,by kernel_rfl,by kernel_rfl,by kernel_rfl⟩
def qvD:TH:={ live:=[(0,[0,2]),(1,[2])] }
def qvO (N:Nat):List Ent:=[qsq N,qq7 N]
theorem qua (N:Nat):SmAll Tryz.prog (qvO N):=⟨quG N,qsU N,trivial⟩
def qvC (z:qp):TV×THp:=(.tv qu z,[])
def qmI (N:Nat) (a0:List UInt8):Tree (qp):=
 .bind (qnm N a0) fun r1=>
 .bind (qoP N a0) fun r2=>
 .ret (qp.mk r1 r2)
def qmS (N:Nat) (a0:List UInt8):Option (qp):=(qmI N a0).run some
def qvA (N:Nat):List (Nat×LEnt):=[]
def qrY (N:Nat):Ent:=smF ⟨66,[],[.x .s],[],[]⟩ [.s] (qp) (fun x=>qmS N x.1) cs1 fun _=>qvC
theorem quX (N:Nat):SmOK Tryz.prog (qrY N):=
  fn_ok (H:=qvD) (L:=lenv (qvA N)) (ts:=[.s]) (T:=fun x=>qmI N x.1) 0 qyy (qua N) (lenv_ok (by kernel_rfl) trivial) (rg0 (by kernel_rfl)) fun x=>by kernel_rfl
noncomputable def qrm:Code:=Tryz.f32.body.getD .skip
theorem qxO:FnF Tryz.prog 32 Tryz.f32 qrm:=⟨qi,by kernel_rfl,by kernel_rfl,by kernel_rfl⟩
def qoQ:TH:={ live:=[(0,[0]),(1,[0,6]),(2,[2]),(3,[0,3]),(4,[0,3,9]),(5,[0,3]),(6,[0,3]),(7,[2])],nil:=[(3,[⟨.sl 3,35,(.sl 33 qu)⟩])] }
def qsY (N:Nat):List Ent:=[qrY N]
theorem qqG (N:Nat):SmAll Tryz.prog (qsY N):=⟨quX N,trivial⟩
abbrev qgH:=Unit
abbrev qbW:=List qp×List UInt8×Bool
def qdE (f:qgH) (y:qbW):Ex×TSt:=(.exit 0,⟨0,19,[],[(0,.tv .s (y.2.1:List UInt8)),(3,.v 35 y.1.length),(9,xb y.2.2)],[(35,.vec false 33 (.sl 33 qu) (y.1:List qp))],false,[]⟩)
def qut (N:Nat):List (Nat×LEnt):=[]
abbrev qed:=List qp×List UInt8
def qpd:SP:=⟨0,19,[],[(0,.x .s),(3,.vs 35)],[(35,.vec false 33)],false,[]⟩
def que (f:qgH) (v:qed):TSt:=fillS qpd [dv (.sl 33 qu) v.1,dv .s v.2]
def qg2 (N:Nat) (v:qed):Tree (qed⊕qbW):=
 .cond (decide (((8:Int))≤((v.2.length:Nat):Int))) (
 .chk (0≤(0:Int)∧(0:Int)≤(8:Int)∧(8:Int)≤((v.2.length:Nat):Int)) <|
 .bind (qmS N ((v.2.take 8).drop 0)) fun r1=>
 .chk (avOK v.1.length v.1.length ((v.1++[r1]).length) 36) <|
 .chk (0≤(8:Int)∧(8:Int)≤((v.2.length:Nat):Int)) <|
 .ret (.inl (v.1++[r1],v.2.drop 8))) <|
 .ret (.inr (v.1,v.2,decide (((8:Int))≤((v.2.length:Nat):Int))))
def qoI (N n:Nat) (f:qgH) (v:qed):Option qbW:=loopG (qg2 N) some n v
theorem quk (N:Nat) (f:qgH) (n:Nat) (v:qed) (y:qbW) (h:qoI N n f v=some y):LG Tryz.prog qoQ 32 (lookC qrm 4) (que f v) (qdE f y):=
  loop_g qi (E:=qsY N) (L:=lenv (qut N)) (st:=qdE f) (g:=some) (R:=qdE f) (qqG N) (lenv_ok (by kernel_rfl) trivial) (rg0 (by kernel_rfl)) (fun v=>by kernel_rfl) (good_self (st:=qdE f) fun y=>by rfl) n v y h
def qmz (N:Nat) (o_4:List qp) (s0_4:List UInt8):Option qbW:=qoI N N () (o_4,s0_4)
def qoE (N:Nat):LEnt:=smL qpd [(.sl 33 qu),.s] qbW (fun x=>qmz N x.1 x.2.1) cs1 fun x=>qdE ()
theorem qtG (N:Nat):LsOK Tryz.prog qoQ 32 (lookC qrm 4) (qoE N):=smL_ok fun x z h=>quk N () N (x.1,x.2.1) z h
def qwg (z:List qp):TV×THp:=(.tv (.sl 33 qu) z,[])
def qol (N:Nat) (a0:List UInt8):Tree (List qp):=
 .cond (decide (((a0.length:Nat):Int) < ((24:Int)))) (
 .ret []) <|
 .bind (chkLs [(([]:List qp).length,0)] (qmz N [] a0)) fun z1=>
 .chk (z1.1.length=z1.1.length) <|
 .ret z1.1
def qpM (N:Nat) (a0:List UInt8):Option (List qp):=(qol N a0).run some
def qwt (N:Nat):List (Nat×LEnt):=[(4,qoE N)]
def qsW (N:Nat):Ent:=smF ⟨32,[],[.x .s],[],[]⟩ [.s] (List qp) (fun x=>qpM N x.1) cs1 fun _=>qwg
theorem qvG (N:Nat):SmOK Tryz.prog (qsW N):=
  fn_ok (H:=qoQ) (L:=lenv (qwt N)) (ts:=[.s]) (T:=fun x=>qol N x.1) 0 qxO (qqG N) (lenv_ok (by kernel_rfl) ⟨qtG N,trivial⟩) (rg0 (by kernel_rfl)) fun x=>by kernel_rfl
noncomputable def qjf:Code:=Tryz.f12.body.getD .skip
theorem qyE:FnF Tryz.prog 12 Tryz.f12 qjf:=⟨qi,by kernel_rfl,by kernel_rfl,by kernel_rfl⟩
def qcS:TH:={ live:=[(0,[1,2]),(1,[1,2,13]),(2,[2,3]),(3,[1,2,4]),(4,[2,4,19,20,21]),(5,[2,4,19,20,21,22]),(6,[2,4,6,19,20,21]),(7,[2,4,6,7,19,20,21]),(8,[2,4,7,19,20,21,31,32,33]),(9,[2,4,7,19,20,21,31,32,33,34]),(10,[2,4,7,9,19,20,21,31,32,33]),(11,[2,4,7,9,10,19,20,21,31,32,33]),(12,[2,4,7,19,20,21,31,32,33]),(13,[2,4,7,19,20,21,31,32,33]),(14,[2,4,19,20,21]),(15,[2,4,19,20,21]),(16,[2,3])],nil:=[(0,[⟨.ob 20 [1],24,(.sl 19 qm)⟩]),(2,[⟨.ob 20 [1],24,(.sl 19 qm)⟩]),(3,[⟨.ob 40 [1],44,(.sl 19 qm)⟩]),(7,[⟨.ob 70 [2],75,(.sl 37 qq)⟩])] }
def qit (N:Nat):List Ent:=[qnf N,qme N,qq7 N,qsW N]
theorem qgD (N:Nat):SmAll Tryz.prog (qit N):=⟨qqC N,qrU N,qsU N,qvG N,trivial⟩
abbrev qcp:=List qd×List qd×Vector UInt8 32×Vector UInt8 32×Vector UInt8 16×qc×List qf×Int×Int×List qk×Int
abbrev ZG:=List qe×Int×Bool
def qa5 (f:qcp) (y:ZG):Ex×TSt:=(.exit 2,⟨0,66,[],[(2,.p 20 [] 0),(4,.p 40 [] 0),(7,.p 70 [] 0),(19,.tv (.sl 19 qv) f.2.2.2.2.2.2.1),(20,xi f.2.2.2.2.2.2.2.1),(21,xi f.2.2.2.2.2.2.2.2.1),(31,.tv (.sl 4 qM) f.2.2.2.2.2.2.2.2.2.1),(32,xi f.2.2.2.2.2.2.2.2.2.2),(33,xi y.2.1),(34,xb y.2.2)],[(20,.cell false (.ag [.tv (.ba 32) f.2.2.1,.v 24 f.1.length])),(24,.vec false 19 (.sl 19 qm) f.1),(40,.cell false (.ag [.tv (.ba 32) f.2.2.2.1,.v 44 f.2.1.length])),(44,.vec false 19 (.sl 19 qm) f.2.1),(70,.cell false (.ag [.tv (.ba 16) f.2.2.2.2.1,.tv qo f.2.2.2.2.2.1,.v 75 y.1.length])),(75,.vec false 37 (.sl 37 qq) (y.1:List qe))],false,[]⟩)
def qrz (N:Nat):List (Nat×LEnt):=[]
abbrev qa0:=List qe×Int
def qjt:SP:=⟨0,66,[],[(2,.k (.p 20 [] 0)),(4,.k (.p 40 [] 0)),(7,.k (.p 70 [] 0)),(19,.x (.sl 19 qv)),(20,.x (.i .i64)),(21,.x (.i .i64)),(31,.x (.sl 4 qM)),(32,.x (.i .i64)),(33,.x (.i .i64))],[(20,.cell false (.ag [.x (.ba 32),.vs 24])),(24,.vec false 19),(40,.cell false (.ag [.x (.ba 32),.vs 44])),(44,.vec false 19),(70,.cell false (.ag [.x (.ba 16),.x qo,.vs 75])),(75,.vec false 37)],false,[]⟩
def qrs (f:qcp) (v:qa0):TSt:=fillS qjt [dv (.sl 19 qm) f.1,dv (.sl 19 qm) f.2.1,dv (.sl 37 qq) v.1,dv (.ba 32) f.2.2.1,dv (.ba 32) f.2.2.2.1,dv (.ba 16) f.2.2.2.2.1,dv qo f.2.2.2.2.2.1,dv (.sl 19 qv) f.2.2.2.2.2.2.1,dv (.i .i64) f.2.2.2.2.2.2.2.1,dv (.i .i64) f.2.2.2.2.2.2.2.2.1,dv (.sl 4 qM) f.2.2.2.2.2.2.2.2.2.1,dv (.i .i64) f.2.2.2.2.2.2.2.2.2.2,dv (.i .i64) v.2]
def qcm (N:Nat) (o_9:List qd) (o_9_2:List qd) (o_9_4:Vector UInt8 32) (o_9_5:Vector UInt8 32) (o_9_6:Vector UInt8 16) (o_9_7:qc) (s19_9:List qf) (s20_9:Int) (s21_9:Int) (s31_9:List qk) (s32_9:Int) (v:qa0):Tree (qa0⊕ZG):=
 .cond (decide (v.2 < s32_9)) (
 .bind (getI s31_9 v.2) fun e1=>
 .bind (qoP N (qr.V (qk.C e1))) fun r2=>
 .bind (qpM N (qr.V (qk.C e1))) fun r3=>
 .chk (avOK v.1.length v.1.length ((v.1++[qe.mk (qk.No e1) (qr.S (qk.C e1)) (((qr.V (qk.C e1)).length:Nat):Int) r2 r3]).length) 88) <|
 .chk (in64 (v.2 + 1)) <|
 .ret (.inl (v.1++[qe.mk (qk.No e1) (qr.S (qk.C e1)) (((qr.V (qk.C e1)).length:Nat):Int) r2 r3],v.2 + 1))) <|
 .ret (.inr (v.1,v.2,decide (v.2 < s32_9)))
def qjA (N n:Nat) (f:qcp) (v:qa0):Option ZG:=loopG (qcm N f.1 f.2.1 f.2.2.1 f.2.2.2.1 f.2.2.2.2.1 f.2.2.2.2.2.1 f.2.2.2.2.2.2.1 f.2.2.2.2.2.2.2.1 f.2.2.2.2.2.2.2.2.1 f.2.2.2.2.2.2.2.2.2.1 f.2.2.2.2.2.2.2.2.2.2) some n v
theorem qq3 (N:Nat) (f:qcp) (n:Nat) (v:qa0) (y:ZG) (h:qjA N n f v=some y):LG Tryz.prog qcS 12 (lookC (lookC qjf 5) 9) (qrs f v) (qa5 f y):=
  loop_g qi (E:=qit N) (L:=lenv (qrz N)) (st:=qa5 f) (g:=some) (R:=qa5 f) (qgD N) (lenv_ok (by kernel_rfl) trivial) (rg0 (by kernel_rfl)) (fun v=>by kernel_rfl) (good_self (st:=qa5 f) fun y=>by rfl) n v y h
def qet (N:Nat) (o_9:List qd) (o_9_2:List qd) (o_9_4:Vector UInt8 32) (o_9_5:Vector UInt8 32) (o_9_6:Vector UInt8 16) (o_9_7:qc) (s19_9:List qf) (s20_9:Int) (s21_9:Int) (s31_9:List qk) (s32_9:Int) (o_9_3:List qe) (s33_9:Int):Option ZG:=qjA N N (o_9,o_9_2,o_9_4,o_9_5,o_9_6,o_9_7,s19_9,s20_9,s21_9,s31_9,s32_9) (o_9_3,s33_9)
def qi4 (N:Nat):LEnt:=smL qjt [(.sl 19 qm),(.sl 19 qm),(.sl 37 qq),(.ba 32),(.ba 32),(.ba 16),qo,(.sl 19 qv),(.i .i64),(.i .i64),(.sl 4 qM),(.i .i64),(.i .i64)] ZG (fun x=>qet N x.1 x.2.1 x.2.2.2.1 x.2.2.2.2.1 x.2.2.2.2.2.1 x.2.2.2.2.2.2.1 x.2.2.2.2.2.2.2.1 x.2.2.2.2.2.2.2.2.1 x.2.2.2.2.2.2.2.2.2.1 x.2.2.2.2.2.2.2.2.2.2.1 x.2.2.2.2.2.2.2.2.2.2.2.1 x.2.2.1 x.2.2.2.2.2.2.2.2.2.2.2.2.1) cs1 fun x=>qa5 (x.1,x.2.1,x.2.2.2.1,x.2.2.2.2.1,x.2.2.2.2.2.1,x.2.2.2.2.2.2.1,x.2.2.2.2.2.2.2.1,x.2.2.2.2.2.2.2.2.1,x.2.2.2.2.2.2.2.2.2.1,x.2.2.2.2.2.2.2.2.2.2.1,x.2.2.2.2.2.2.2.2.2.2.2.1)
theorem qp2 (N:Nat):LsOK Tryz.prog qcS 12 (lookC (lookC qjf 5) 9) (qi4 N):=smL_ok fun x z h=>qq3 N (x.1,x.2.1,x.2.2.2.1,x.2.2.2.2.1,x.2.2.2.2.2.1,x.2.2.2.2.2.2.1,x.2.2.2.2.2.2.2.1,x.2.2.2.2.2.2.2.2.1,x.2.2.2.2.2.2.2.2.2.1,x.2.2.2.2.2.2.2.2.2.2.1,x.2.2.2.2.2.2.2.2.2.2.2.1) N (x.2.2.1,x.2.2.2.2.2.2.2.2.2.2.2.2.1) z h
abbrev qcC:=List qd×Vector UInt8 32×Vector UInt8 32×List qf×Int
abbrev ZH:=List qd×Int×Bool
def qa2 (f:qcC) (y:ZH):Ex×TSt:=(.exit 0,⟨0,66,[],[(2,.p 20 [] 0),(4,.p 40 [] 0),(19,.tv (.sl 19 qv) f.2.2.2.1),(20,xi f.2.2.2.2),(21,xi y.2.1),(22,xb y.2.2)],[(20,.cell false (.ag [.tv (.ba 32) f.2.1,.v 24 f.1.length])),(24,.vec false 19 (.sl 19 qm) f.1),(40,.cell false (.ag [.tv (.ba 32) f.2.2.1,.v 44 y.1.length])),(44,.vec false 19 (.sl 19 qm) (y.1:List qd))],false,[]⟩)
def qrD (N:Nat):List (Nat×LEnt):=[(9,qi4 N)]
abbrev qba:=List qd×Int
def qjm:SP:=⟨0,66,[],[(2,.k (.p 20 [] 0)),(4,.k (.p 40 [] 0)),(19,.x (.sl 19 qv)),(20,.x (.i .i64)),(21,.x (.i .i64))],[(20,.cell false (.ag [.x (.ba 32),.vs 24])),(24,.vec false 19),(40,.cell false (.ag [.x (.ba 32),.vs 44])),(44,.vec false 19)],false,[]⟩
def qrh (f:qcC) (v:qba):TSt:=fillS qjm [dv (.sl 19 qm) f.1,dv (.sl 19 qm) v.1,dv (.ba 32) f.2.1,dv (.ba 32) f.2.2.1,dv (.sl 19 qv) f.2.2.2.1,dv (.i .i64) f.2.2.2.2,dv (.i .i64) v.2]
def qcn (N:Nat) (o_5:List qd) (o_5_3:Vector UInt8 32) (o_5_4:Vector UInt8 32) (s19_5:List qf) (s20_5:Int) (v:qba):Tree (qba⊕ZH):=
 .cond (decide (v.2 < s20_5)) (
 .bind (getI s19_5 v.2) fun e1=>
 .bind (chkLs [(o_5.length,o_5.length),(v.1.length,v.1.length),(([]:List qe).length,0)] (qet N o_5 v.1 o_5_3 o_5_4 (qf.ID e1) (qf.Dead e1) s19_5 s20_5 v.2 (qf.F e1) (((qf.F e1).length:Nat):Int) [] 0)) fun z2=>
 .chk (z2.1.length=z2.1.length) <|
 .chk (avOK v.1.length v.1.length ((v.1++[qd.mk (qf.ID e1) (qf.Dead e1) z2.1]).length) 56) <|
 .chk (in64 (v.2 + 1)) <|
 .ret (.inl (v.1++[qd.mk (qf.ID e1) (qf.Dead e1) z2.1],v.2 + 1))) <|
 .ret (.inr (v.1,v.2,decide (v.2 < s20_5)))
def qjB (N n:Nat) (f:qcC) (v:qba):Option ZH:=loopG (qcn N f.1 f.2.1 f.2.2.1 f.2.2.2.1 f.2.2.2.2) some n v
theorem qrv (N:Nat) (f:qcC) (n:Nat) (v:qba) (y:ZH) (h:qjB N n f v=some y):LG Tryz.prog qcS 12 (lookC qjf 5) (qrh f v) (qa2 f y):=
  loop_g qi (E:=qit N) (L:=lenv (qrD N)) (st:=qa2 f) (g:=some) (R:=qa2 f) (qgD N) (lenv_ok (by kernel_rfl) ⟨qp2 N,trivial⟩) (rg0 (by kernel_rfl)) (fun v=>by kernel_rfl) (good_self (st:=qa2 f) fun y=>by rfl) n v y h
def qeq (N:Nat) (o_5:List qd) (o_5_3:Vector UInt8 32) (o_5_4:Vector UInt8 32) (s19_5:List qf) (s20_5:Int) (o_5_2:List qd) (s21_5:Int):Option ZH:=qjB N N (o_5,o_5_3,o_5_4,s19_5,s20_5) (o_5_2,s21_5)
def qjd (N:Nat):LEnt:=smL qjm [(.sl 19 qm),(.sl 19 qm),(.ba 32),(.ba 32),(.sl 19 qv),(.i .i64),(.i .i64)] ZH (fun x=>qeq N x.1 x.2.2.1 x.2.2.2.1 x.2.2.2.2.1 x.2.2.2.2.2.1 x.2.1 x.2.2.2.2.2.2.1) cs1 fun x=>qa2 (x.1,x.2.2.1,x.2.2.2.1,x.2.2.2.2.1,x.2.2.2.2.2.1)
theorem qqd (N:Nat):LsOK Tryz.prog qcS 12 (lookC qjf 5) (qjd N):=smL_ok fun x z h=>qrv N (x.1,x.2.2.1,x.2.2.2.1,x.2.2.2.2.1,x.2.2.2.2.2.1) N (x.2.1,x.2.2.2.2.2.2.1) z h
def qtE (z:qb×Bool):TV×THp:=(.tup [.tv qn (z.1:qb),xb z.2],[])
def qfB (N:Nat) (a0:qh):Tree (qb×Bool):=
 .bind (qhG N a0) fun r1=>
 .cond (!r1) (
 .chk (0=0) <|
 .ret (qb.mk ((Vector.replicate 32 0)) [],false)) <|
 .bind (qaZ N a0) fun r2=>
 .bind (chkLs [(([]:List qd).length,0),(([]:List qd).length,0)] (qeq N [] ((Vector.replicate 32 0)) r2 (qh.R a0) (((qh.R a0).length:Nat):Int) [] 0)) fun z3=>
 .chk (z3.1.length=z3.1.length) <|
 .ret (qb.mk r2 z3.1,true)
def qbO (N:Nat) (a0:qh):Option (qb×Bool):=(qfB N a0).run some
def qth (N:Nat):List (Nat×LEnt):=[(5,qjd N)]
def qnq (N:Nat):Ent:=smF ⟨12,[],[.x qt],[],[]⟩ [qt] (qb×Bool) (fun x=>qbO N x.1) cs1 fun _=>qtE
theorem qsu (N:Nat):SmOK Tryz.prog (qnq N):=
  fn_ok (H:=qcS) (L:=lenv (qth N)) (ts:=[qt]) (T:=fun x=>qfB N x.1) 0 qyE (qgD N) (lenv_ok (by kernel_rfl) ⟨qqd N,trivial⟩) (rg0 (by kernel_rfl)) fun x=>by kernel_rfl
noncomputable def qyd:Code:=Tryz.f41.body.getD .skip
theorem qx1:FnF Tryz.prog 41 Tryz.f41 qyd:=⟨qi,by kernel_rfl,by kernel_rfl,by kernel_rfl⟩
def qom:TH:={ live:=[(0,[1]),(1,[1,5]),(2,[2]),(3,[2])],dec:=[12,17,22] }
def qps (N:Nat):List Ent:=[]
theorem qm2 (N:Nat):SmAll Tryz.prog (qps N):=trivial
def qpB (z:Bool):TV×THp:=(xb z,[])
def qdM (a0:qc):Tree (Bool):=
 .cond (decide ((qc.N a0)=((0:Int)))) (
 .ret (decide ((qc.Rep a0)=((0:Int))))) <|
 .cond (decide (((1:Int))≤(qc.N a0))) (
 .cond (decide ((qc.N a0)≤((1099511627776:Int)))) (
 .cond (decide (((0:Int))≤(qc.Rep a0))) (
 .ret (decide ((qc.Rep a0) < ((8:Int))))) <|
 .ret false) <|
 .ret false) <|
 .ret false
def q9 (a0:qc):Option (Bool):=(qdM a0).run some
def qpb:List (Nat×LEnt):=[]
def zN:Ent:=smF ⟨41,[],[.x qo],[],[]⟩ [qo] (Bool) (fun x=>q9 x.1) cs1 fun _=>qpB
theorem Qh:SmOK Tryz.prog (zN):=
  fn_ok (H:=qom) (L:=lenv (qpb)) (ts:=[qo]) (T:=fun x=>qdM x.1) 0 qx1 (qm2 0) (lenv_ok (by kernel_rfl) trivial) (rg0 (by kernel_rfl)) fun x=>by kernel_rfl
noncomputable def qxq:Code:=Tryz.f97.body.getD .skip
theorem qxE:FnF Tryz.prog 97 Tryz.f97 qxq:=⟨qi,by kernel_rfl,by kernel_rfl,by kernel_rfl⟩
def qo2:TH:={ live:=[(0,[1]),(1,[1,3]),(2,[2])],dec:=[8,14] }
def qop (N:Nat):List Ent:=[zN]
theorem qmH (N:Nat):SmAll Tryz.prog (qop N):=⟨Qh,trivial⟩
def qpF (z:Bool):TV×THp:=(xb z,[])
def qdz (a0:qr):Tree (Bool):=
 .bind (q9 (qr.S a0)) fun r1=>
 .cond r1 (
 .cond (decide (((0:Int)) < (qc.N (qr.S a0)))) (
 .ret (decide ((((qr.V a0).length:Nat):Int)≤((200:Int))))) <|
 .ret false) <|
 .ret false
def qaW (a0:qr):Option (Bool):=(qdz a0).run some
def qoG:List (Nat×LEnt):=[]
def qdJ:Ent:=smF ⟨97,[],[.x q8],[],[]⟩ [q8] (Bool) (fun x=>qaW x.1) cs1 fun _=>qpF
theorem qhw:SmOK Tryz.prog (qdJ):=
  fn_ok (H:=qo2) (L:=lenv (qoG)) (ts:=[q8]) (T:=fun x=>qdz x.1) 0 qxE (qmH 0) (lenv_ok (by kernel_rfl) trivial) (rg0 (by kernel_rfl)) fun x=>by kernel_rfl
noncomputable def qxv:Code:=Tryz.f77.body.getD .skip
theorem qyC:FnF Tryz.prog 77 Tryz.f77 qxv:=⟨qi,by kernel_rfl,by kernel_rfl,by kernel_rfl⟩
def qnY:TH:={ live:=[(0,[2,3]),(1,[4])],dec:=[10,16] }
def qnT (N:Nat):List Ent:=[]
theorem ql_ (N:Nat):SmAll Tryz.prog (qnT N):=trivial
def qnS (z:Bool):TV×THp:=(xb z,[])
def qda (a0:qc) (a1:qc):Tree (Bool):=
 .cond (decide ((qc.N a0) < (qc.N a1))) (
 .ret true) <|
 .cond (decide ((qc.N a0)=(qc.N a1))) (
 .ret (decide ((qc.Rep a0) < (qc.Rep a1)))) <|
 .ret false
def qaC (a0:qc) (a1:qc):Option (Bool):=(qda a0 a1).run some
def qnW:List (Nat×LEnt):=[]
def qc7:Ent:=smF ⟨77,[],[.x qo,.x qo],[],[]⟩ [qo,qo] (Bool) (fun x=>qaC x.1 x.2.1) cs1 fun _=>qnS
theorem qgF:SmOK Tryz.prog (qc7):=
  fn_ok (H:=qnY) (L:=lenv (qnW)) (ts:=[qo,qo]) (T:=fun x=>qda x.1 x.2.1) 0 qyC (ql_ 0) (lenv_ok (by kernel_rfl) trivial) (rg0 (by kernel_rfl)) fun x=>by kernel_rfl
noncomputable def qrG:Code:=Tryz.f73.body.getD .skip
theorem qyP:FnF Tryz.prog 73 Tryz.f73 qrG:=⟨qi,by kernel_rfl,by kernel_rfl,by kernel_rfl⟩
def qdX:TH:={ live:=[(0,[1]),(1,[1,3]),(2,[1,25]),(3,[2]),(4,[1,4]),(5,[1,4,5]),(6,[1,4,5,30]),(7,[1,4,5]),(8,[1,4,5,6]),(9,[1,4,5,6,7]),(10,[1,4,5,6,7,8]),(11,[1,5,6,63]),(12,[2]),(13,[1,4,5]),(14,[2])],dec:=[14,19,49,53,59] }
def qh7 (N:Nat):List Ent:=[zN,qdJ,qc7]
theorem qgz (N:Nat):SmAll Tryz.prog (qh7 N):=⟨Qh,qhw,qgF,trivial⟩
abbrev qad:=qf
abbrev zy:=Unit⊕(Int×Int×Bool)
def QO (f:qad):zy→Ex×TSt
 | .inl y=>(.ret,⟨0,66,[],[(2,.bc false)],[],false,[]⟩)
 | .inr y=>(.exit 0,⟨0,66,[],[(1,.p 10 [] 0),(4,xi y.1),(5,xi y.2.1),(30,xb y.2.2)],[(10,.cell false (.tv qv f))],false,[]⟩)
def qmi (N:Nat):List (Nat×LEnt):=[]
abbrev QU:=Int×Int
def qfN:SP:=⟨0,66,[],[(1,.k (.p 10 [] 0)),(4,.x (.i .i64)),(5,.x (.i .i64))],[(10,.cell false (.x qv))],false,[]⟩
def qlS (f:qad) (v:QU):TSt:=fillS qfN [dv qv f,dv (.i .i64) v.1,dv (.i .i64) v.2]
def qal (N:Nat) (o_6:qf) (v:QU):Tree (QU⊕zy):=
 .cond (decide (v.2 < (((qf.F o_6).length:Nat):Int))) (
 .bind (getI (qf.F o_6) v.2) fun e1=>
 .bind (qaW (qk.C e1)) fun r2=>
 .bind (qaC (qf.Dead o_6) (qr.S (qk.C e1))) fun r3=>
 .cond (!r2) (
 .ret (.inr (.inl ()))) <|
 .cond (!r3) (
 .ret (.inr (.inl ()))) <|
 .cond (decide ((qk.No e1)≤v.1)) (
 .ret (.inr (.inl ()))) <|
 .cond (decide (((8:Int))≤(qk.No e1))) (
 .ret (.inr (.inl ()))) <|
 .chk (in64 (v.2 + 1)) <|
 .ret (.inl (qk.No e1,v.2 + 1))) <|
 .ret (.inr (.inr ((v.1,v.2,decide (v.2 < (((qf.F o_6).length:Nat):Int))))))
def qfJ (N n:Nat) (f:qad) (v:QU):Option zy:=loopG (qal N f) some n v
theorem qmn (N:Nat) (f:qad) (n:Nat) (v:QU) (y:zy) (h:qfJ N n f v=some y):LG Tryz.prog qdX 73 (lookC qrG 6) (qlS f v) (QO f y):=
  loop_g qi (E:=qh7 N) (L:=lenv (qmi N)) (st:=QO f) (g:=some) (R:=QO f) (qgz N) (lenv_ok (by kernel_rfl) trivial) (rg0 (by kernel_rfl)) (fun v=>by kernel_rfl) (good_self (st:=QO f) fun y=>by rcases y with _ | _<;>rfl) n v y h
def qbi (N:Nat) (o_6:qf) (s4_6:Int) (s5_6:Int):Option zy:=qfJ N N o_6 (s4_6,s5_6)
def qfS (N:Nat):LEnt:=smL qfN [qv,(.i .i64),(.i .i64)] zy (fun x=>qbi N x.1 x.2.1 x.2.2.1) (csS cs1) fun x=>QO x.1
theorem qk7 (N:Nat):LsOK Tryz.prog qdX 73 (lookC qrG 6) (qfS N):=smL_ok fun x z h=>qmn N x.1 N (x.2.1,x.2.2.1) z h
def qoS (z:Bool):TV×THp:=(xb z,[])
def qdK (N:Nat) (a0:qf):Tree (Bool):=
 .bind (q9 (qf.Dead a0)) fun r1=>
 .cond (!r1) (
 .ret false) <|
 .cond (decide ((((qf.F a0).length:Nat):Int)=((0:Int)))) (
 .cond (eqE qo (qf.Dead a0) (qc.mk 0 0)) (
 .ret false) <|
 .bind (qbi N a0 (-1) 0) fun z2=>
 .sum z2 (fun z3=>
 .ret false) fun z3=>
 .ret true) <|
 .bind (qbi N a0 (-1) 0) fun z2=>
 .sum z2 (fun z3=>
 .ret false) fun z3=>
 .ret true
def qco (N:Nat) (a0:qf):Option (Bool):=(qdK N a0).run some
def qpg (N:Nat):List (Nat×LEnt):=[(6,qfS N)]
def qh0 (N:Nat):Ent:=smF ⟨73,[],[.x qv],[],[]⟩ [qv] (Bool) (fun x=>qco N x.1) cs1 fun _=>qoS
theorem qoh (N:Nat):SmOK Tryz.prog (qh0 N):=
  fn_ok (H:=qdX) (L:=lenv (qpg N)) (ts:=[qv]) (T:=fun x=>qdK N x.1) 0 qyP (qgz N) (lenv_ok (by kernel_rfl) ⟨qk7 N,trivial⟩) (rg0 (by kernel_rfl)) fun x=>by kernel_rfl
noncomputable def qrj:Code:=Tryz.f42.body.getD .skip
theorem qyO:FnF Tryz.prog 42 Tryz.f42 qrj:=⟨qi,by kernel_rfl,by kernel_rfl,by kernel_rfl⟩
def qdd:TH:={ live:=[(0,[2,3]),(1,[2,3,5]),(2,[2,3,5,7]),(3,[2,3,5]),(4,[2,3,5,16]),(5,[4]),(6,[4])] }
def qhu (N:Nat):List Ent:=[]
theorem qfR (N:Nat):SmAll Tryz.prog (qhu N):=trivial
abbrev ZK:=Vector UInt8 16×Vector UInt8 16
abbrev zd:=Bool⊕(Int×Bool)
def Qv (f:ZK):zd→Ex×TSt
 | .inl y=>(.ret,⟨0,24,[],[(4,xb y)],[],false,[]⟩)
 | .inr y=>(.exit 0,⟨0,24,[],[(2,.p 20 [] 0),(3,.p 30 [] 0),(5,xi y.1),(7,xb y.2)],[(20,.cell false (.tv (.ba 16) f.1)),(30,.cell false (.tv (.ba 16) f.2))],false,[]⟩)
def qkV (N:Nat):List (Nat×LEnt):=[]
abbrev Ql:=Int
def qeU:SP:=⟨0,24,[],[(2,.k (.p 20 [] 0)),(3,.k (.p 30 [] 0)),(5,.x (.i .i64))],[(20,.cell false (.x (.ba 16))),(30,.cell false (.x (.ba 16)))],false,[]⟩
def qkR (f:ZK) (v:Ql):TSt:=fillS qeU [dv (.ba 16) f.1,dv (.ba 16) f.2,dv (.i .i64) v]
def Qy (N:Nat) (o_2:Vector UInt8 16) (o_2_2:Vector UInt8 16) (v:Ql):Tree (Ql⊕zd):=
 .cond (decide (v < ((16:Int)))) (
 .chk (0≤v∧v < ((16:Nat):Int)) <|
 .chk (v.toNat < 16) <|
 .chk (0≤v∧v < ((16:Nat):Int)) <|
 .chk (v.toNat < 16) <|
 .cond (!decide ((((o_2.toList.getD v.toNat 0).toNat:Nat):Int)=(((o_2_2.toList.getD v.toNat 0).toNat:Nat):Int))) (
 .chk (0≤v∧v < ((16:Nat):Int)) <|
 .chk (v.toNat < 16) <|
 .chk (0≤v∧v < ((16:Nat):Int)) <|
 .chk (v.toNat < 16) <|
 .ret (.inr (.inl (decide ((((o_2.toList.getD v.toNat 0).toNat:Nat):Int) < (((o_2_2.toList.getD v.toNat 0).toNat:Nat):Int)))))) <|
 .chk (in64 (v + 1)) <|
 .ret (.inl (v + 1))) <|
 .ret (.inr (.inr ((v,decide (v < ((16:Int)))))))
def qeZ (N n:Nat) (f:ZK) (v:Ql):Option zd:=loopG (Qy N f.1 f.2) some n v
theorem qlh (N:Nat) (f:ZK) (n:Nat) (v:Ql) (y:zd) (h:qeZ N n f v=some y):LG Tryz.prog qdd 42 (lookC qrj 2) (qkR f v) (Qv f y):=
  loop_g qi (E:=qhu N) (L:=lenv (qkV N)) (st:=Qv f) (g:=some) (R:=Qv f) (qfR N) (lenv_ok (by kernel_rfl) trivial) (rg0 (by kernel_rfl)) (fun v=>by kernel_rfl) (good_self (st:=Qv f) fun y=>by rcases y with _ | _<;>rfl) n v y h
def qcu (N:Nat) (o_2:Vector UInt8 16) (o_2_2:Vector UInt8 16) (s5_2:Int):Option zd:=qeZ N N (o_2,o_2_2) s5_2
def qe7 (N:Nat):LEnt:=smL qeU [(.ba 16),(.ba 16),(.i .i64)] zd (fun x=>qcu N x.1 x.2.1 x.2.2.1) (csS cs1) fun x=>Qv (x.1,x.2.1)
theorem qj0 (N:Nat):LsOK Tryz.prog qdd 42 (lookC qrj 2) (qe7 N):=smL_ok fun x z h=>qlh N (x.1,x.2.1) N x.2.2.1 z h
def qoe (z:Bool):TV×THp:=(xb z,[])
def qc2 (N:Nat) (a0:Vector UInt8 16) (a1:Vector UInt8 16):Tree (Bool):=
 .bind (qcu N a0 a1 0) fun z1=>
 .sum z1 (fun z2=>
 .ret z2) fun z2=>
 .ret false
def Qc (N:Nat) (a0:Vector UInt8 16) (a1:Vector UInt8 16):Option (Bool):=(qc2 N a0 a1).run some
def qog (N:Nat):List (Nat×LEnt):=[(2,qe7 N)]
def qdh (N:Nat):Ent:=smF ⟨42,[],[.x (.ba 16),.x (.ba 16)],[],[]⟩ [(.ba 16),(.ba 16)] (Bool) (fun x=>Qc N x.1 x.2.1) cs1 fun _=>qoe
theorem qgL (N:Nat):SmOK Tryz.prog (qdh N):=
  fn_ok (H:=qdd) (L:=lenv (qog N)) (ts:=[(.ba 16),(.ba 16)]) (T:=fun x=>qc2 N x.1 x.2.1) 0 qyO (qfR N) (lenv_ok (by kernel_rfl) ⟨qj0 N,trivial⟩) (rg0 (by kernel_rfl)) fun x=>by kernel_rfl
noncomputable def qrc:Code:=Tryz.f37.body.getD .skip
theorem qxF:FnF Tryz.prog 37 Tryz.f37 qrc:=⟨qi,by kernel_rfl,by kernel_rfl,by kernel_rfl⟩
def qdH:TH:={ live:=[(0,[1]),(1,[1,3]),(2,[1,3,10]),(3,[1,3]),(4,[1,3,4]),(5,[1,3,20]),(6,[2]),(7,[1,3,22]),(8,[1,3,5]),(9,[1,3,38]),(10,[2]),(11,[2])] }
def qhP (N:Nat):List Ent:=[qh0 N,qdh N]
theorem qgU (N:Nat):SmAll Tryz.prog (qhP N):=⟨qoh N,qgL N,trivial⟩
abbrev Z8:=qh
abbrev zK:=Unit⊕(Int×Bool)
def Q0 (f:Z8):zK→Ex×TSt
 | .inl y=>(.ret,⟨0,43,[],[(2,.bc false)],[],false,[]⟩)
 | .inr y=>(.exit 0,⟨0,43,[],[(1,.p 10 [] 0),(3,xi y.1),(10,xb y.2)],[(10,.cell false (.tv qt f))],false,[]⟩)
def qmp (N:Nat):List (Nat×LEnt):=[]
abbrev Q9:=Int
def qf9:SP:=⟨0,43,[],[(1,.k (.p 10 [] 0)),(3,.x (.i .i64))],[(10,.cell false (.x qt))],false,[]⟩
def qlY (f:Z8) (v:Q9):TSt:=fillS qf9 [dv qt f,dv (.i .i64) v]
def qan (N:Nat) (o_2:qh) (v:Q9):Tree (Q9⊕zK):=
 .cond (decide (v < (((qh.R o_2).length:Nat):Int))) (
 .bind (getI (qh.R o_2) v) fun e1=>
 .bind (qco N e1) fun r2=>
 .cond (!r2) (
 .ret (.inr (.inl ()))) <|
 .cond (decide (((0:Int)) < v)) (
 .chk (in64 (v - 1)) <|
 .bind (getI (qh.R o_2) (v - 1)) fun e3=>
 .bind (getI (qh.R o_2) v) fun e4=>
 .bind (Qc N (qf.ID e3) (qf.ID e4)) fun r5=>
 .cond (!r5) (
 .ret (.inr (.inl ()))) <|
 .chk (in64 (v + 1)) <|
 .ret (.inl (v + 1))) <|
 .chk (in64 (v + 1)) <|
 .ret (.inl (v + 1))) <|
 .ret (.inr (.inr ((v,decide (v < (((qh.R o_2).length:Nat):Int))))))
def qfU (N n:Nat) (f:Z8) (v:Q9):Option zK:=loopG (qan N f) some n v
theorem qlZ (N:Nat) (f:Z8) (n:Nat) (v:Q9) (y:zK) (h:qfU N n f v=some y):LG Tryz.prog qdH 37 (lookC qrc 2) (qlY f v) (Q0 f y):=
  loop_g qi (E:=qhP N) (L:=lenv (qmp N)) (st:=Q0 f) (g:=some) (R:=Q0 f) (qgU N) (lenv_ok (by kernel_rfl) trivial) (rg0 (by kernel_rfl)) (fun v=>by kernel_rfl) (good_self (st:=Q0 f) fun y=>by rcases y with _ | _<;>rfl) n v y h
def qde (N:Nat) (o_2:qh) (s3_2:Int):Option zK:=qfU N N o_2 s3_2
def qgh (N:Nat):LEnt:=smL qf9 [qt,(.i .i64)] zK (fun x=>qde N x.1 x.2.1) (csS cs1) fun x=>Q0 x.1
theorem qli (N:Nat):LsOK Tryz.prog qdH 37 (lookC qrc 2) (qgh N):=smL_ok fun x z h=>qlZ N x.1 N x.2.1 z h
def qo5 (z:Bool):TV×THp:=(xb z,[])
def qeg (N:Nat) (a0:qh):Tree (Bool):=
 .bind (qde N a0 0) fun z1=>
 .sum z1 (fun z2=>
 .ret false) fun z2=>
 .ret (decide ((((qh.R a0).length:Nat):Int)≤((10:Int))))
def qaX (N:Nat) (a0:qh):Option (Bool):=(qeg N a0).run some
def qoA (N:Nat):List (Nat×LEnt):=[(2,qgh N)]
def qdC (N:Nat):Ent:=smF ⟨37,[],[.x qt],[],[]⟩ [qt] (Bool) (fun x=>qaX N x.1) cs1 fun _=>qo5
theorem qhs (N:Nat):SmOK Tryz.prog (qdC N):=
  fn_ok (H:=qdH) (L:=lenv (qoA N)) (ts:=[qt]) (T:=fun x=>qeg N x.1) 0 qxF (qgU N) (lenv_ok (by kernel_rfl) ⟨qli N,trivial⟩) (rg0 (by kernel_rfl)) fun x=>by kernel_rfl
noncomputable def qro:Code:=Tryz.f98.body.getD .skip
theorem qxn:FnF Tryz.prog 98 Tryz.f98 qro:=⟨qi,by kernel_rfl,by kernel_rfl,by kernel_rfl⟩
def qdD:TH:={ live:=[(0,[0]),(1,[0,3]),(2,[0,3,9]),(3,[0,3]),(4,[0,3]),(5,[2])],vecs:=[7,16],esc:=true,mv:=[(4,[(3,100160,100070)])] }
def qhQ (N:Nat):List Ent:=[]
theorem qg4 (N:Nat):SmAll Tryz.prog (qhQ N):=trivial
abbrev qaj:=Unit
abbrev zJ:=List UInt8×Int×Bool
def QV (f:qaj) (y:zJ):Ex×TSt:=(.exit 0,⟨1,20,[],[(0,.tv (.i .u64) (y.2.1:Int)),(3,.v 100070 y.1.length),(9,xb y.2.2)],[(100070,.vec false 1 .bl (y.1:List UInt8))],false,[]⟩)
def qmk (N:Nat):List (Nat×LEnt):=[]
abbrev Q_:=List UInt8×Int
def qf_:SP:=⟨1,20,[],[(0,.x (.i .u64)),(3,.vs 100070)],[(100070,.vec false 1)],false,[]⟩
def qlo (f:qaj) (v:Q_):TSt:=fillS qf_ [dv .bl v.1,dv (.i .u64) v.2]
def qau (N:Nat) (v:Q_):Tree (Q_⊕zJ):=
 .cond (decide (((128:Int))≤v.2)) (
 .chk ((128:Int)≠0) <|
 .chk ((128:Int)≠0) <|
 let w1:Int:=IntKind.u8.wrap ((IntKind.u64.wrap (v.2.tdiv 128)).tmod 128)
 .chk (inB (uAdd .u8 w1 128)) <|
 .chk (v.1.length=v.1.length) <|
 .chk (avOK ((([UInt8.ofNat (uAdd .u8 w1 128).toNat]:List UInt8)).length) 1 (((([UInt8.ofNat (uAdd .u8 w1 128).toNat]:List UInt8))++v.1).length) 1) <|
 .ret (.inl ((([UInt8.ofNat (uAdd .u8 w1 128).toNat]:List UInt8))++v.1,IntKind.u64.wrap (v.2.tdiv 128)))) <|
 .ret (.inr (v.1,v.2,decide (((128:Int))≤v.2)))
def qf6 (N n:Nat) (f:qaj) (v:Q_):Option zJ:=loopG (qau N) some n v
theorem ql8 (N:Nat) (f:qaj) (n:Nat) (v:Q_) (y:zJ) (h:qf6 N n f v=some y):LG Tryz.prog qdD 98 (lookC qro 2) (qlo f v) (QV f y):=
  loop_g qi (E:=qhQ N) (L:=lenv (qmk N)) (st:=QV f) (g:=some) (R:=QV f) (qg4 N) (lenv_ok (by kernel_rfl) trivial) (rg0 (by kernel_rfl)) (fun v=>by kernel_rfl) (good_self (st:=QV f) fun y=>by rfl) n v y h
def Qj (N:Nat) (o_2:List UInt8) (s0_2:Int):Option zJ:=qf6 N N () (o_2,s0_2)
def qgo (N:Nat):LEnt:=smL qf_ [.bl,(.i .u64)] zJ (fun x=>Qj N x.1 x.2.1) cs1 fun x=>QV ()
theorem qkA (N:Nat):LsOK Tryz.prog qdD 98 (lookC qro 2) (qgo N):=smL_ok fun x z h=>ql8 N () N (x.1,x.2.1) z h
def qot (z:List UInt8):TV×THp:=(.v 100070 z.length,[(100070,.vec false 1 .bl z)])
def qd8 (N:Nat) (a0:Int):Tree (List UInt8):=
 .chk ((128:Int)≠0) <|
 .chk (inB (IntKind.u8.wrap (a0.tmod 128))) <|
 .bind (chkLs [(([UInt8.ofNat (IntKind.u8.wrap (a0.tmod 128)).toNat]:List UInt8).length,1)] (Qj N [UInt8.ofNat (IntKind.u8.wrap (a0.tmod 128)).toNat] a0)) fun z1=>
 .ret z1.1
def qD (N:Nat) (a0:Int):Option (List UInt8):=(qd8 N a0).run some
def qoz (N:Nat):List (Nat×LEnt):=[(2,qgo N)]
def Z4 (N:Nat):Ent:=smF ⟨98,[],[.x (.i .u64)],[],[]⟩ [(.i .u64)] (List UInt8) (fun x=>qD N x.1) cs1 fun _=>qot
theorem qbh (N:Nat):SmOK Tryz.prog (Z4 N):=
  fn_ok (H:=qdD) (L:=lenv (qoz N)) (ts:=[(.i .u64)]) (T:=fun x=>qd8 N x.1) 0 qxn (qg4 N) (lenv_ok (by kernel_rfl) ⟨qkA N,trivial⟩) (rg0 (by kernel_rfl)) fun x=>by kernel_rfl
noncomputable def qx8:Code:=Tryz.f99.body.getD .skip
theorem qtX:FnF Tryz.prog 99 Tryz.f99 qx8:=⟨qi,by kernel_rfl,by kernel_rfl,by kernel_rfl⟩
def qpr:TH:={ live:=[(0,[1]),(1,[1,4]),(2,[1,8]),(3,[2,3]),(4,[2,3])],fresh:=[16] }
def qpi (N:Nat):List Ent:=[zN,Z4 N]
theorem qnc (N:Nat):SmAll Tryz.prog (qpi N):=⟨Qh,qbh N,trivial⟩
def qoO (z:List UInt8×Bool):TV×THp:=(.tup [.tv .bl (z.1:List UInt8),xb z.2],[])
def qdW (N:Nat) (a0:qc):Tree (List UInt8×Bool):=
 .bind (q9 a0) fun r1=>
 .cond (!r1) (
 .ret ([],false)) <|
 .chk (in64 (((8:Int)) * (qc.N a0))) <|
 .chk (in64 ((((8:Int)) * (qc.N a0)) + (qc.Rep a0))) <|
 let w2:Int:=IntKind.u64.wrap ((((8:Int)) * (qc.N a0)) + (qc.Rep a0))
 .bind (qD N w2) fun r3=>
 .chk (r3.length=r3.length) <|
 .ret (r3,true)
def qa1 (N:Nat) (a0:qc):Option (List UInt8×Bool):=(qdW N a0).run some
def qpL (N:Nat):List (Nat×LEnt):=[]
def qia (N:Nat):Ent:=smF ⟨99,[],[.x qo],[],[]⟩ [qo] (List UInt8×Bool) (fun x=>qa1 N x.1) cs1 fun _=>qoO
theorem qn6 (N:Nat):SmOK Tryz.prog (qia N):=
  fn_ok (H:=qpr) (L:=lenv (qpL N)) (ts:=[qo]) (T:=fun x=>qdW N x.1) 0 qtX (qnc N) (lenv_ok (by kernel_rfl) trivial) (rg0 (by kernel_rfl)) fun x=>by kernel_rfl
def qmR:TH:={ live:=[(0,[1]),(1,[1,4]),(2,[1,8]),(3,[2,3]),(4,[2,3])],fresh:=[16],esc:=true }
def qmv (N:Nat):List Ent:=[zN,Z4 N]
theorem qkt (N:Nat):SmAll Tryz.prog (qmv N):=⟨Qh,qbh N,trivial⟩
def qna:Unit⊕List UInt8→TV×THp
 | .inl z=>(.tup [.nils,.bc false],[])
 | .inr z=>(.tup [.v 100070 z.length,.bc true],[(100070,.vec false 1 .bl z)])
def qcs (N:Nat) (a0:qc):Tree (Unit⊕List UInt8):=
 .bind (q9 a0) fun r1=>
 .cond (!r1) (
 .ret (.inl ())) <|
 .chk (in64 (((8:Int)) * (qc.N a0))) <|
 .chk (in64 ((((8:Int)) * (qc.N a0)) + (qc.Rep a0))) <|
 let w2:Int:=IntKind.u64.wrap ((((8:Int)) * (qc.N a0)) + (qc.Rep a0))
 .bind (qD N w2) fun r3=>
 .ret (.inr r3)
def Z2 (N:Nat) (a0:qc):Option (Unit⊕List UInt8):=(qcs N a0).run some
def qmN (N:Nat):List (Nat×LEnt):=[]
def qgW (N:Nat):Ent:=smF ⟨99,[],[.x qo],[],[]⟩ [qo] (Unit⊕List UInt8) (fun x=>Z2 N x.1) (csS cs1) fun _=>qna
theorem qlN (N:Nat):SmOK Tryz.prog (qgW N):=
  fn_ok (H:=qmR) (L:=lenv (qmN N)) (ts:=[qo]) (T:=fun x=>qcs N x.1) 0 qtX (qkt N) (lenv_ok (by kernel_rfl) trivial) (rg0 (by kernel_rfl)) fun x=>by kernel_rfl
noncomputable def qwh:Code:=Tryz.f119.body.getD .skip
theorem qwy:FnF Tryz.prog 119 Tryz.f119 qwh:=⟨qi,by kernel_rfl,by kernel_rfl,by kernel_rfl⟩
def qoc:TH:={ live:=[(0,[0]),(1,[2])],fresh:=[6] }
def qnV (N:Nat):List Ent:=[Z4 N]
theorem ql7 (N:Nat):SmAll Tryz.prog (qnV N):=⟨qbh N,trivial⟩
def qnQ (z:List UInt8):TV×THp:=(.tv .bl z,[])
def qdi (N:Nat) (a0:List UInt8):Tree (List UInt8):=
 let w1:Int:=IntKind.u64.wrap ((a0.length:Nat):Int)
 .bind (qD N w1) fun r2=>
 .chk (avOK r2.length r2.length ((r2++a0).length) 1) <|
 .chk ((r2++a0).length=(r2++a0).length) <|
 .ret (r2++a0)
def qaD (N:Nat) (a0:List UInt8):Option (List UInt8):=(qdi N a0).run some
def qn8 (N:Nat):List (Nat×LEnt):=[]
def qhm (N:Nat):Ent:=smF ⟨119,[],[.x .s],[],[]⟩ [.s] (List UInt8) (fun x=>qaD N x.1) cs1 fun _=>qnQ
theorem qmC (N:Nat):SmOK Tryz.prog (qhm N):=
  fn_ok (H:=qoc) (L:=lenv (qn8 N)) (ts:=[.s]) (T:=fun x=>qdi N x.1) 0 qwy (ql7 N) (lenv_ok (by kernel_rfl) trivial) (rg0 (by kernel_rfl)) fun x=>by kernel_rfl
noncomputable def qwQ:Code:=Tryz.f100.body.getD .skip
theorem qwX:FnF Tryz.prog 100 Tryz.f100 qwQ:=⟨qi,by kernel_rfl,by kernel_rfl,by kernel_rfl⟩
def qpw:TH:={ live:=[(0,[1]),(1,[1,4]),(2,[1,10]),(3,[2,3]),(4,[1,5]),(5,[2,3])],fresh:=[14],nil:=[(4,[⟨.sl 5,55,.bl⟩])] }
def qou (N:Nat):List Ent:=[qdJ,qgW N,qhm N]
theorem qmY (N:Nat):SmAll Tryz.prog (qou N):=⟨qhw,qlN N,qmC N,trivial⟩
def qpk (z:List UInt8×Bool):TV×THp:=(.tup [.tv .bl (z.1:List UInt8),xb z.2],[])
def qdR (N:Nat) (a0:qr):Tree (List UInt8×Bool):=
 .bind (qaW a0) fun r1=>
 .cond (!r1) (
 .ret ([],false)) <|
 .bind (Z2 N (qr.S a0)) fun r2=>
 .sum r2 (fun r3=>
 .bind (qaD N (qr.V a0)) fun r4=>
 .chk (avOK ((([]:List UInt8)).length) 0 (((([]:List UInt8))++r4).length) 1) <|
 .chk (((([]:List UInt8))++r4).length=((([]:List UInt8))++r4).length) <|
 .ret ((([]:List UInt8))++r4,true)) fun r3=>
 .bind (qaD N (qr.V a0)) fun r4=>
 .chk (avOK r3.length r3.length ((r3++r4).length) 1) <|
 .chk ((r3++r4).length=(r3++r4).length) <|
 .ret (r3++r4,true)
def qa9 (N:Nat) (a0:qr):Option (List UInt8×Bool):=(qdR N a0).run some
def qoJ (N:Nat):List (Nat×LEnt):=[]
def qic (N:Nat):Ent:=smF ⟨100,[],[.x q8],[],[]⟩ [q8] (List UInt8×Bool) (fun x=>qa9 N x.1) cs1 fun _=>qpk
theorem qnM (N:Nat):SmOK Tryz.prog (qic N):=
  fn_ok (H:=qpw) (L:=lenv (qoJ N)) (ts:=[q8]) (T:=fun x=>qdR N x.1) 0 qwX (qmY N) (lenv_ok (by kernel_rfl) trivial) (rg0 (by kernel_rfl)) fun x=>by kernel_rfl
noncomputable def qfG:Code:=Tryz.f74.body.getD .skip
theorem qys:FnF Tryz.prog 74 Tryz.f74 qfG:=⟨qi,by kernel_rfl,by kernel_rfl,by kernel_rfl⟩
def zO:TH:={ live:=[(0,[1]),(1,[1,4]),(2,[1,17]),(3,[2,3]),(4,[1,5]),(5,[1,5,6]),(6,[1,5,6,27]),(7,[1,5,6]),(8,[1,5,6,7]),(9,[1,5,6,7,8]),(10,[1,5,6,7,8,36]),(11,[1,5,6,7,8]),(12,[1,5,6,7,8]),(13,[1,5,6,7,9]),(14,[1,5,6,7]),(15,[1,5,6,7]),(16,[1,5,6,7,11]),(17,[1,5,6,7,11,66]),(18,[1,5,6,7,11]),(19,[1,5,6,7,11,12]),(20,[1,5,6,7,11,12]),(21,[1,5,6,7,11]),(22,[2,3])],fresh:=[22] }
def qbB (N:Nat):List Ent:=[qdC N,Z4 N,qia N,qic N]
theorem qaL (N:Nat):SmAll Tryz.prog (qbB N):=⟨qhs N,qbh N,qn6 N,qnM N,trivial⟩
abbrev ZP:=qh×qf×Int
abbrev zj:=List UInt8×Int×Bool
def Qx (f:ZP) (y:zj):Ex×TSt:=(.exit 2,⟨0,93,[],[(1,.p 10 [] 0),(5,.v 100070 y.1.length),(6,xi f.2.2),(7,.p 70 [] 0),(8,xi y.2.1),(36,xb y.2.2)],[(10,.cell false (.tv qt f.1)),(70,.cell false (.tv qv f.2.1)),(100070,.vec false 1 .bl (y.1:List UInt8))],false,[]⟩)
def qk8 (N:Nat):List (Nat×LEnt):=[]
abbrev Qm:=List UInt8×Int
def qe6:SP:=⟨0,93,[],[(1,.k (.p 10 [] 0)),(5,.vs 100070),(6,.x (.i .i64)),(7,.k (.p 70 [] 0)),(8,.x (.i .i64))],[(10,.cell false (.x qt)),(70,.cell false (.x qv)),(100070,.vec false 1)],false,[]⟩
def qkP (f:ZP) (v:Qm):TSt:=fillS qe6 [dv .bl v.1,dv qt f.1,dv qv f.2.1,dv (.i .i64) f.2.2,dv (.i .i64) v.2]
def QC (N:Nat) (o_10_2:qh) (o_10_3:qf) (s6_10:Int) (v:Qm):Tree (Qm⊕zj):=
 .cond (decide (v.2 < ((16:Int)))) (
 .chk (0≤v.2∧v.2 < ((16:Nat):Int)) <|
 .chk (v.2.toNat < 16) <|
 .chk (inB ((((qf.ID o_10_3).toList.getD v.2.toNat 0).toNat:Nat):Int)) <|
 .chk (avOK v.1.length v.1.length ((v.1++[UInt8.ofNat ((((qf.ID o_10_3).toList.getD v.2.toNat 0).toNat:Nat):Int).toNat]).length) 1) <|
 .chk (in64 (v.2 + 1)) <|
 .ret (.inl (v.1++[UInt8.ofNat ((((qf.ID o_10_3).toList.getD v.2.toNat 0).toNat:Nat):Int).toNat],v.2 + 1))) <|
 .ret (.inr (v.1,v.2,decide (v.2 < ((16:Int)))))
def qfa (N n:Nat) (f:ZP) (v:Qm):Option zj:=loopG (QC N f.1 f.2.1 f.2.2) some n v
theorem qlb (N:Nat) (f:ZP) (n:Nat) (v:Qm) (y:zj) (h:qfa N n f v=some y):LG Tryz.prog zO 74 (lookC (lookC qfG 6) 10) (qkP f v) (Qx f y):=
  loop_g qi (E:=qbB N) (L:=lenv (qk8 N)) (st:=Qx f) (g:=some) (R:=Qx f) (qaL N) (lenv_ok (by kernel_rfl) trivial) (rg0 (by kernel_rfl)) (fun v=>by kernel_rfl) (good_self (st:=Qx f) fun y=>by rfl) n v y h
def qaQ (N:Nat) (o_10_2:qh) (o_10_3:qf) (s6_10:Int) (o_10:List UInt8) (s8_10:Int):Option zj:=qfa N N (o_10_2,o_10_3,s6_10) (o_10,s8_10)
def qeR (N:Nat):LEnt:=smL qe6 [.bl,qt,qv,(.i .i64),(.i .i64)] zj (fun x=>qaQ N x.2.1 x.2.2.1 x.2.2.2.1 x.1 x.2.2.2.2.1) cs1 fun x=>Qx (x.2.1,x.2.2.1,x.2.2.2.1)
theorem qj5 (N:Nat):LsOK Tryz.prog zO 74 (lookC (lookC qfG 6) 10) (qeR N):=smL_ok fun x z h=>qlb N (x.2.1,x.2.2.1,x.2.2.2.1) N (x.1,x.2.2.2.2.1) z h
abbrev ZX:=qh×qf×Int
abbrev zh:=List UInt8×Int×Bool
def Qz (f:ZX) (y:zh):Ex×TSt:=(.exit 4,⟨0,93,[],[(1,.p 10 [] 0),(5,.v 100070 y.1.length),(6,xi f.2.2),(7,.p 70 [] 0),(11,xi y.2.1),(66,xb y.2.2)],[(10,.cell false (.tv qt f.1)),(70,.cell false (.tv qv f.2.1)),(100070,.vec false 1 .bl (y.1:List UInt8))],false,[]⟩)
def qkw (N:Nat):List (Nat×LEnt):=[]
abbrev QE:=List UInt8×Int
def qfj:SP:=⟨0,93,[],[(1,.k (.p 10 [] 0)),(5,.vs 100070),(6,.x (.i .i64)),(7,.k (.p 70 [] 0)),(11,.x (.i .i64))],[(10,.cell false (.x qt)),(70,.cell false (.x qv)),(100070,.vec false 1)],false,[]⟩
def qkU (f:ZX) (v:QE):TSt:=fillS qfj [dv .bl v.1,dv qt f.1,dv qv f.2.1,dv (.i .i64) f.2.2,dv (.i .i64) v.2]
def ZL (N:Nat) (o_17_2:qh) (o_17_3:qf) (s6_17:Int) (v:QE):Tree (QE⊕zh):=
 .cond (decide (v.2 < (((qf.F o_17_3).length:Nat):Int))) (
 .bind (getI (qf.F o_17_3) v.2) fun e1=>
 .bind (qa9 N (qk.C e1)) fun r2=>
 .bind (getI (qf.F o_17_3) v.2) fun e3=>
 .chk (inB (IntKind.u8.wrap (qk.No e3))) <|
 .chk (avOK v.1.length v.1.length ((v.1++[UInt8.ofNat (IntKind.u8.wrap (qk.No e3)).toNat]).length) 1) <|
 .chk (avOK ((v.1++[UInt8.ofNat (IntKind.u8.wrap (qk.No e3)).toNat]).length) ((v.1++[UInt8.ofNat (IntKind.u8.wrap (qk.No e3)).toNat]).length) (((v.1++[UInt8.ofNat (IntKind.u8.wrap (qk.No e3)).toNat])++r2.1).length) 1) <|
 .chk (in64 (v.2 + 1)) <|
 .ret (.inl ((v.1++[UInt8.ofNat (IntKind.u8.wrap (qk.No e3)).toNat])++r2.1,v.2 + 1))) <|
 .ret (.inr (v.1,v.2,decide (v.2 < (((qf.F o_17_3).length:Nat):Int))))
def qfk (N n:Nat) (f:ZX) (v:QE):Option zh:=loopG (ZL N f.1 f.2.1 f.2.2) some n v
theorem qlf (N:Nat) (f:ZX) (n:Nat) (v:QE) (y:zh) (h:qfk N n f v=some y):LG Tryz.prog zO 74 (lookC (lookC qfG 6) 17) (qkU f v) (Qz f y):=
  loop_g qi (E:=qbB N) (L:=lenv (qkw N)) (st:=Qz f) (g:=some) (R:=Qz f) (qaL N) (lenv_ok (by kernel_rfl) trivial) (rg0 (by kernel_rfl)) (fun v=>by kernel_rfl) (good_self (st:=Qz f) fun y=>by rfl) n v y h
def qcA (N:Nat) (o_17_2:qh) (o_17_3:qf) (s6_17:Int) (o_17:List UInt8) (s11_17:Int):Option zh:=qfk N N (o_17_2,o_17_3,s6_17) (o_17,s11_17)
def qeX (N:Nat):LEnt:=smL qfj [.bl,qt,qv,(.i .i64),(.i .i64)] zh (fun x=>qcA N x.2.1 x.2.2.1 x.2.2.2.1 x.1 x.2.2.2.2.1) cs1 fun x=>Qz (x.2.1,x.2.2.1,x.2.2.2.1)
theorem qj2 (N:Nat):LsOK Tryz.prog zO 74 (lookC (lookC qfG 6) 17) (qeX N):=smL_ok fun x z h=>qlf N (x.2.1,x.2.2.1,x.2.2.2.1) N (x.1,x.2.2.2.2.1) z h
abbrev qag:=qh
abbrev zH:=List UInt8×Int×Bool
def QN (f:qag) (y:zH):Ex×TSt:=(.exit 0,⟨0,93,[],[(1,.p 10 [] 0),(5,.v 100070 y.1.length),(6,xi y.2.1),(27,xb y.2.2)],[(10,.cell false (.tv qt f)),(100070,.vec false 1 .bl (y.1:List UInt8))],false,[]⟩)
def qmq (N:Nat):List (Nat×LEnt):=[(10,qeR N),(17,qeX N)]
abbrev QX:=List UInt8×Int
def qga:SP:=⟨0,93,[],[(1,.k (.p 10 [] 0)),(5,.vs 100070),(6,.x (.i .i64))],[(10,.cell false (.x qt)),(100070,.vec false 1)],false,[]⟩
def qmj (f:qag) (v:QX):TSt:=fillS qga [dv .bl v.1,dv qt f,dv (.i .i64) v.2]
def Z_ (N:Nat) (o_6_2:qh) (v:QX):Tree (QX⊕zH):=
 .cond (decide (v.2 < (((qh.R o_6_2).length:Nat):Int))) (
 .bind (getI (qh.R o_6_2) v.2) fun e1=>
 .bind (chkLs [(v.1.length,v.1.length)] (qaQ N o_6_2 e1 v.2 v.1 0)) fun z2=>
 .bind (qa1 N (qf.Dead e1)) fun r3=>
 .chk (avOK z2.1.length z2.1.length ((z2.1++r3.1).length) 1) <|
 let w4:Int:=IntKind.u64.wrap (((qf.F e1).length:Nat):Int)
 .bind (qD N w4) fun r5=>
 .chk (r5.length=r5.length) <|
 .chk (avOK ((z2.1++r3.1).length) ((z2.1++r3.1).length) (((z2.1++r3.1)++r5).length) 1) <|
 .bind (chkLs [(((z2.1++r3.1)++r5).length,((z2.1++r3.1)++r5).length)] (qcA N o_6_2 e1 v.2 ((z2.1++r3.1)++r5) 0)) fun z6=>
 .chk (in64 (v.2 + 1)) <|
 .ret (.inl (z6.1,v.2 + 1))) <|
 .ret (.inr (v.1,v.2,decide (v.2 < (((qh.R o_6_2).length:Nat):Int))))
def qgu (N n:Nat) (f:qag) (v:QX):Option zH:=loopG (Z_ N f) some n v
theorem qmf (N:Nat) (f:qag) (n:Nat) (v:QX) (y:zH) (h:qgu N n f v=some y):LG Tryz.prog zO 74 (lookC qfG 6) (qmj f v) (QN f y):=
  loop_g qi (E:=qbB N) (L:=lenv (qmq N)) (st:=QN f) (g:=some) (R:=QN f) (qaL N) (lenv_ok (by kernel_rfl) ⟨qj5 N,qj2 N,trivial⟩) (rg0 (by kernel_rfl)) (fun v=>by kernel_rfl) (good_self (st:=QN f) fun y=>by rfl) n v y h
def qc5 (N:Nat) (o_6_2:qh) (o_6:List UInt8) (s6_6:Int):Option zH:=qgu N N o_6_2 (o_6,s6_6)
def qfW (N:Nat):LEnt:=smL qga [.bl,qt,(.i .i64)] zH (fun x=>qc5 N x.2.1 x.1 x.2.2.1) cs1 fun x=>QN x.2.1
theorem qlk (N:Nat):LsOK Tryz.prog zO 74 (lookC qfG 6) (qfW N):=smL_ok fun x z h=>qmf N x.2.1 N (x.1,x.2.2.1) z h
def qow (z:List UInt8×Bool):TV×THp:=(.tup [.tv .bl (z.1:List UInt8),xb z.2],[])
def qdN (N:Nat) (a0:qh):Tree (List UInt8×Bool):=
 .bind (qaX N a0) fun r1=>
 .cond (!r1) (
 .ret ([],false)) <|
 let w2:Int:=IntKind.u64.wrap (((qh.R a0).length:Nat):Int)
 .bind (qD N w2) fun r3=>
 .bind (chkLs [(r3.length,r3.length)] (qc5 N a0 r3 0)) fun z4=>
 .chk (z4.1.length=z4.1.length) <|
 .ret (z4.1,true)
def qch (N:Nat) (a0:qh):Option (List UInt8×Bool):=(qdN N a0).run some
def qpv (N:Nat):List (Nat×LEnt):=[(6,qfW N)]
def qid (N:Nat):Ent:=smF ⟨74,[],[.x qt],[],[]⟩ [qt] (List UInt8×Bool) (fun x=>qch N x.1) cs1 fun _=>qow
theorem qn0 (N:Nat):SmOK Tryz.prog (qid N):=
  fn_ok (H:=zO) (L:=lenv (qpv N)) (ts:=[qt]) (T:=fun x=>qdN N x.1) 0 qys (qaL N) (lenv_ok (by kernel_rfl) ⟨qlk N,trivial⟩) (rg0 (by kernel_rfl)) fun x=>by kernel_rfl
noncomputable def qie:Code:=Tryz.f101.body.getD .skip
theorem qwE:FnF Tryz.prog 101 Tryz.f101 qie:=⟨qi,by kernel_rfl,by kernel_rfl,by kernel_rfl⟩
def Qk:TH:={ live:=[(0,[0]),(1,[0,3]),(2,[0,3]),(3,[0,3,15]),(4,[0,3]),(5,[3,4]),(6,[3,4,5]),(7,[3,4,5,6]),(8,[3,4,5,6,24]),(9,[3,4,5,6]),(10,[3,4,5,6]),(11,[3,4,5,6]),(12,[2])] }
def qbM (N:Nat):List Ent:=[]
theorem qbd (N:Nat):SmAll Tryz.prog (qbM N):=trivial
abbrev Ze:=List UInt8
abbrev qQ:=List UInt8×Bool
def zt (f:Ze) (y:qQ):Ex×TSt:=(.exit 0,⟨0,38,[],[(0,.tv .bl f),(3,.v 80 y.1.length),(15,xb y.2)],[(80,.vec false 1 .bl (y.1:List UInt8))],false,[]⟩)
def qiT (N:Nat):List (Nat×LEnt):=[]
abbrev zp:=List UInt8
def qds:SP:=⟨0,38,[],[(0,.x .bl),(3,.vs 80)],[(80,.vec false 1)],false,[]⟩
def qiQ (f:Ze) (v:zp):TSt:=fillS qds [dv .bl v,dv .bl f]
def zn (N:Nat) (s0_3:List UInt8) (v:zp):Tree (zp⊕qQ):=
 .chk ((64:Int)≠0) <|
 .cond (!decide ((((v.length:Nat):Int).tmod 64)=56)) (
 .chk (avOK v.length v.length ((v++[(UInt8.ofNat 0)]).length) 1) <|
 .ret (.inl (v++[(UInt8.ofNat 0)]))) <|
 .ret (.inr (v,!decide ((((v.length:Nat):Int).tmod 64)=56)))
def qdj (N n:Nat) (f:Ze) (v:zp):Option qQ:=loopG (zn N f) some n v
theorem qi1 (N:Nat) (f:Ze) (n:Nat) (v:zp) (y:qQ) (h:qdj N n f v=some y):LG Tryz.prog Qk 101 (lookC qie 3) (qiQ f v) (zt f y):=
  loop_g qi (E:=qbM N) (L:=lenv (qiT N)) (st:=zt f) (g:=some) (R:=zt f) (qbd N) (lenv_ok (by kernel_rfl) trivial) (rg0 (by kernel_rfl)) (fun v=>by kernel_rfl) (good_self (st:=zt f) fun y=>by rfl) n v y h
def Zu (N:Nat) (s0_3:List UInt8) (o_3:List UInt8):Option qQ:=qdj N N s0_3 o_3
def qdq (N:Nat):LEnt:=smL qds [.bl,.bl] qQ (fun x=>Zu N x.2.1 x.1) cs1 fun x=>zt x.2.1
theorem qil (N:Nat):LsOK Tryz.prog Qk 101 (lookC qie 3) (qdq N):=smL_ok fun x z h=>qi1 N x.2.1 N x.1 z h
abbrev Zg:=Int
abbrev qP:=List UInt8×Int×Int×Bool
def zq (f:Zg) (y:qP):Ex×TSt:=(.exit 2,⟨0,38,[],[(3,.v 80 y.1.length),(4,.tv (.i .u64) f),(5,.tv (.i .u64) (y.2.1:Int)),(6,xi y.2.2.1),(24,xb y.2.2.2)],[(80,.vec false 1 .bl (y.1:List UInt8))],false,[]⟩)
def qiR (N:Nat):List (Nat×LEnt):=[]
abbrev zo:=List UInt8×Int×Int
def qdt:SP:=⟨0,38,[],[(3,.vs 80),(4,.x (.i .u64)),(5,.x (.i .u64)),(6,.x (.i .i64))],[(80,.vec false 1)],false,[]⟩
def qiS (f:Zg) (v:zo):TSt:=fillS qdt [dv .bl v.1,dv (.i .u64) f,dv (.i .u64) v.2.1,dv (.i .i64) v.2.2]
def Zf (N:Nat) (s4_8:Int) (v:zo):Tree (zo⊕qP):=
 .cond (decide (v.2.2 < ((8:Int)))) (
 .chk (v.2.1≠0) <|
 .chk ((256:Int)≠0) <|
 let w1:Int:=IntKind.u8.wrap ((IntKind.u64.wrap (s4_8.tdiv v.2.1)).tmod 256)
 .chk (inB w1) <|
 .chk (avOK v.1.length v.1.length ((v.1++[UInt8.ofNat w1.toNat]).length) 1) <|
 .chk ((256:Int)≠0) <|
 .chk (in64 (v.2.2 + 1)) <|
 .ret (.inl (v.1++[UInt8.ofNat w1.toNat],IntKind.u64.wrap (v.2.1.tdiv 256),v.2.2 + 1))) <|
 .ret (.inr (v.1,v.2.1,v.2.2,decide (v.2.2 < ((8:Int)))))
def qdp (N n:Nat) (f:Zg) (v:zo):Option qP:=loopG (Zf N f) some n v
theorem qiP (N:Nat) (f:Zg) (n:Nat) (v:zo) (y:qP) (h:qdp N n f v=some y):LG Tryz.prog Qk 101 (lookC qie 8) (qiS f v) (zq f y):=
  loop_g qi (E:=qbM N) (L:=lenv (qiR N)) (st:=zq f) (g:=some) (R:=zq f) (qbd N) (lenv_ok (by kernel_rfl) trivial) (rg0 (by kernel_rfl)) (fun v=>by kernel_rfl) (good_self (st:=zq f) fun y=>by rfl) n v y h
def qbl (N:Nat) (s4_8:Int) (o_8:List UInt8) (s5_8:Int) (s6_8:Int):Option qP:=qdp N N s4_8 (o_8,s5_8,s6_8)
def qdr (N:Nat):LEnt:=smL qdt [.bl,(.i .u64),(.i .u64),(.i .i64)] qP (fun x=>qbl N x.2.1 x.1 x.2.2.1 x.2.2.2.1) cs1 fun x=>zq x.2.1
theorem qiq (N:Nat):LsOK Tryz.prog Qk 101 (lookC qie 8) (qdr N):=smL_ok fun x z h=>qiP N x.2.1 N (x.1,x.2.2.1,x.2.2.2.1) z h
def qkM (z:List UInt8):TV×THp:=(.tv .bl z,[])
def qbJ (N:Nat) (a0:List UInt8):Tree (List UInt8):=
 .chk (apOK a0.length 1) <|
 .chk (avOK a0.length a0.length ((a0++[(UInt8.ofNat 128)]).length) 1) <|
 .bind (chkLs [((a0++[(UInt8.ofNat 128)]).length,(a0++[(UInt8.ofNat 128)]).length)] (Zu N a0 (a0++[(UInt8.ofNat 128)]))) fun z1=>
 .chk (in64 (((8:Int)) * ((a0.length:Nat):Int))) <|
 let w2:Int:=IntKind.u64.wrap (((8:Int)) * ((a0.length:Nat):Int))
 .bind (chkLs [(z1.1.length,z1.1.length)] (qbl N w2 z1.1 72057594037927936 0)) fun z3=>
 .chk (z3.1.length=z3.1.length) <|
 .ret z3.1
def qaK (N:Nat) (a0:List UInt8):Option (List UInt8):=(qbJ N a0).run some
def qkr (N:Nat):List (Nat×LEnt):=[(3,qdq N),(8,qdr N)]
def qfi (N:Nat):Ent:=smF ⟨101,[],[.x .bl],[],[]⟩ [.bl] (List UInt8) (fun x=>qaK N x.1) cs1 fun _=>qkM
theorem qj3 (N:Nat):SmOK Tryz.prog (qfi N):=
  fn_ok (H:=Qk) (L:=lenv (qkr N)) (ts:=[.bl]) (T:=fun x=>qbJ N x.1) 0 qwE (qbd N) (lenv_ok (by kernel_rfl) ⟨qil N,qiq N,trivial⟩) (rg0 (by kernel_rfl)) fun x=>by kernel_rfl
noncomputable def qwP:Code:=Tryz.f103.body.getD .skip
theorem qwv:FnF Tryz.prog 103 Tryz.f103 qwP:=⟨qi,by kernel_rfl,by kernel_rfl,by kernel_rfl⟩
def qlq:TH:={ live:=[(0,[0,1]),(1,[4])] }
def qlH (N:Nat):List Ent:=[]
theorem qjI (N:Nat):SmAll Tryz.prog (qlH N):=trivial
def qmh (z:Int):TV×THp:=(.tv (.i .u32) z,[])
def qb4 (a0:Int) (a1:Int):Tree (Int):=
 .chk (0≤a1) <|
 .chk (0≤(uSub .u32 ((32:Int)) a1)) <|
 let w1:Int:=uShl .u32 a0 (min (uSub .u32 ((32:Int)) a1).toNat 32)
 .ret (uOr .u32 (uShr a0 (min a1.toNat 32)) w1)
def qw (a0:Int) (a1:Int):Option (Int):=(qb4 a0 a1).run some
def qlG:List (Nat×LEnt):=[]
def qb9:Ent:=smF ⟨103,[],[.x (.i .u32),.x (.i .u32)],[],[]⟩ [(.i .u32),(.i .u32)] (Int) (fun x=>qw x.1 x.2.1) cs1 fun _=>qmh
theorem qe_:SmOK Tryz.prog (qb9):=
  fn_ok (H:=qlq) (L:=lenv (qlG)) (ts:=[(.i .u32),(.i .u32)]) (T:=fun x=>qb4 x.1 x.2.1) 0 qwv (qjI 0) (lenv_ok (by kernel_rfl) trivial) (rg0 (by kernel_rfl)) fun x=>by kernel_rfl
noncomputable def qii:Code:=Tryz.f102.body.getD .skip
theorem qwb:FnF Tryz.prog 102 Tryz.f102 qii:=⟨qi,by kernel_rfl,by kernel_rfl,by kernel_rfl⟩
def Zm:TH:={ live:=[(0,[0]),(1,[0,3]),(2,[0,3,4]),(3,[0,3,4,11]),(4,[0,3,4]),(5,[0,3,4]),(6,[3,5]),(7,[3,5,51]),(8,[3,5]),(9,[3,5,6]),(10,[3,5,6,7]),(11,[3,5,7,8]),(12,[3,5,8,9]),(13,[3,5]),(14,[2])],nil:=[(1,[⟨.sl 3,35,(.sl 1 (.i .u32))⟩])] }
def qcE (N:Nat):List Ent:=[qb9]
theorem qbN (N:Nat):SmAll Tryz.prog (qcE N):=⟨qe_,trivial⟩
abbrev Zv:=List UInt8
abbrev qY:=List Int×Int×Bool
def z_ (f:Zv) (y:qY):Ex×TSt:=(.exit 0,⟨0,99,[],[(0,.tv .bl f),(3,.v 35 y.1.length),(4,xi y.2.1),(11,xb y.2.2)],[(35,.vec false 1 (.sl 1 (.i .u32)) (y.1:List Int))],false,[]⟩)
def qjM (N:Nat):List (Nat×LEnt):=[]
abbrev zW:=List Int×Int
def qew:SP:=⟨0,99,[],[(0,.x .bl),(3,.vs 35),(4,.x (.i .i64))],[(35,.vec false 1)],false,[]⟩
def qj1 (f:Zv) (v:zW):TSt:=fillS qew [dv (.sl 1 (.i .u32)) v.1,dv .bl f,dv (.i .i64) v.2]
def zZ (N:Nat) (s0_3:List UInt8) (v:zW):Tree (zW⊕qY):=
 .cond (decide (v.2 < ((16:Int)))) (
 .chk (in64 (((4:Int)) * v.2)) <|
 .bind (getI s0_3 (((4:Int)) * v.2)) fun e1=>
 let w2:Int:=IntKind.u32.wrap ((e1.toNat:Nat):Int)
 .chk (in64 (((4:Int)) * v.2)) <|
 .chk (in64 ((((4:Int)) * v.2) + 1)) <|
 .bind (getI s0_3 ((((4:Int)) * v.2) + 1)) fun e3=>
 let w4:Int:=IntKind.u32.wrap ((e3.toNat:Nat):Int)
 let w5:Int:=uAdd .u32 (uMul .u32 ((16777216:Int)) w2) (uMul .u32 ((65536:Int)) w4)
 .chk (in64 (((4:Int)) * v.2)) <|
 .chk (in64 ((((4:Int)) * v.2) + 2)) <|
 .bind (getI s0_3 ((((4:Int)) * v.2) + 2)) fun e6=>
 let w7:Int:=IntKind.u32.wrap ((e6.toNat:Nat):Int)
 let w8:Int:=uAdd .u32 w5 (uMul .u32 ((256:Int)) w7)
 .chk (in64 (((4:Int)) * v.2)) <|
 .chk (in64 ((((4:Int)) * v.2) + 3)) <|
 .bind (getI s0_3 ((((4:Int)) * v.2) + 3)) fun e9=>
 let w10:Int:=IntKind.u32.wrap ((e9.toNat:Nat):Int)
 .chk (avOK v.1.length v.1.length ((v.1++[uAdd .u32 w8 w10]).length) 4) <|
 .chk (in64 (v.2 + 1)) <|
 .ret (.inl (v.1++[uAdd .u32 w8 w10],v.2 + 1))) <|
 .ret (.inr (v.1,v.2,decide (v.2 < ((16:Int)))))
def qex (N n:Nat) (f:Zv) (v:zW):Option qY:=loopG (zZ N f) some n v
theorem qjK (N:Nat) (f:Zv) (n:Nat) (v:zW) (y:qY) (h:qex N n f v=some y):LG Tryz.prog Zm 102 (lookC qii 3) (qj1 f v) (z_ f y):=
  loop_g qi (E:=qcE N) (L:=lenv (qjM N)) (st:=z_ f) (g:=some) (R:=z_ f) (qbN N) (lenv_ok (by kernel_rfl) trivial) (rg0 (by kernel_rfl)) (fun v=>by kernel_rfl) (good_self (st:=z_ f) fun y=>by rfl) n v y h
def Za (N:Nat) (s0_3:List UInt8) (o_3:List Int) (s4_3:Int):Option qY:=qex N N s0_3 (o_3,s4_3)
def qev (N:Nat):LEnt:=smL qew [(.sl 1 (.i .u32)),.bl,(.i .i64)] qY (fun x=>Za N x.2.1 x.1 x.2.2.1) cs1 fun x=>z_ x.2.1
theorem qjo (N:Nat):LsOK Tryz.prog Zm 102 (lookC qii 3) (qev N):=smL_ok fun x z h=>qjK N x.2.1 N (x.1,x.2.2.1) z h
abbrev Zw:=Unit
abbrev qZ:=List Int×Int×Bool
def Qb (f:Zw) (y:qZ):Ex×TSt:=(.exit 2,⟨0,99,[],[(3,.v 35 y.1.length),(5,xi y.2.1),(51,xb y.2.2)],[(35,.vec false 1 (.sl 1 (.i .u32)) (y.1:List Int))],false,[]⟩)
def qjP (N:Nat):List (Nat×LEnt):=[]
abbrev Qa:=List Int×Int
def qeE:SP:=⟨0,99,[],[(3,.vs 35),(5,.x (.i .i64))],[(35,.vec false 1)],false,[]⟩
def qjY (f:Zw) (v:Qa):TSt:=fillS qeE [dv (.sl 1 (.i .u32)) v.1,dv (.i .i64) v.2]
def z9 (N:Nat) (v:Qa):Tree (Qa⊕qZ):=
 .cond (decide (v.2 < ((64:Int)))) (
 .chk (in64 (v.2 - 15)) <|
 .chk (0≤(v.2 - 15)∧(v.2 - 15) < ((v.1.length:Nat):Int)) <|
 .bind (getV v.1 v.1.length ((v.2 - 15).toNat)) fun e1=>
 .chk (in64 (v.2 - 2)) <|
 .chk (0≤(v.2 - 2)∧(v.2 - 2) < ((v.1.length:Nat):Int)) <|
 .bind (getV v.1 v.1.length ((v.2 - 2).toNat)) fun e2=>
 .bind (qw e1 7) fun r3=>
 .bind (qw e1 18) fun r4=>
 .chk (0≤(3:Int)) <|
 .bind (qw e2 17) fun r5=>
 .bind (qw e2 19) fun r6=>
 .chk (0≤(10:Int)) <|
 let w7:Int:=uXor .u32 (uXor .u32 r5 r6) (uShr e2 10)
 .chk (in64 (v.2 - 16)) <|
 .chk (0≤(v.2 - 16)∧(v.2 - 16) < ((v.1.length:Nat):Int)) <|
 .bind (getV v.1 v.1.length ((v.2 - 16).toNat)) fun e8=>
 let w9:Int:=uAdd .u32 e8 (uXor .u32 (uXor .u32 r3 r4) (uShr e1 3))
 .chk (in64 (v.2 - 7)) <|
 .chk (0≤(v.2 - 7)∧(v.2 - 7) < ((v.1.length:Nat):Int)) <|
 .bind (getV v.1 v.1.length ((v.2 - 7).toNat)) fun e10=>
 .chk (avOK v.1.length v.1.length ((v.1++[uAdd .u32 (uAdd .u32 w9 e10) w7]).length) 4) <|
 .chk (in64 (v.2 + 1)) <|
 .ret (.inl (v.1++[uAdd .u32 (uAdd .u32 w9 e10) w7],v.2 + 1))) <|
 .ret (.inr (v.1,v.2,decide (v.2 < ((64:Int)))))
def qeB (N n:Nat) (f:Zw) (v:Qa):Option qZ:=loopG (z9 N) some n v
theorem qjT (N:Nat) (f:Zw) (n:Nat) (v:Qa) (y:qZ) (h:qeB N n f v=some y):LG Tryz.prog Zm 102 (lookC qii 7) (qjY f v) (Qb f y):=
  loop_g qi (E:=qcE N) (L:=lenv (qjP N)) (st:=Qb f) (g:=some) (R:=Qb f) (qbN N) (lenv_ok (by kernel_rfl) trivial) (rg0 (by kernel_rfl)) (fun v=>by kernel_rfl) (good_self (st:=Qb f) fun y=>by rfl) n v y h
def qb3 (N:Nat) (o_7:List Int) (s5_7:Int):Option qZ:=qeB N N () (o_7,s5_7)
def qez (N:Nat):LEnt:=smL qeE [(.sl 1 (.i .u32)),(.i .i64)] qZ (fun x=>qb3 N x.1 x.2.1) cs1 fun x=>Qb ()
theorem qjg (N:Nat):LsOK Tryz.prog Zm 102 (lookC qii 7) (qez N):=smL_ok fun x z h=>qjT N () N (x.1,x.2.1) z h
def qmA (z:List Int):TV×THp:=(.tv (.sl 1 (.i .u32)) z,[])
def qcF (N:Nat) (a0:List UInt8):Tree (List Int):=
 .bind (chkLs [(([]:List Int).length,0)] (Za N a0 [] 0)) fun z1=>
 .bind (chkLs [(z1.1.length,z1.1.length)] (qb3 N z1.1 16)) fun z2=>
 .chk (z2.1.length=z2.1.length) <|
 .ret z2.1
def qbC (N:Nat) (a0:List UInt8):Option (List Int):=(qcF N a0).run some
def qmQ (N:Nat):List (Nat×LEnt):=[(3,qev N),(7,qez N)]
def qgG (N:Nat):Ent:=smF ⟨102,[],[.x .bl],[],[]⟩ [.bl] (List Int) (fun x=>qbC N x.1) cs1 fun _=>qmA
theorem qlV (N:Nat):SmOK Tryz.prog (qgG N):=
  fn_ok (H:=Zm) (L:=lenv (qmQ N)) (ts:=[.bl]) (T:=fun x=>qcF N x.1) 0 qwb (qbN N) (lenv_ok (by kernel_rfl) ⟨qjo N,qjg N,trivial⟩) (rg0 (by kernel_rfl)) fun x=>by kernel_rfl
noncomputable def qwV:Code:=Tryz.f104.body.getD .skip
theorem qwl:FnF Tryz.prog 104 Tryz.f104 qwV:=⟨qi,by kernel_rfl,by kernel_rfl,by kernel_rfl⟩
def qrl:TH:={ live:=[(1,[0])] }
def qrH (N:Nat):List Ent:=[]
theorem qon (N:Nat):SmAll Tryz.prog (qrH N):=trivial
def qrw (z:Unit):TV×THp:=(.tv (.sl 1 (.i .u32)) ([1116352408,1899447441,3049323471,3921009573,961987163,1508970993,2453635748,2870763221,3624381080,310598401,607225278,1426881987,1925078388,2162078206,2614888103,3248222580,3835390401,4022224774,264347078,604807628,770255983,1249150122,1555081692,1996064986,2554220882,2821834349,2952996808,3210313671,3336571891,3584528711,113926993,338241895,666307205,773529912,1294757372,1396182291,1695183700,1986661051,2177026350,2456956037,2730485921,2820302411,3259730800,3345764771,3516065817,3600352804,4094571909,275423344,430227734,506948616,659060556,883997877,958139571,1322822218,1537002063,1747873779,1955562222,2024104815,2227730452,2361852424,2428436474,2756734187,3204031479,3329325298]:List Int),[])
def qjl:Tree (Unit):=
 .ret ()
def qeu:Option (Unit):=(qjl).run some
def qqP:List (Nat×LEnt):=[]
def qjb:Ent:=smF ⟨104,[],[],[],[]⟩ [] (Unit) (fun x=>qeu) cs1 fun _=>qrw
theorem qqh:SmOK Tryz.prog (qjb):=
  fn_ok (H:=qrl) (L:=lenv (qqP)) (ts:=[]) (T:=fun x=>qjl) 0 qwl (qon 0) (lenv_ok (by kernel_rfl) trivial) (rg0 (by kernel_rfl)) fun x=>by kernel_rfl
noncomputable def qaA:Code:=Tryz.f75.body.getD .skip
theorem qx9:FnF Tryz.prog 75 Tryz.f75 qaA:=⟨qi,by kernel_rfl,by kernel_rfl,by kernel_rfl⟩
def qA:TH:={ live:=[(0,[0,2]),(1,[0,2,3]),(2,[2,3,4]),(3,[2,3,4,5]),(4,[2,3,4,5,24]),(5,[2,3,4,5]),(6,[2,3,4,5,6]),(7,[2,3,4,5,6,7]),(8,[2,3,4,5,6,7,8]),(9,[2,3,4,5,6,7,8,36]),(10,[2,3,4,5,6,7,8]),(11,[2,3,4,5,6,7,8,9]),(12,[2,3,4,5,6,7,8,9,10]),(13,[2,3,4,5,6,7,8,9,10,11]),(14,[2,3,4,5,6,7,8,9,10,11,12]),(15,[2,3,4,5,6,7,8]),(16,[2,3,4,5,7,13]),(17,[2,3,4,5,7,13,132]),(18,[2,3,4,5,7,13]),(19,[2,3,4,5,7,13]),(20,[2,3,14]),(21,[2,3,14,15]),(22,[2,3,14,15,149]),(23,[2,3,14,15]),(24,[2,3,14,15,16]),(25,[2,3,14,15,16,17]),(26,[2,3,14,15,16,17,160]),(27,[2,3,14,15,16,17]),(28,[2,3,14,15,16,17]),(29,[2,3,14,15]),(30,[2])],vecs:=[18] }
def zP (N:Nat):List Ent:=[qfi N,qgG N,qb9,qjb]
theorem q_ (N:Nat):SmAll Tryz.prog (zP N):=⟨qj3 N,qlV N,qe_,qqh,trivial⟩
abbrev qF:=List Int×List Int×Vector UInt8 32×Nat×List UInt8×Int×List Int
abbrev qB:=List Int×Int×Bool
def qG (f:qF) (y:qB):Ex×TSt:=(.exit 2,⟨0,171,[],[(2,.p 20 [] 0),(3,.v 180 f.2.2.2.1),(4,.tv .bl f.2.2.2.2.1),(5,xi f.2.2.2.2.2.1),(6,.tv (.sl 1 (.i .u32)) f.2.2.2.2.2.2),(7,.tv (.sl 1 (.i .u32)) (y.1:List Int)),(8,xi y.2.1),(36,xb y.2.2)],[(20,.cell false (.tv (.ba 32) f.2.2.1)),(180,.vec false 1 (.sl 1 (.i .u32)) f.1)],false,[]⟩)
def qgr (N:Nat):List (Nat×LEnt):=[]
abbrev qU:=List Int×Int
def qi8:SP:=⟨0,171,[],[(2,.k (.p 20 [] 0)),(3,.v 180),(4,.x .bl),(5,.x (.i .i64)),(6,.x (.sl 1 (.i .u32))),(7,.x (.sl 1 (.i .u32))),(8,.x (.i .i64))],[(20,.cell false (.x (.ba 32))),(180,.vec false 1)],false,[]⟩
def qd1 (f:qF) (v:qU):TSt:=fillS qi8 [dv (.sl 1 (.i .u32)) f.1,dv (.ba 32) f.2.2.1,dv .nat f.2.2.2.1,dv .bl f.2.2.2.2.1,dv (.i .i64) f.2.2.2.2.2.1,dv (.sl 1 (.i .u32)) f.2.2.2.2.2.2,dv (.sl 1 (.i .u32)) v.1,dv (.i .i64) v.2]
def qJ (N:Nat) (o_9:List Int) (o_9_2:List Int) (o_9_3:Vector UInt8 32) (s3_9:Nat) (s4_9:List UInt8) (s5_9:Int) (s6_9:List Int) (v:qU):Tree (qU⊕qB):=
 .cond (decide (v.2 < ((64:Int)))) (
 .bind (getI v.1 4) fun e1=>
 .bind (getI v.1 0) fun e2=>
 .bind (getI v.1 7) fun e3=>
 .bind (qw e1 6) fun r4=>
 .bind (qw e1 11) fun r5=>
 .bind (qw e1 25) fun r6=>
 let w7:Int:=uAdd .u32 e3 (uXor .u32 (uXor .u32 r4 r5) r6)
 .bind (getI v.1 5) fun e8=>
 .bind (getI v.1 6) fun e9=>
 let w10:Int:=uAnd .u32 (uSub .u32 ((4294967295:Int)) e1) e9
 let w11:Int:=uAdd .u32 w7 (uOr .u32 (uAnd .u32 e1 e8) w10)
 .bind (qeu) fun r12=>
 .bind (getI ([1116352408,1899447441,3049323471,3921009573,961987163,1508970993,2453635748,2870763221,3624381080,310598401,607225278,1426881987,1925078388,2162078206,2614888103,3248222580,3835390401,4022224774,264347078,604807628,770255983,1249150122,1555081692,1996064986,2554220882,2821834349,2952996808,3210313671,3336571891,3584528711,113926993,338241895,666307205,773529912,1294757372,1396182291,1695183700,1986661051,2177026350,2456956037,2730485921,2820302411,3259730800,3345764771,3516065817,3600352804,4094571909,275423344,430227734,506948616,659060556,883997877,958139571,1322822218,1537002063,1747873779,1955562222,2024104815,2227730452,2361852424,2428436474,2756734187,3204031479,3329325298]:List Int) v.2) fun e13=>
 .bind (getI s6_9 v.2) fun e14=>
 .bind (qw e2 2) fun r15=>
 .bind (qw e2 13) fun r16=>
 .bind (qw e2 22) fun r17=>
 .bind (getI v.1 1) fun e18=>
 .bind (getI v.1 2) fun e19=>
 let w20:Int:=uOr .u32 (uAnd .u32 e2 e18) (uAnd .u32 e2 e19)
 .bind (getI v.1 1) fun e21=>
 .bind (getI v.1 2) fun e22=>
 let w23:Int:=uAdd .u32 (uXor .u32 (uXor .u32 r15 r16) r17) (uOr .u32 w20 (uAnd .u32 e21 e22))
 let w24:Int:=uAdd .u32 (uAdd .u32 (uAdd .u32 w11 e13) e14) w23
 .bind (getI v.1 1) fun e25=>
 .bind (getI v.1 2) fun e26=>
 .bind (getI v.1 3) fun e27=>
 let w28:Int:=uAdd .u32 e27 (uAdd .u32 (uAdd .u32 w11 e13) e14)
 .bind (getI v.1 5) fun e29=>
 .bind (getI v.1 6) fun e30=>
 .chk (in64 (v.2 + 1)) <|
 .ret (.inl ([w24,e2,e25,e26,w28,e1,e29,e30],v.2 + 1))) <|
 .ret (.inr (v.1,v.2,decide (v.2 < ((64:Int)))))
def qdG (N n:Nat) (f:qF) (v:qU):Option qB:=loopG (qJ N f.1 f.2.1 f.2.2.1 f.2.2.2.1 f.2.2.2.2.1 f.2.2.2.2.2.1 f.2.2.2.2.2.2) some n v
theorem qje (N:Nat) (f:qF) (n:Nat) (v:qU) (y:qB) (h:qdG N n f v=some y):LG Tryz.prog qA 75 (lookC (lookC qaA 4) 9) (qd1 f v) (qG f y):=
  loop_g qi (E:=zP N) (L:=lenv (qgr N)) (st:=qG f) (g:=some) (R:=qG f) (q_ N) (lenv_ok (by kernel_rfl) trivial) (rg0 (by kernel_rfl)) (fun v=>by kernel_rfl) (good_self (st:=qG f) fun y=>by rfl) n v y h
abbrev QL:=Unit
def qgk:SP:=⟨0,171,[],[(2,.k (.p 20 [] 0)),(3,.v 180),(4,.x .bl),(5,.x (.i .i64)),(6,.x (.sl 1 (.i .u32))),(7,.vs 340),(8,.k (.ic .i64 0))],[(20,.cell false (.x (.ba 32))),(180,.vec false 1),(340,.vec false 1)],false,[]⟩
def qmm (f:qF) (v:QL):TSt:=fillS qgk [dv (.sl 1 (.i .u32)) f.1,dv (.sl 1 (.i .u32)) f.2.1,dv (.ba 32) f.2.2.1,dv .nat f.2.2.2.1,dv .bl f.2.2.2.2.1,dv (.i .i64) f.2.2.2.2.2.1,dv (.sl 1 (.i .u32)) f.2.2.2.2.2.2]
abbrev qbZ:=qU⊕qB
def Zc (N:Nat) (o_9:List Int) (o_9_2:List Int) (o_9_3:Vector UInt8 32) (s3_9:Nat) (s4_9:List UInt8) (s5_9:Int) (s6_9:List Int) (v:QL):Tree (QL⊕qbZ):=
 .chk (0≤(4:Int)∧(4:Int) < ((o_9_2.length:Nat):Int)) <|
 .bind (getV o_9_2 o_9_2.length 4) fun e1=>
 .chk (0≤(0:Int)∧(0:Int) < ((o_9_2.length:Nat):Int)) <|
 .bind (getV o_9_2 o_9_2.length 0) fun e2=>
 .chk (0≤(7:Int)∧(7:Int) < ((o_9_2.length:Nat):Int)) <|
 .bind (getV o_9_2 o_9_2.length 7) fun e3=>
 .bind (qw e1 6) fun r4=>
 .bind (qw e1 11) fun r5=>
 .bind (qw e1 25) fun r6=>
 let w7:Int:=uAdd .u32 e3 (uXor .u32 (uXor .u32 r4 r5) r6)
 .chk (0≤(5:Int)∧(5:Int) < ((o_9_2.length:Nat):Int)) <|
 .bind (getV o_9_2 o_9_2.length 5) fun e8=>
 .chk (0≤(6:Int)∧(6:Int) < ((o_9_2.length:Nat):Int)) <|
 .bind (getV o_9_2 o_9_2.length 6) fun e9=>
 let w10:Int:=uAnd .u32 (uSub .u32 ((4294967295:Int)) e1) e9
 let w11:Int:=uAdd .u32 w7 (uOr .u32 (uAnd .u32 e1 e8) w10)
 .bind (qeu) fun r12=>
 .bind (getI ([1116352408,1899447441,3049323471,3921009573,961987163,1508970993,2453635748,2870763221,3624381080,310598401,607225278,1426881987,1925078388,2162078206,2614888103,3248222580,3835390401,4022224774,264347078,604807628,770255983,1249150122,1555081692,1996064986,2554220882,2821834349,2952996808,3210313671,3336571891,3584528711,113926993,338241895,666307205,773529912,1294757372,1396182291,1695183700,1986661051,2177026350,2456956037,2730485921,2820302411,3259730800,3345764771,3516065817,3600352804,4094571909,275423344,430227734,506948616,659060556,883997877,958139571,1322822218,1537002063,1747873779,1955562222,2024104815,2227730452,2361852424,2428436474,2756734187,3204031479,3329325298]:List Int) 0) fun e13=>
 .bind (getI s6_9 0) fun e14=>
 .bind (qw e2 2) fun r15=>
 .bind (qw e2 13) fun r16=>
 .bind (qw e2 22) fun r17=>
 .chk (0≤(1:Int)∧(1:Int) < ((o_9_2.length:Nat):Int)) <|
 .bind (getV o_9_2 o_9_2.length 1) fun e18=>
 .chk (0≤(2:Int)∧(2:Int) < ((o_9_2.length:Nat):Int)) <|
 .bind (getV o_9_2 o_9_2.length 2) fun e19=>
 let w20:Int:=uOr .u32 (uAnd .u32 e2 e18) (uAnd .u32 e2 e19)
 .chk (0≤(1:Int)∧(1:Int) < ((o_9_2.length:Nat):Int)) <|
 .bind (getV o_9_2 o_9_2.length 1) fun e21=>
 .chk (0≤(2:Int)∧(2:Int) < ((o_9_2.length:Nat):Int)) <|
 .bind (getV o_9_2 o_9_2.length 2) fun e22=>
 let w23:Int:=uAdd .u32 (uXor .u32 (uXor .u32 r15 r16) r17) (uOr .u32 w20 (uAnd .u32 e21 e22))
 let w24:Int:=uAdd .u32 (uAdd .u32 (uAdd .u32 w11 e13) e14) w23
 .chk (0≤(1:Int)∧(1:Int) < ((o_9_2.length:Nat):Int)) <|
 .bind (getV o_9_2 o_9_2.length 1) fun e25=>
 .chk (0≤(2:Int)∧(2:Int) < ((o_9_2.length:Nat):Int)) <|
 .bind (getV o_9_2 o_9_2.length 2) fun e26=>
 .chk (0≤(3:Int)∧(3:Int) < ((o_9_2.length:Nat):Int)) <|
 .bind (getV o_9_2 o_9_2.length 3) fun e27=>
 let w28:Int:=uAdd .u32 e27 (uAdd .u32 (uAdd .u32 w11 e13) e14)
 .chk (0≤(5:Int)∧(5:Int) < ((o_9_2.length:Nat):Int)) <|
 .bind (getV o_9_2 o_9_2.length 5) fun e29=>
 .chk (0≤(6:Int)∧(6:Int) < ((o_9_2.length:Nat):Int)) <|
 .bind (getV o_9_2 o_9_2.length 6) fun e30=>
 .ret (.inr (.inl ([w24,e2,e25,e26,w28,e1,e29,e30],1)))
def qca (N n:Nat) (f:qF):qbZ→Option qB
 | .inl w=>qdG N n f w
 | .inr w=>some w
def qlF (f:qF):qbZ→Ex×TSt
 | .inl w=>(.normal,qd1 f w)
 | .inr w=>qG f w
def qgj (N n:Nat) (f:qF) (v:QL):Option qB:=loopG (Zc N f.1 f.2.1 f.2.2.1 f.2.2.2.1 f.2.2.2.2.1 f.2.2.2.2.2.1 f.2.2.2.2.2.2) (qca N n f) n v
theorem qmd (N:Nat) (f:qF) (n:Nat) (v:QL) (y:qB) (h:qgj N n f v=some y):LG Tryz.prog qA 75 (lookC (lookC qaA 4) 9) (qmm f v) (qG f y):=
  loop_g qi (E:=zP N) (L:=lenv (qgr N)) (st:=qlF f) (g:=(qca N n f)) (R:=qG f) (q_ N) (lenv_ok (by kernel_rfl) trivial) (rg0 (by kernel_rfl)) (fun v=>by kernel_rfl) (fun w y h=>by
  rcases w with w | w
  · exact qje N f n w y h
  · exact good_self (st:=qG f) (fun y=>by rfl) w y h
) n v y h
def qbk (N:Nat) (o_9:List Int) (o_9_2:List Int) (o_9_3:Vector UInt8 32) (s3_9:Nat) (s4_9:List UInt8) (s5_9:Int) (s6_9:List Int):Option qB:=qgj N N (o_9,o_9_2,o_9_3,s3_9,s4_9,s5_9,s6_9) ()
def qgn (N:Nat):LEnt:=smL qgk [(.sl 1 (.i .u32)),(.sl 1 (.i .u32)),(.ba 32),.nat,.bl,(.i .i64),(.sl 1 (.i .u32))] qB (fun x=>qbk N x.1 x.2.1 x.2.2.1 x.2.2.2.1 x.2.2.2.2.1 x.2.2.2.2.2.1 x.2.2.2.2.2.2.1) cs1 fun x=>qG (x.1,x.2.1,x.2.2.1,x.2.2.2.1,x.2.2.2.2.1,x.2.2.2.2.2.1,x.2.2.2.2.2.2.1)
theorem qkO (N:Nat):LsOK Tryz.prog qA 75 (lookC (lookC qaA 4) 9) (qgn N):=smL_ok fun x z h=>qmd N (x.1,x.2.1,x.2.2.1,x.2.2.2.1,x.2.2.2.2.1,x.2.2.2.2.2.1,x.2.2.2.2.2.2.1) N () z h
abbrev ZV:=Vector UInt8 32×Nat×List UInt8×Int×List Int
abbrev zf:=List Int×Int×Bool
def Qs (f:ZV) (y:zf):Ex×TSt:=(.exit 4,⟨0,171,[],[(2,.p 20 [] 0),(3,.v 180 f.2.1),(4,.tv .bl f.2.2.1),(5,xi f.2.2.2.1),(7,.tv (.sl 1 (.i .u32)) f.2.2.2.2),(13,xi y.2.1),(132,xb y.2.2)],[(20,.cell false (.tv (.ba 32) f.1)),(180,.vec false 1 (.sl 1 (.i .u32)) (y.1:List Int))],false,[]⟩)
def qkB (N:Nat):List (Nat×LEnt):=[]
abbrev Qp:=List Int×Int
def qe2:SP:=⟨0,171,[],[(2,.k (.p 20 [] 0)),(3,.v 180),(4,.x .bl),(5,.x (.i .i64)),(7,.x (.sl 1 (.i .u32))),(13,.x (.i .i64))],[(20,.cell false (.x (.ba 32))),(180,.vec false 1)],false,[]⟩
def qkC (f:ZV) (v:Qp):TSt:=fillS qe2 [dv (.sl 1 (.i .u32)) v.1,dv (.ba 32) f.1,dv .nat f.2.1,dv .bl f.2.2.1,dv (.i .i64) f.2.2.2.1,dv (.sl 1 (.i .u32)) f.2.2.2.2,dv (.i .i64) v.2]
def ZR (N:Nat) (o_17_2:Vector UInt8 32) (s3_17:Nat) (s4_17:List UInt8) (s5_17:Int) (s7_17:List Int) (v:Qp):Tree (Qp⊕zf):=
 .cond (decide (v.2 < ((8:Int)))) (
 .chk (0≤v.2∧v.2 < ((s3_17:Nat):Int)) <|
 .bind (getV v.1 s3_17 v.2.toNat) fun e1=>
 .bind (getI s7_17 v.2) fun e2=>
 .chk (0≤v.2∧v.2 < ((s3_17:Nat):Int)) <|
 .chk (vecOK v.1.length s3_17 v.2.toNat) <|
 .chk (in64 (v.2 + 1)) <|
 .ret (.inl (v.1.set v.2.toNat (uAdd .u32 e1 e2),v.2 + 1))) <|
 .ret (.inr (v.1,v.2,decide (v.2 < ((8:Int)))))
def qeQ (N n:Nat) (f:ZV) (v:Qp):Option zf:=loopG (ZR N f.1 f.2.1 f.2.2.1 f.2.2.2.1 f.2.2.2.2) some n v
theorem qkT (N:Nat) (f:ZV) (n:Nat) (v:Qp) (y:zf) (h:qeQ N n f v=some y):LG Tryz.prog qA 75 (lookC (lookC qaA 4) 17) (qkC f v) (Qs f y):=
  loop_g qi (E:=zP N) (L:=lenv (qkB N)) (st:=Qs f) (g:=some) (R:=Qs f) (q_ N) (lenv_ok (by kernel_rfl) trivial) (rg0 (by kernel_rfl)) (fun v=>by kernel_rfl) (good_self (st:=Qs f) fun y=>by rfl) n v y h
def qcz (N:Nat) (o_17_2:Vector UInt8 32) (s3_17:Nat) (s4_17:List UInt8) (s5_17:Int) (s7_17:List Int) (o_17:List Int) (s13_17:Int):Option zf:=qeQ N N (o_17_2,s3_17,s4_17,s5_17,s7_17) (o_17,s13_17)
def qe1 (N:Nat):LEnt:=smL qe2 [(.sl 1 (.i .u32)),(.ba 32),.nat,.bl,(.i .i64),(.sl 1 (.i .u32)),(.i .i64)] zf (fun x=>qcz N x.2.1 x.2.2.1 x.2.2.2.1 x.2.2.2.2.1 x.2.2.2.2.2.1 x.1 x.2.2.2.2.2.2.1) cs1 fun x=>Qs (x.2.1,x.2.2.1,x.2.2.2.1,x.2.2.2.2.1,x.2.2.2.2.2.1)
theorem qjO (N:Nat):LsOK Tryz.prog qA 75 (lookC (lookC qaA 4) 17) (qe1 N):=smL_ok fun x z h=>qkT N (x.2.1,x.2.2.1,x.2.2.2.1,x.2.2.2.2.1,x.2.2.2.2.2.1) N (x.1,x.2.2.2.2.2.2.1) z h
abbrev qax:=Vector UInt8 32×Nat×List UInt8
abbrev zC:=List Int×Int×Bool
def Q7 (f:qax) (y:zC):Ex×TSt:=(.exit 0,⟨0,171,[],[(2,.p 20 [] 0),(3,.v 180 f.2.1),(4,.tv .bl f.2.2),(5,xi y.2.1),(24,xb y.2.2)],[(20,.cell false (.tv (.ba 32) f.1)),(180,.vec false 1 (.sl 1 (.i .u32)) (y.1:List Int))],false,[]⟩)
def qls (N:Nat):List (Nat×LEnt):=[(9,qgn N),(17,qe1 N)]
abbrev Q1:=List Int×Int
def qgl:SP:=⟨0,171,[],[(2,.k (.p 20 [] 0)),(3,.v 180),(4,.x .bl),(5,.x (.i .i64))],[(20,.cell false (.x (.ba 32))),(180,.vec false 1)],false,[]⟩
def ql4 (f:qax) (v:Q1):TSt:=fillS qgl [dv (.sl 1 (.i .u32)) v.1,dv (.ba 32) f.1,dv .nat f.2.1,dv .bl f.2.2,dv (.i .i64) v.2]
def qak (N:Nat) (o_4_2:Vector UInt8 32) (s3_4:Nat) (s4_4:List UInt8) (v:Q1):Tree (Q1⊕zC):=
 .cond (decide (v.2 < ((s4_4.length:Nat):Int))) (
 .chk (in64 (v.2 + 64)) <|
 .chk (0≤v.2∧v.2≤(v.2 + 64)∧(v.2 + 64)≤((s4_4.length:Nat):Int)) <|
 .bind (qbC N ((s4_4.take ((v.2 + 64).toNat)).drop v.2.toNat)) fun r1=>
 .chk (v.1.length=s3_4) <|
 .chk (apOK v.1.length 4) <|
 .bind (chkLs [(v.1.length,v.1.length)] (qbk N v.1 v.1 o_4_2 s3_4 s4_4 v.2 r1)) fun z2=>
 .bind (qcz N o_4_2 s3_4 s4_4 v.2 z2.1 v.1 0) fun z3=>
 .chk (in64 (v.2 + 64)) <|
 .ret (.inl (z3.1,v.2 + 64))) <|
 .ret (.inr (v.1,v.2,decide (v.2 < ((s4_4.length:Nat):Int))))
def qgm (N n:Nat) (f:qax) (v:Q1):Option zC:=loopG (qak N f.1 f.2.1 f.2.2) some n v
theorem qlJ (N:Nat) (f:qax) (n:Nat) (v:Q1) (y:zC) (h:qgm N n f v=some y):LG Tryz.prog qA 75 (lookC qaA 4) (ql4 f v) (Q7 f y):=
  loop_g qi (E:=zP N) (L:=lenv (qls N)) (st:=Q7 f) (g:=some) (R:=Q7 f) (q_ N) (lenv_ok (by kernel_rfl) ⟨qkO N,qjO N,trivial⟩) (rg0 (by kernel_rfl)) (fun v=>by kernel_rfl) (good_self (st:=Q7 f) fun y=>by rfl) n v y h
def qc1 (N:Nat) (o_4_2:Vector UInt8 32) (s3_4:Nat) (s4_4:List UInt8) (o_4:List Int) (s5_4:Int):Option zC:=qgm N N (o_4_2,s3_4,s4_4) (o_4,s5_4)
def qgv (N:Nat):LEnt:=smL qgl [(.sl 1 (.i .u32)),(.ba 32),.nat,.bl,(.i .i64)] zC (fun x=>qc1 N x.2.1 x.2.2.1 x.2.2.2.1 x.1 x.2.2.2.2.1) cs1 fun x=>Q7 (x.2.1,x.2.2.1,x.2.2.2.1)
theorem qk_ (N:Nat):LsOK Tryz.prog qA 75 (lookC qaA 4) (qgv N):=smL_ok fun x z h=>qlJ N (x.2.1,x.2.2.1,x.2.2.2.1) N (x.1,x.2.2.2.2.1) z h
abbrev ZQ:=List Int×Vector UInt8 32×Vector UInt8 32×Nat×Int
abbrev ze:=Int×Int×Bool
def QB (f:ZQ) (y:ze):Ex×TSt:=(.exit 8,⟨0,171,[],[(2,.p 20 [] 0),(3,.v 180 f.2.2.2.1),(14,.p 140 [] 0),(15,xi f.2.2.2.2),(16,.tv (.i .u32) (y.1:Int)),(17,xi y.2.1),(160,xb y.2.2)],[(20,.cell false (.tv (.ba 32) f.2.1)),(140,.cell false (.tv (.ba 32) f.2.2.1)),(180,.vec false 1 (.sl 1 (.i .u32)) f.1)],false,[]⟩)
def qkH (N:Nat):List (Nat×LEnt):=[]
abbrev Qr:=Int×Int
def qe4:SP:=⟨0,171,[],[(2,.k (.p 20 [] 0)),(3,.v 180),(14,.k (.p 140 [] 0)),(15,.x (.i .i64)),(16,.x (.i .u32)),(17,.x (.i .i64))],[(20,.cell false (.x (.ba 32))),(140,.cell false (.x (.ba 32))),(180,.vec false 1)],false,[]⟩
def qlm (f:ZQ) (v:Qr):TSt:=fillS qe4 [dv (.sl 1 (.i .u32)) f.1,dv (.ba 32) f.2.1,dv (.ba 32) f.2.2.1,dv .nat f.2.2.2.1,dv (.i .i64) f.2.2.2.2,dv (.i .u32) v.1,dv (.i .i64) v.2]
def ZW (N:Nat) (o_26:List Int) (o_26_2:Vector UInt8 32) (o_26_3:Vector UInt8 32) (s3_26:Nat) (s15_26:Int) (v:Qr):Tree (Qr⊕ze):=
 .cond (decide (v.2 < ((3:Int)))) (
 .chk ((256:Int)≠0) <|
 .chk (in64 (v.2 + 1)) <|
 .ret (.inl (IntKind.u32.wrap (v.1.tdiv 256),v.2 + 1))) <|
 .ret (.inr (v.1,v.2,decide (v.2 < ((3:Int)))))
def qeV (N n:Nat) (f:ZQ) (v:Qr):Option ze:=loopG (ZW N f.1 f.2.1 f.2.2.1 f.2.2.2.1 f.2.2.2.2) some n v
theorem qlg (N:Nat) (f:ZQ) (n:Nat) (v:Qr) (y:ze) (h:qeV N n f v=some y):LG Tryz.prog qA 75 (lookC (lookC qaA 22) 26) (qlm f v) (QB f y):=
  loop_g qi (E:=zP N) (L:=lenv (qkH N)) (st:=QB f) (g:=some) (R:=QB f) (q_ N) (lenv_ok (by kernel_rfl) trivial) (rg0 (by kernel_rfl)) (fun v=>by kernel_rfl) (good_self (st:=QB f) fun y=>by rfl) n v y h
def qcg (N:Nat) (o_26:List Int) (o_26_2:Vector UInt8 32) (o_26_3:Vector UInt8 32) (s3_26:Nat) (s15_26:Int) (s16_26:Int) (s17_26:Int):Option ze:=qeV N N (o_26,o_26_2,o_26_3,s3_26,s15_26) (s16_26,s17_26)
def qe5 (N:Nat):LEnt:=smL qe4 [(.sl 1 (.i .u32)),(.ba 32),(.ba 32),.nat,(.i .i64),(.i .u32),(.i .i64)] ze (fun x=>qcg N x.1 x.2.1 x.2.2.1 x.2.2.2.1 x.2.2.2.2.1 x.2.2.2.2.2.1 x.2.2.2.2.2.2.1) cs1 fun x=>QB (x.1,x.2.1,x.2.2.1,x.2.2.2.1,x.2.2.2.2.1)
theorem qjQ (N:Nat):LsOK Tryz.prog qA 75 (lookC (lookC qaA 22) 26) (qe5 N):=smL_ok fun x z h=>qlg N (x.1,x.2.1,x.2.2.1,x.2.2.2.1,x.2.2.2.2.1) N (x.2.2.2.2.2.1,x.2.2.2.2.2.2.1) z h
abbrev ZN:=List Int×Vector UInt8 32×Nat
abbrev zk:=Vector UInt8 32×Int×Bool
def QD (f:ZN) (y:zk):Ex×TSt:=(.exit 6,⟨0,171,[],[(2,.p 20 [] 0),(3,.v 180 f.2.2),(14,.p 140 [] 0),(15,xi y.2.1),(149,xb y.2.2)],[(20,.cell false (.tv (.ba 32) f.2.1)),(140,.cell false (.tv (.ba 32) (y.1:Vector UInt8 32))),(180,.vec false 1 (.sl 1 (.i .u32)) f.1)],false,[]⟩)
def qle (N:Nat):List (Nat×LEnt):=[(26,qe5 N)]
abbrev Qo:=Vector UInt8 32×Int
def qfh:SP:=⟨0,171,[],[(2,.k (.p 20 [] 0)),(3,.v 180),(14,.k (.p 140 [] 0)),(15,.x (.i .i64))],[(20,.cell false (.x (.ba 32))),(140,.cell false (.x (.ba 32))),(180,.vec false 1)],false,[]⟩
def qk6 (f:ZN) (v:Qo):TSt:=fillS qfh [dv (.sl 1 (.i .u32)) f.1,dv (.ba 32) f.2.1,dv (.ba 32) v.1,dv .nat f.2.2,dv (.i .i64) v.2]
def ZO (N:Nat) (o_22:List Int) (o_22_2:Vector UInt8 32) (s3_22:Nat) (v:Qo):Tree (Qo⊕zk):=
 .cond (decide (v.2 < ((32:Int)))) (
 .chk ((4:Int)≠0) <|
 .chk (in64 (v.2.tdiv 4)) <|
 .chk (0≤(v.2.tdiv 4)∧(v.2.tdiv 4) < ((s3_22:Nat):Int)) <|
 .bind (getV o_22 s3_22 ((v.2.tdiv 4).toNat)) fun e1=>
 .chk ((4:Int)≠0) <|
 .bind (qcg N o_22 o_22_2 v.1 s3_22 v.2 e1 (v.2.tmod 4)) fun z2=>
 .chk ((256:Int)≠0) <|
 .chk (0≤v.2∧v.2 < ((32:Nat):Int)) <|
 .chk (inB (IntKind.u8.wrap (z2.1.tmod 256))) <|
 .chk (v.2.toNat < 32) <|
 .chk (in64 (v.2 + 1)) <|
 .ret (.inl (v.1.setIfInBounds v.2.toNat (UInt8.ofNat (IntKind.u8.wrap (z2.1.tmod 256)).toNat),v.2 + 1))) <|
 .ret (.inr (v.1,v.2,decide (v.2 < ((32:Int)))))
def qfe (N n:Nat) (f:ZN) (v:Qo):Option zk:=loopG (ZO N f.1 f.2.1 f.2.2) some n v
theorem qkE (N:Nat) (f:ZN) (n:Nat) (v:Qo) (y:zk) (h:qfe N n f v=some y):LG Tryz.prog qA 75 (lookC qaA 22) (qk6 f v) (QD f y):=
  loop_g qi (E:=zP N) (L:=lenv (qle N)) (st:=QD f) (g:=some) (R:=QD f) (q_ N) (lenv_ok (by kernel_rfl) ⟨qjQ N,trivial⟩) (rg0 (by kernel_rfl)) (fun v=>by kernel_rfl) (good_self (st:=QD f) fun y=>by rfl) n v y h
def qcr (N:Nat) (o_22:List Int) (o_22_2:Vector UInt8 32) (s3_22:Nat) (o_22_3:Vector UInt8 32) (s15_22:Int):Option zk:=qfe N N (o_22,o_22_2,s3_22) (o_22_3,s15_22)
def qfl (N:Nat):LEnt:=smL qfh [(.sl 1 (.i .u32)),(.ba 32),(.ba 32),.nat,(.i .i64)] zk (fun x=>qcr N x.1 x.2.1 x.2.2.2.1 x.2.2.1 x.2.2.2.2.1) cs1 fun x=>QD (x.1,x.2.1,x.2.2.2.1)
theorem qjW (N:Nat):LsOK Tryz.prog qA 75 (lookC qaA 22) (qfl N):=smL_ok fun x z h=>qkE N (x.1,x.2.1,x.2.2.2.1) N (x.2.2.1,x.2.2.2.2.1) z h
def qpu (z:Vector UInt8 32):TV×THp:=(.tv (.ba 32) z,[])
def qeb (N:Nat) (a0:List UInt8):Tree (Vector UInt8 32):=
 .bind (qaK N a0) fun r1=>
 .bind (qc1 N ((Vector.replicate 32 0)) 8 r1 [1779033703,3144134277,1013904242,2773480762,1359893119,2600822924,528734635,1541459225] 0) fun z2=>
 .bind (qcr N z2.1 ((Vector.replicate 32 0)) 8 ((Vector.replicate 32 0)) 0) fun z3=>
 .ret z3.1
def qa8 (N:Nat) (a0:List UInt8):Option (Vector UInt8 32):=(qeb N a0).run some
def qoy (N:Nat):List (Nat×LEnt):=[(4,qgv N),(22,qfl N)]
def qec (N:Nat):Ent:=smF ⟨75,[],[.x .bl],[],[]⟩ [.bl] (Vector UInt8 32) (fun x=>qa8 N x.1) cs1 fun _=>qpu
theorem qhq (N:Nat):SmOK Tryz.prog (qec N):=
  fn_ok (H:=qA) (L:=lenv (qoy N)) (ts:=[.bl]) (T:=fun x=>qeb N x.1) 0 qx9 (q_ N) (lenv_ok (by kernel_rfl) ⟨qk_ N,qjW N,trivial⟩) (rg0 (by kernel_rfl)) fun x=>by kernel_rfl
noncomputable def qxm:Code:=Tryz.f38.body.getD .skip
theorem qw7:FnF Tryz.prog 38 Tryz.f38 qxm:=⟨qi,by kernel_rfl,by kernel_rfl,by kernel_rfl⟩
def ql3:TH:={ live:=[(0,[1,2]),(1,[2,3]),(2,[2])] }
def qms (N:Nat):List Ent:=[qid N,qec N]
theorem qj4 (N:Nat):SmAll Tryz.prog (qms N):=⟨qn0 N,qhq N,trivial⟩
def qlE (z:Vector UInt8 32):TV×THp:=(.tv (.ba 32) z,[])
def qb2 (N:Nat) (a0:qh):Tree (Vector UInt8 32):=
 .bind (qch N a0) fun r1=>
 .bind (qa8 N r1.1) fun r2=>
 .ret r2
def qbj (N:Nat) (a0:qh):Option (Vector UInt8 32):=(qb2 N a0).run some
def qlI (N:Nat):List (Nat×LEnt):=[]
def qf0 (N:Nat):Ent:=smF ⟨38,[],[.x qt],[],[]⟩ [qt] (Vector UInt8 32) (fun x=>qbj N x.1) cs1 fun _=>qlE
theorem qkK (N:Nat):SmOK Tryz.prog (qf0 N):=
  fn_ok (H:=ql3) (L:=lenv (qlI N)) (ts:=[qt]) (T:=fun x=>qb2 N x.1) 0 qw7 (qj4 N) (lenv_ok (by kernel_rfl) trivial) (rg0 (by kernel_rfl)) fun x=>by kernel_rfl
noncomputable def qxY:Code:=Tryz.f39.body.getD .skip
theorem qx_:FnF Tryz.prog 39 Tryz.f39 qxY:=⟨qi,by kernel_rfl,by kernel_rfl,by kernel_rfl⟩
def qqi:TH:={ live:=[(0,[0,2]),(1,[2])] }
def qqj (N:Nat):List Ent:=[qec N]
theorem qn7 (N:Nat):SmAll Tryz.prog (qqj N):=⟨qhq N,trivial⟩
def qqy (z:Vector UInt8 32):TV×THp:=(.tv (.ba 32) z,[])
def qeI (N:Nat) (a0:List UInt8):Tree (Vector UInt8 32):=
 .chk (lenOK (a0:List UInt8).length) <|
 .bind (qa8 N a0) fun r1=>
 .ret r1
def qaw (N:Nat) (a0:List UInt8):Option (Vector UInt8 32):=(qeI N a0).run some
def qp0 (N:Nat):List (Nat×LEnt):=[]
def qeK (N:Nat):Ent:=smF ⟨39,[],[.x .s],[],[]⟩ [.s] (Vector UInt8 32) (fun x=>qaw N x.1) cs1 fun _=>qqy
theorem qh6 (N:Nat):SmOK Tryz.prog (qeK N):=
  fn_ok (H:=qqi) (L:=lenv (qp0 N)) (ts:=[.s]) (T:=fun x=>qeI N x.1) 0 qx_ (qn7 N) (lenv_ok (by kernel_rfl) trivial) (rg0 (by kernel_rfl)) fun x=>by kernel_rfl
noncomputable def qpJ:Code:=Tryz.f105.body.getD .skip
theorem qw1:FnF Tryz.prog 105 Tryz.f105 qpJ:=⟨qi,by kernel_rfl,by kernel_rfl,by kernel_rfl⟩
def qej:TH:={ live:=[(0,[0]),(1,[0,3]),(2,[0,3,4]),(3,[0,3,4,5]),(4,[0,3,4,5,9]),(5,[0,3,4,5]),(6,[0,3,4,5]),(7,[0,3,4,5]),(8,[2])] }
def qh9 (N:Nat):List Ent:=[]
theorem qhe (N:Nat):SmAll Tryz.prog (qh9 N):=trivial
abbrev qah:=List UInt8
abbrev zI:=Int×Int×Int×Bool
def QZ (f:qah) (y:zI):Ex×TSt:=(.exit 0,⟨0,37,[],[(0,.tv .s f),(3,xi y.1),(4,xi y.2.1),(5,xi y.2.2.1),(9,xb y.2.2.2)],[],false,[]⟩)
def qmr (N:Nat):List (Nat×LEnt):=[]
abbrev Q4:=Int×Int×Int
def qfT:SP:=⟨0,37,[],[(0,.x .s),(3,.x (.i .i64)),(4,.x (.i .i64)),(5,.x (.i .i64))],[],false,[]⟩
def qlX (f:qah) (v:Q4):TSt:=fillS qfT [dv .s f,dv (.i .i64) v.1,dv (.i .i64) v.2.1,dv (.i .i64) v.2.2]
def qab (N:Nat) (s0_4:List UInt8) (v:Q4):Tree (Q4⊕zI):=
 .cond (decide (v.2.2 < ((s0_4.length:Nat):Int))) (
 .bind (getI s0_4 v.2.2) fun e1=>
 .chk (in64 ((e1.toNat:Nat):Int)) <|
 .chk (in64 (v.1 + ((e1.toNat:Nat):Int))) <|
 .chk ((65536:Int)≠0) <|
 .chk (in64 (((s0_4.length:Nat):Int) - v.2.2)) <|
 .chk ((65536:Int)≠0) <|
 .bind (getI s0_4 v.2.2) fun e2=>
 .chk (in64 ((e2.toNat:Nat):Int)) <|
 .chk (in64 (((((s0_4.length:Nat):Int) - v.2.2).tmod 65536) * ((e2.toNat:Nat):Int))) <|
 .chk (in64 (v.2.1 + (((((s0_4.length:Nat):Int) - v.2.2).tmod 65536) * ((e2.toNat:Nat):Int)))) <|
 .chk ((65536:Int)≠0) <|
 .chk (in64 (v.2.2 + 1)) <|
 .ret (.inl ((v.1 + ((e1.toNat:Nat):Int)).tmod 65536,(v.2.1 + (((((s0_4.length:Nat):Int) - v.2.2).tmod 65536) * ((e2.toNat:Nat):Int))).tmod 65536,v.2.2 + 1))) <|
 .ret (.inr (v.1,v.2.1,v.2.2,decide (v.2.2 < ((s0_4.length:Nat):Int))))
def qfZ (N n:Nat) (f:qah) (v:Q4):Option zI:=loopG (qab N f) some n v
theorem qlP (N:Nat) (f:qah) (n:Nat) (v:Q4) (y:zI) (h:qfZ N n f v=some y):LG Tryz.prog qej 105 (lookC qpJ 4) (qlX f v) (QZ f y):=
  loop_g qi (E:=qh9 N) (L:=lenv (qmr N)) (st:=QZ f) (g:=some) (R:=QZ f) (qhe N) (lenv_ok (by kernel_rfl) trivial) (rg0 (by kernel_rfl)) (fun v=>by kernel_rfl) (good_self (st:=QZ f) fun y=>by rfl) n v y h
def qdg (N:Nat) (s0_4:List UInt8) (s3_4:Int) (s4_4:Int) (s5_4:Int):Option zI:=qfZ N N s0_4 (s3_4,s4_4,s5_4)
def qfL (N:Nat):LEnt:=smL qfT [.s,(.i .i64),(.i .i64),(.i .i64)] zI (fun x=>qdg N x.1 x.2.1 x.2.2.1 x.2.2.2.1) cs1 fun x=>QZ x.1
theorem qkX (N:Nat):LsOK Tryz.prog qej 105 (lookC qpJ 4) (qfL N):=smL_ok fun x z h=>qlP N x.1 N (x.2.1,x.2.2.1,x.2.2.2.1) z h
def qpn (z:Int):TV×THp:=(.tv (.i .u32) z,[])
def qdF (N:Nat) (a0:List UInt8):Tree (Int):=
 .bind (qdg N a0 0 0 0) fun z1=>
 .chk (in64 (((65536:Int)) * z1.2.1)) <|
 .chk (in64 ((((65536:Int)) * z1.2.1) + z1.1)) <|
 let w2:Int:=IntKind.u32.wrap ((((65536:Int)) * z1.2.1) + z1.1)
 .ret w2
def qcw (N:Nat) (a0:List UInt8):Option (Int):=(qdF N a0).run some
def qo_ (N:Nat):List (Nat×LEnt):=[(4,qfL N)]
def qhU (N:Nat):Ent:=smF ⟨105,[],[.x .s],[],[]⟩ [.s] (Int) (fun x=>qcw N x.1) cs1 fun _=>qpn
theorem qn4 (N:Nat):SmOK Tryz.prog (qhU N):=
  fn_ok (H:=qej) (L:=lenv (qo_ N)) (ts:=[.s]) (T:=fun x=>qdF N x.1) 0 qw1 (qhe N) (lenv_ok (by kernel_rfl) ⟨qkX N,trivial⟩) (rg0 (by kernel_rfl)) fun x=>by kernel_rfl
noncomputable def qyK:Code:=Tryz.f76.body.getD .skip
theorem qy1:FnF Tryz.prog 76 Tryz.f76 qyK:=⟨qi,by kernel_rfl,by kernel_rfl,by kernel_rfl⟩
def qoq:TH:={ live:=[(0,[0,2]),(1,[2])] }
def qoX (N:Nat):List Ent:=[qhU N,qeK N]
theorem qm7 (N:Nat):SmAll Tryz.prog (qoX N):=⟨qn4 N,qh6 N,trivial⟩
def qpp (z:qp):TV×THp:=(.tv qu z,[])
def qdU (N:Nat) (a0:List UInt8):Tree (qp):=
 .bind (qcw N a0) fun r1=>
 .bind (qaw N a0) fun r2=>
 .ret (qp.mk r1 r2)
def qck (N:Nat) (a0:List UInt8):Option (qp):=(qdU N a0).run some
def qpx (N:Nat):List (Nat×LEnt):=[]
def qh2 (N:Nat):Ent:=smF ⟨76,[],[.x .s],[],[]⟩ [.s] (qp) (fun x=>qck N x.1) cs1 fun _=>qpp
theorem qnZ (N:Nat):SmOK Tryz.prog (qh2 N):=
  fn_ok (H:=qoq) (L:=lenv (qpx N)) (ts:=[.s]) (T:=fun x=>qdU N x.1) 0 qy1 (qm7 N) (lenv_ok (by kernel_rfl) trivial) (rg0 (by kernel_rfl)) fun x=>by kernel_rfl
noncomputable def qq_:Code:=Tryz.f40.body.getD .skip
theorem qxU:FnF Tryz.prog 40 Tryz.f40 qq_:=⟨qi,by kernel_rfl,by kernel_rfl,by kernel_rfl⟩
def qeL:TH:={ live:=[(0,[0]),(1,[0,7]),(2,[2]),(3,[0,3]),(4,[0,3,4]),(5,[0,3,4,12]),(6,[0,3,4]),(7,[0,3,4]),(8,[2])],nil:=[(3,[⟨.sl 3,35,(.sl 33 qu)⟩])] }
def qiA (N:Nat):List Ent:=[qh2 N]
theorem qhv (N:Nat):SmAll Tryz.prog (qiA N):=⟨qnZ N,trivial⟩
abbrev qaS:=List UInt8
abbrev zT:=List qp×Int×Bool
def Zq (f:qaS) (y:zT):Ex×TSt:=(.exit 0,⟨0,25,[],[(0,.tv .s f),(3,.v 35 y.1.length),(4,xi y.2.1),(12,xb y.2.2)],[(35,.vec false 33 (.sl 33 qu) (y.1:List qp))],false,[]⟩)
def qnh (N:Nat):List (Nat×LEnt):=[]
abbrev Zn:=List qp×Int
def qgN:SP:=⟨0,25,[],[(0,.x .s),(3,.vs 35),(4,.x (.i .i64))],[(35,.vec false 33)],false,[]⟩
def qm4 (f:qaS) (v:Zn):TSt:=fillS qgN [dv (.sl 33 qu) v.1,dv .s f,dv (.i .i64) v.2]
def qaJ (N:Nat) (s0_5:List UInt8) (v:Zn):Tree (Zn⊕zT):=
 .chk (in64 (v.2 + 8)) <|
 .cond (decide ((v.2 + 8)≤((s0_5.length:Nat):Int))) (
 .chk (in64 (v.2 + 8)) <|
 .chk (0≤v.2∧v.2≤(v.2 + 8)∧(v.2 + 8)≤((s0_5.length:Nat):Int)) <|
 .bind (qck N ((s0_5.take ((v.2 + 8).toNat)).drop v.2.toNat)) fun r1=>
 .chk (avOK v.1.length v.1.length ((v.1++[r1]).length) 36) <|
 .chk (in64 (v.2 + 8)) <|
 .ret (.inl (v.1++[r1],v.2 + 8))) <|
 .ret (.inr (v.1,v.2,decide ((v.2 + 8)≤((s0_5.length:Nat):Int))))
def qhd (N n:Nat) (f:qaS) (v:Zn):Option zT:=loopG (qaJ N f) some n v
theorem qmy (N:Nat) (f:qaS) (n:Nat) (v:Zn) (y:zT) (h:qhd N n f v=some y):LG Tryz.prog qeL 40 (lookC qq_ 5) (qm4 f v) (Zq f y):=
  loop_g qi (E:=qiA N) (L:=lenv (qnh N)) (st:=Zq f) (g:=some) (R:=Zq f) (qhv N) (lenv_ok (by kernel_rfl) trivial) (rg0 (by kernel_rfl)) (fun v=>by kernel_rfl) (good_self (st:=Zq f) fun y=>by rfl) n v y h
def qd2 (N:Nat) (s0_5:List UInt8) (o_5:List qp) (s4_5:Int):Option zT:=qhd N N s0_5 (o_5,s4_5)
def qgx (N:Nat):LEnt:=smL qgN [(.sl 33 qu),.s,(.i .i64)] zT (fun x=>qd2 N x.2.1 x.1 x.2.2.1) cs1 fun x=>Zq x.2.1
theorem qmb (N:Nat):LsOK Tryz.prog qeL 40 (lookC qq_ 5) (qgx N):=smL_ok fun x z h=>qmy N x.2.1 N (x.1,x.2.2.1) z h
def qqc (z:List qp):TV×THp:=(.tv (.sl 33 qu) z,[])
def qeP (N:Nat) (a0:List UInt8):Tree (List qp):=
 .cond (decide (((a0.length:Nat):Int) < ((24:Int)))) (
 .ret []) <|
 .bind (chkLs [(([]:List qp).length,0)] (qd2 N a0 [] 0)) fun z1=>
 .chk (z1.1.length=z1.1.length) <|
 .ret z1.1
def qdv (N:Nat) (a0:List UInt8):Option (List qp):=(qeP N a0).run some
def qqb (N:Nat):List (Nat×LEnt):=[(5,qgx N)]
def qiL (N:Nat):Ent:=smF ⟨40,[],[.x .s],[],[]⟩ [.s] (List qp) (fun x=>qdv N x.1) cs1 fun _=>qqc
theorem qo1 (N:Nat):SmOK Tryz.prog (qiL N):=
  fn_ok (H:=qeL) (L:=lenv (qqb N)) (ts:=[.s]) (T:=fun x=>qeP N x.1) 0 qxU (qhv N) (lenv_ok (by kernel_rfl) ⟨qmb N,trivial⟩) (rg0 (by kernel_rfl)) fun x=>by kernel_rfl
noncomputable def qi6:Code:=Tryz.f13.body.getD .skip
theorem qyv:FnF Tryz.prog 13 Tryz.f13 qi6:=⟨qi,by kernel_rfl,by kernel_rfl,by kernel_rfl⟩
def qaG:TH:={ live:=[(0,[1,2]),(1,[1,2,4]),(2,[1,2,13]),(3,[2,3]),(4,[1,2,5]),(5,[1,2,5,6]),(6,[1,2,5,6,22]),(7,[1,2,5,6]),(8,[1,2,5,6,7]),(9,[1,2,5,6,7,8]),(10,[1,2,5,6,7,8,46]),(11,[1,2,5,6,7,8]),(12,[1,2,5,6,7,8,9]),(13,[1,2,5,6,7,8]),(14,[1,2,5,6]),(15,[2,3])],nil:=[(0,[⟨.ob 20 [1],24,(.sl 19 qm)⟩]),(3,[⟨.ob 20 [1],24,(.sl 19 qm)⟩]),(4,[⟨.ob 50 [1],54,(.sl 19 qm)⟩]),(8,[⟨.ob 70 [2],75,(.sl 37 qq)⟩])] }
def qeG (N:Nat):List Ent:=[qdC N,qf0 N,qeK N,qiL N]
theorem qc0 (N:Nat):SmAll Tryz.prog (qeG N):=⟨qhs N,qkK N,qh6 N,qo1 N,trivial⟩
abbrev qaa:=List qd×List qd×qh×Vector UInt8 32×Vector UInt8 32×Vector UInt8 16×qc×Int
abbrev zB:=List qe×Int×Bool
def Zb (f:qaa) (y:zB):Ex×TSt:=(.exit 2,⟨0,88,[],[(1,.p 10 [] 0),(2,.p 20 [] 0),(5,.p 50 [] 0),(6,xi f.2.2.2.2.2.2.2),(7,.p 70 [] 0),(8,xi y.2.1),(46,xb y.2.2)],[(10,.cell false (.tv qt f.2.2.1)),(20,.cell false (.ag [.tv (.ba 32) f.2.2.2.1,.v 24 f.1.length])),(24,.vec false 19 (.sl 19 qm) f.1),(50,.cell false (.ag [.tv (.ba 32) f.2.2.2.2.1,.v 54 f.2.1.length])),(54,.vec false 19 (.sl 19 qm) f.2.1),(70,.cell false (.ag [.tv (.ba 16) f.2.2.2.2.2.1,.tv qo f.2.2.2.2.2.2.1,.v 75 y.1.length])),(75,.vec false 37 (.sl 37 qq) (y.1:List qe))],false,[]⟩)
def ql1 (N:Nat):List (Nat×LEnt):=[]
abbrev Zd:=List qe×Int
def qf2:SP:=⟨0,88,[],[(1,.k (.p 10 [] 0)),(2,.k (.p 20 [] 0)),(5,.k (.p 50 [] 0)),(6,.x (.i .i64)),(7,.k (.p 70 [] 0)),(8,.x (.i .i64))],[(10,.cell false (.x qt)),(20,.cell false (.ag [.x (.ba 32),.vs 24])),(24,.vec false 19),(50,.cell false (.ag [.x (.ba 32),.vs 54])),(54,.vec false 19),(70,.cell false (.ag [.x (.ba 16),.x qo,.vs 75])),(75,.vec false 37)],false,[]⟩
def qlx (f:qaa) (v:Zd):TSt:=fillS qf2 [dv (.sl 19 qm) f.1,dv (.sl 19 qm) f.2.1,dv (.sl 37 qq) v.1,dv qt f.2.2.1,dv (.ba 32) f.2.2.2.1,dv (.ba 32) f.2.2.2.2.1,dv (.ba 16) f.2.2.2.2.2.1,dv qo f.2.2.2.2.2.2.1,dv (.i .i64) f.2.2.2.2.2.2.2,dv (.i .i64) v.2]
def qas (N:Nat) (o_10:List qd) (o_10_2:List qd) (o_10_4:qh) (o_10_5:Vector UInt8 32) (o_10_6:Vector UInt8 32) (o_10_7:Vector UInt8 16) (o_10_8:qc) (s6_10:Int) (v:Zd):Tree (Zd⊕zB):=
 .bind (getI (qh.R o_10_4) s6_10) fun e1=>
 .cond (decide (v.2 < (((qf.F e1).length:Nat):Int))) (
 .bind (getI (qh.R o_10_4) s6_10) fun e2=>
 .bind (getI (qf.F e2) v.2) fun e3=>
 .bind (qaw N (qr.V (qk.C e3))) fun r4=>
 .bind (qdv N (qr.V (qk.C e3))) fun r5=>
 .chk (avOK v.1.length v.1.length ((v.1++[qe.mk (qk.No e3) (qr.S (qk.C e3)) (((qr.V (qk.C e3)).length:Nat):Int) r4 r5]).length) 88) <|
 .chk (in64 (v.2 + 1)) <|
 .ret (.inl (v.1++[qe.mk (qk.No e3) (qr.S (qk.C e3)) (((qr.V (qk.C e3)).length:Nat):Int) r4 r5],v.2 + 1))) <|
 .ret (.inr (v.1,v.2,decide (v.2 < (((qf.F e1).length:Nat):Int))))
def qfP (N n:Nat) (f:qaa) (v:Zd):Option zB:=loopG (qas N f.1 f.2.1 f.2.2.1 f.2.2.2.1 f.2.2.2.2.1 f.2.2.2.2.2.1 f.2.2.2.2.2.2.1 f.2.2.2.2.2.2.2) some n v
theorem qlT (N:Nat) (f:qaa) (n:Nat) (v:Zd) (y:zB) (h:qfP N n f v=some y):LG Tryz.prog qaG 13 (lookC (lookC qi6 6) 10) (qlx f v) (Zb f y):=
  loop_g qi (E:=qeG N) (L:=lenv (ql1 N)) (st:=Zb f) (g:=some) (R:=Zb f) (qc0 N) (lenv_ok (by kernel_rfl) trivial) (rg0 (by kernel_rfl)) (fun v=>by kernel_rfl) (good_self (st:=Zb f) fun y=>by rfl) n v y h
def qc_ (N:Nat) (o_10:List qd) (o_10_2:List qd) (o_10_4:qh) (o_10_5:Vector UInt8 32) (o_10_6:Vector UInt8 32) (o_10_7:Vector UInt8 16) (o_10_8:qc) (s6_10:Int) (o_10_3:List qe) (s8_10:Int):Option zB:=qfP N N (o_10,o_10_2,o_10_4,o_10_5,o_10_6,o_10_7,o_10_8,s6_10) (o_10_3,s8_10)
def qge (N:Nat):LEnt:=smL qf2 [(.sl 19 qm),(.sl 19 qm),(.sl 37 qq),qt,(.ba 32),(.ba 32),(.ba 16),qo,(.i .i64),(.i .i64)] zB (fun x=>qc_ N x.1 x.2.1 x.2.2.2.1 x.2.2.2.2.1 x.2.2.2.2.2.1 x.2.2.2.2.2.2.1 x.2.2.2.2.2.2.2.1 x.2.2.2.2.2.2.2.2.1 x.2.2.1 x.2.2.2.2.2.2.2.2.2.1) cs1 fun x=>Zb (x.1,x.2.1,x.2.2.2.1,x.2.2.2.2.1,x.2.2.2.2.2.1,x.2.2.2.2.2.2.1,x.2.2.2.2.2.2.2.1,x.2.2.2.2.2.2.2.2.1)
theorem qks (N:Nat):LsOK Tryz.prog qaG 13 (lookC (lookC qi6 6) 10) (qge N):=smL_ok fun x z h=>qlT N (x.1,x.2.1,x.2.2.2.1,x.2.2.2.2.1,x.2.2.2.2.2.1,x.2.2.2.2.2.2.1,x.2.2.2.2.2.2.2.1,x.2.2.2.2.2.2.2.2.1) N (x.2.2.1,x.2.2.2.2.2.2.2.2.2.1) z h
abbrev qaO:=List qd×qh×Vector UInt8 32×Vector UInt8 32
abbrev zV:=List qd×Int×Bool
def Zo (f:qaO) (y:zV):Ex×TSt:=(.exit 0,⟨0,88,[],[(1,.p 10 [] 0),(2,.p 20 [] 0),(5,.p 50 [] 0),(6,xi y.2.1),(22,xb y.2.2)],[(10,.cell false (.tv qt f.2.1)),(20,.cell false (.ag [.tv (.ba 32) f.2.2.1,.v 24 f.1.length])),(24,.vec false 19 (.sl 19 qm) f.1),(50,.cell false (.ag [.tv (.ba 32) f.2.2.2,.v 54 y.1.length])),(54,.vec false 19 (.sl 19 qm) (y.1:List qd))],false,[]⟩)
def qmB (N:Nat):List (Nat×LEnt):=[(10,qge N)]
abbrev Zp:=List qd×Int
def qg8:SP:=⟨0,88,[],[(1,.k (.p 10 [] 0)),(2,.k (.p 20 [] 0)),(5,.k (.p 50 [] 0)),(6,.x (.i .i64))],[(10,.cell false (.x qt)),(20,.cell false (.ag [.x (.ba 32),.vs 24])),(24,.vec false 19),(50,.cell false (.ag [.x (.ba 32),.vs 54])),(54,.vec false 19)],false,[]⟩
def qnd (f:qaO) (v:Zp):TSt:=fillS qg8 [dv (.sl 19 qm) f.1,dv (.sl 19 qm) v.1,dv qt f.2.1,dv (.ba 32) f.2.2.1,dv (.ba 32) f.2.2.2,dv (.i .i64) v.2]
def qaP (N:Nat) (o_6:List qd) (o_6_3:qh) (o_6_4:Vector UInt8 32) (o_6_5:Vector UInt8 32) (v:Zp):Tree (Zp⊕zV):=
 .cond (decide (v.2 < (((qh.R o_6_3).length:Nat):Int))) (
 .bind (getI (qh.R o_6_3) v.2) fun e1=>
 .bind (getI (qh.R o_6_3) v.2) fun e2=>
 .bind (chkLs [(o_6.length,o_6.length),(v.1.length,v.1.length),(([]:List qe).length,0)] (qc_ N o_6 v.1 o_6_3 o_6_4 o_6_5 (qf.ID e1) (qf.Dead e2) v.2 [] 0)) fun z3=>
 .chk (z3.1.length=z3.1.length) <|
 .chk (avOK v.1.length v.1.length ((v.1++[qd.mk (qf.ID e1) (qf.Dead e2) z3.1]).length) 56) <|
 .chk (in64 (v.2 + 1)) <|
 .ret (.inl (v.1++[qd.mk (qf.ID e1) (qf.Dead e2) z3.1],v.2 + 1))) <|
 .ret (.inr (v.1,v.2,decide (v.2 < (((qh.R o_6_3).length:Nat):Int))))
def qgS (N n:Nat) (f:qaO) (v:Zp):Option zV:=loopG (qaP N f.1 f.2.1 f.2.2.1 f.2.2.2) some n v
theorem qnl (N:Nat) (f:qaO) (n:Nat) (v:Zp) (y:zV) (h:qgS N n f v=some y):LG Tryz.prog qaG 13 (lookC qi6 6) (qnd f v) (Zo f y):=
  loop_g qi (E:=qeG N) (L:=lenv (qmB N)) (st:=Zo f) (g:=some) (R:=Zo f) (qc0 N) (lenv_ok (by kernel_rfl) ⟨qks N,trivial⟩) (rg0 (by kernel_rfl)) (fun v=>by kernel_rfl) (good_self (st:=Zo f) fun y=>by rfl) n v y h
def qdB (N:Nat) (o_6:List qd) (o_6_3:qh) (o_6_4:Vector UInt8 32) (o_6_5:Vector UInt8 32) (o_6_2:List qd) (s6_6:Int):Option zV:=qgS N N (o_6,o_6_3,o_6_4,o_6_5) (o_6_2,s6_6)
def qg1 (N:Nat):LEnt:=smL qg8 [(.sl 19 qm),(.sl 19 qm),qt,(.ba 32),(.ba 32),(.i .i64)] zV (fun x=>qdB N x.1 x.2.2.1 x.2.2.2.1 x.2.2.2.2.1 x.2.1 x.2.2.2.2.2.1) cs1 fun x=>Zo (x.1,x.2.2.1,x.2.2.2.1,x.2.2.2.2.1)
theorem qlu (N:Nat):LsOK Tryz.prog qaG 13 (lookC qi6 6) (qg1 N):=smL_ok fun x z h=>qnl N (x.1,x.2.2.1,x.2.2.2.1,x.2.2.2.2.1) N (x.2.1,x.2.2.2.2.2.1) z h
def qpX (z:qb×Bool):TV×THp:=(.tup [.tv qn (z.1:qb),xb z.2],[])
def qbT (N:Nat) (a0:qh):Tree (qb×Bool):=
 .bind (qaX N a0) fun r1=>
 .cond (!r1) (
 .chk (0=0) <|
 .ret (qb.mk ((Vector.replicate 32 0)) [],false)) <|
 .bind (qbj N a0) fun r2=>
 .bind (chkLs [(([]:List qd).length,0),(([]:List qd).length,0)] (qdB N [] a0 ((Vector.replicate 32 0)) r2 [] 0)) fun z3=>
 .chk (z3.1.length=z3.1.length) <|
 .ret (qb.mk r2 z3.1,true)
def Zk (N:Nat) (a0:qh):Option (qb×Bool):=(qbT N a0).run some
def qqu (N:Nat):List (Nat×LEnt):=[(6,qg1 N)]
def qiJ (N:Nat):Ent:=smF ⟨13,[],[.x qt],[],[]⟩ [qt] (qb×Bool) (fun x=>Zk N x.1) cs1 fun _=>qpX
theorem qoT (N:Nat):SmOK Tryz.prog (qiJ N):=
  fn_ok (H:=qaG) (L:=lenv (qqu N)) (ts:=[qt]) (T:=fun x=>qbT N x.1) 0 qyv (qc0 N) (lenv_ok (by kernel_rfl) ⟨qlu N,trivial⟩) (rg0 (by kernel_rfl)) fun x=>by kernel_rfl
noncomputable def qrC:Code:=Tryz.f31.body.getD .skip
theorem qyU:FnF Tryz.prog 31 Tryz.f31 qrC:=⟨qi,by kernel_rfl,by kernel_rfl,by kernel_rfl⟩
def qc8:TH:={ live:=[(0,[0,1]),(1,[0,1,10]),(2,[4]),(3,[0,1,5]),(4,[0,1,5,14]),(5,[0,1,5]),(6,[0,1,5,25]),(7,[4]),(8,[4])] }
def qhk (N:Nat):List Ent:=[]
theorem qfV (N:Nat):SmAll Tryz.prog (qhk N):=trivial
abbrev ZJ:=List qp×List qp
abbrev zc:=Unit⊕(Int×Bool)
def Qu (f:ZJ):zc→Ex×TSt
 | .inl y=>(.ret,⟨0,26,[],[(4,.bc false)],[],false,[]⟩)
 | .inr y=>(.exit 0,⟨0,26,[],[(0,.tv (.sl 33 qu) f.1),(1,.tv (.sl 33 qu) f.2),(5,xi y.1),(14,xb y.2)],[],false,[]⟩)
def qk2 (N:Nat):List (Nat×LEnt):=[]
abbrev Qt:=Int
def qfg:SP:=⟨0,26,[],[(0,.x (.sl 33 qu)),(1,.x (.sl 33 qu)),(5,.x (.i .i64))],[],false,[]⟩
def qla (f:ZJ) (v:Qt):TSt:=fillS qfg [dv (.sl 33 qu) f.1,dv (.sl 33 qu) f.2,dv (.i .i64) v]
def ZY (N:Nat) (s0_4:List qp) (s1_4:List qp) (v:Qt):Tree (Qt⊕zc):=
 .cond (decide (v < ((s0_4.length:Nat):Int))) (
 .bind (getI s0_4 v) fun e1=>
 .bind (getI s1_4 v) fun e2=>
 .cond (!(eqE qu e1 e2)) (
 .ret (.inr (.inl ()))) <|
 .chk (in64 (v + 1)) <|
 .ret (.inl (v + 1))) <|
 .ret (.inr (.inr ((v,decide (v < ((s0_4.length:Nat):Int))))))
def qfb (N n:Nat) (f:ZJ) (v:Qt):Option zc:=loopG (ZY N f.1 f.2) some n v
theorem qk5 (N:Nat) (f:ZJ) (n:Nat) (v:Qt) (y:zc) (h:qfb N n f v=some y):LG Tryz.prog qc8 31 (lookC qrC 4) (qla f v) (Qu f y):=
  loop_g qi (E:=qhk N) (L:=lenv (qk2 N)) (st:=Qu f) (g:=some) (R:=Qu f) (qfV N) (lenv_ok (by kernel_rfl) trivial) (rg0 (by kernel_rfl)) (fun v=>by kernel_rfl) (good_self (st:=Qu f) fun y=>by rcases y with _ | _<;>rfl) n v y h
def qgK (N:Nat) (s0_4:List qp) (s1_4:List qp) (s5_4:Int):Option zc:=qfb N N (s0_4,s1_4) s5_4
def qe0 (N:Nat):LEnt:=smL qfg [(.sl 33 qu),(.sl 33 qu),(.i .i64)] zc (fun x=>qgK N x.1 x.2.1 x.2.2.1) (csS cs1) fun x=>Qu (x.1,x.2.1)
theorem qjZ (N:Nat):LsOK Tryz.prog qc8 31 (lookC qrC 4) (qe0 N):=smL_ok fun x z h=>qk5 N (x.1,x.2.1) N x.2.2.1 z h
def qnN (z:Bool):TV×THp:=(xb z,[])
def qcZ (N:Nat) (a0:List qp) (a1:List qp):Tree (Bool):=
 .cond (!decide (((a0.length:Nat):Int)=((a1.length:Nat):Int))) (
 .ret false) <|
 .bind (qgK N a0 a1 0) fun z1=>
 .sum z1 (fun z2=>
 .ret false) fun z2=>
 .ret true
def qbR (N:Nat) (a0:List qp) (a1:List qp):Option (Bool):=(qcZ N a0 a1).run some
def qnR (N:Nat):List (Nat×LEnt):=[(4,qe0 N)]
def qho (N:Nat):Ent:=smF ⟨31,[],[.x (.sl 33 qu),.x (.sl 33 qu)],[],[]⟩ [(.sl 33 qu),(.sl 33 qu)] (Bool) (fun x=>qbR N x.1 x.2.1) cs1 fun _=>qnN
theorem qmZ (N:Nat):SmOK Tryz.prog (qho N):=
  fn_ok (H:=qc8) (L:=lenv (qnR N)) (ts:=[(.sl 33 qu),(.sl 33 qu)]) (T:=fun x=>qcZ N x.1 x.2.1) 0 qyU (qfV N) (lenv_ok (by kernel_rfl) ⟨qjZ N,trivial⟩) (rg0 (by kernel_rfl)) fun x=>by kernel_rfl
noncomputable def qxd:Code:=Tryz.f25.body.getD .skip
theorem qxe:FnF Tryz.prog 25 Tryz.f25 qxd:=⟨qi,by kernel_rfl,by kernel_rfl,by kernel_rfl⟩
def qkx:TH:={ live:=[(0,[2,3]),(1,[2,3,5]),(2,[4])],dec:=[12,19,26,33] }
def qk9 (N:Nat):List Ent:=[qho N]
theorem qjH (N:Nat):SmAll Tryz.prog (qk9 N):=⟨qmZ N,trivial⟩
def qk0 (z:Bool):TV×THp:=(xb z,[])
def qbL (N:Nat) (a0:qe) (a1:qe):Tree (Bool):=
 .bind (qbR N (qe.B a0) (qe.B a1)) fun r1=>
 .cond r1 (
 .cond (decide ((qe.No a0)=(qe.No a1))) (
 .cond (eqE qo (qe.S a0) (qe.S a1)) (
 .cond (decide ((qe.Len a0)=(qe.Len a1))) (
 .ret (eqE (.ba 32) (qe.D a0) (qe.D a1))) <|
 .ret false) <|
 .ret false) <|
 .ret false) <|
 .ret false
def qaR (N:Nat) (a0:qe) (a1:qe):Option (Bool):=(qbL N a0 a1).run some
def qll (N:Nat):List (Nat×LEnt):=[]
def qe8 (N:Nat):Ent:=smF ⟨25,[],[.x qq,.x qq],[],[]⟩ [qq,qq] (Bool) (fun x=>qaR N x.1 x.2.1) cs1 fun _=>qk0
theorem qjL (N:Nat):SmOK Tryz.prog (qe8 N):=
  fn_ok (H:=qkx) (L:=lenv (qll N)) (ts:=[qq,qq]) (T:=fun x=>qbL N x.1 x.2.1) 0 qxe (qjH N) (lenv_ok (by kernel_rfl) trivial) (rg0 (by kernel_rfl)) fun x=>by kernel_rfl
noncomputable def qqM:Code:=Tryz.f24.body.getD .skip
theorem qxz:FnF Tryz.prog 24 Tryz.f24 qqM:=⟨qi,by kernel_rfl,by kernel_rfl,by kernel_rfl⟩
def qcB:TH:={ live:=[(0,[2,3]),(1,[2,3,27]),(2,[4]),(3,[2,3,5]),(4,[2,3,5,32]),(5,[2,3,5]),(6,[2,3,5,6]),(7,[2,3,5,47]),(8,[4]),(9,[4])],dec:=[12,19] }
def qhg (N:Nat):List Ent:=[qe8 N]
theorem qeW (N:Nat):SmAll Tryz.prog (qhg N):=⟨qjL N,trivial⟩
abbrev Zy:=qd×qd
abbrev q6:=Unit⊕(Int×Bool)
def zY (f:Zy):q6→Ex×TSt
 | .inl y=>(.ret,⟨0,48,[],[(4,.bc false)],[],false,[]⟩)
 | .inr y=>(.exit 0,⟨0,48,[],[(2,.p 20 [] 0),(3,.p 30 [] 0),(5,xi y.1),(32,xb y.2)],[(20,.cell false (.tv qm f.1)),(30,.cell false (.tv qm f.2))],false,[]⟩)
def qjS (N:Nat):List (Nat×LEnt):=[]
abbrev zX:=Int
def qeD:SP:=⟨0,48,[],[(2,.k (.p 20 [] 0)),(3,.k (.p 30 [] 0)),(5,.x (.i .i64))],[(20,.cell false (.x qm)),(30,.cell false (.x qm))],false,[]⟩
def qjV (f:Zy) (v:zX):TSt:=fillS qeD [dv qm f.1,dv qm f.2,dv (.i .i64) v]
def Zx (N:Nat) (o_4:qd) (o_4_2:qd) (v:zX):Tree (zX⊕q6):=
 .cond (decide (v < (((qd.F o_4).length:Nat):Int))) (
 .bind (getI (qd.F o_4) v) fun e1=>
 .bind (getI (qd.F o_4_2) v) fun e2=>
 .bind (qaR N e1 e2) fun r3=>
 .cond (!r3) (
 .ret (.inr (.inl ()))) <|
 .chk (in64 (v + 1)) <|
 .ret (.inl (v + 1))) <|
 .ret (.inr (.inr ((v,decide (v < (((qd.F o_4).length:Nat):Int))))))
def qeF (N n:Nat) (f:Zy) (v:zX):Option q6:=loopG (Zx N f.1 f.2) some n v
theorem qjU (N:Nat) (f:Zy) (n:Nat) (v:zX) (y:q6) (h:qeF N n f v=some y):LG Tryz.prog qcB 24 (lookC qqM 4) (qjV f v) (zY f y):=
  loop_g qi (E:=qhg N) (L:=lenv (qjS N)) (st:=zY f) (g:=some) (R:=zY f) (qeW N) (lenv_ok (by kernel_rfl) trivial) (rg0 (by kernel_rfl)) (fun v=>by kernel_rfl) (good_self (st:=zY f) fun y=>by rcases y with _ | _<;>rfl) n v y h
def qgt (N:Nat) (o_4:qd) (o_4_2:qd) (s5_4:Int):Option q6:=qeF N N (o_4,o_4_2) s5_4
def qeA (N:Nat):LEnt:=smL qeD [qm,qm,(.i .i64)] q6 (fun x=>qgt N x.1 x.2.1 x.2.2.1) (csS cs1) fun x=>zY (x.1,x.2.1)
theorem qi_ (N:Nat):LsOK Tryz.prog qcB 24 (lookC qqM 4) (qeA N):=smL_ok fun x z h=>qjU N (x.1,x.2.1) N x.2.2.1 z h
def qm8 (z:Bool):TV×THp:=(xb z,[])
def qcq (N:Nat) (a0:qd) (a1:qd):Tree (Bool):=
 .cond (!(eqE (.ba 16) (qd.ID a0) (qd.ID a1))) (
 .ret false) <|
 .cond (!(eqE qo (qd.Dead a0) (qd.Dead a1))) (
 .ret false) <|
 .cond (!decide ((((qd.F a0).length:Nat):Int)=(((qd.F a1).length:Nat):Int))) (
 .ret false) <|
 .bind (qgt N a0 a1 0) fun z1=>
 .sum z1 (fun z2=>
 .ret false) fun z2=>
 .ret true
def qbA (N:Nat) (a0:qd) (a1:qd):Option (Bool):=(qcq N a0 a1).run some
def qnj (N:Nat):List (Nat×LEnt):=[(4,qeA N)]
def qg7 (N:Nat):Ent:=smF ⟨24,[],[.x qm,.x qm],[],[]⟩ [qm,qm] (Bool) (fun x=>qbA N x.1 x.2.1) cs1 fun _=>qm8
theorem qmo (N:Nat):SmOK Tryz.prog (qg7 N):=
  fn_ok (H:=qcB) (L:=lenv (qnj N)) (ts:=[qm,qm]) (T:=fun x=>qcq N x.1 x.2.1) 0 qxz (qeW N) (lenv_ok (by kernel_rfl) ⟨qi_ N,trivial⟩) (rg0 (by kernel_rfl)) fun x=>by kernel_rfl
noncomputable def qrg:Code:=Tryz.f14.body.getD .skip
theorem qxy:FnF Tryz.prog 14 Tryz.f14 qrg:=⟨qi,by kernel_rfl,by kernel_rfl,by kernel_rfl⟩
def qdc:TH:={ live:=[(0,[2,3]),(1,[2,3,20]),(2,[4]),(3,[2,3,5]),(4,[2,3,5,25]),(5,[2,3,5]),(6,[2,3,5,6]),(7,[2,3,5,40]),(8,[4]),(9,[4])],dec:=[12] }
def qhl (N:Nat):List Ent:=[qg7 N]
theorem qgd (N:Nat):SmAll Tryz.prog (qhl N):=⟨qmo N,trivial⟩
abbrev ZS:=qb×qb
abbrev zi:=Unit⊕(Int×Bool)
def Qw (f:ZS):zi→Ex×TSt
 | .inl y=>(.ret,⟨0,41,[],[(4,.bc false)],[],false,[]⟩)
 | .inr y=>(.exit 0,⟨0,41,[],[(2,.p 20 [] 0),(3,.p 30 [] 0),(5,xi y.1),(25,xb y.2)],[(20,.cell false (.tv qn f.1)),(30,.cell false (.tv qn f.2))],false,[]⟩)
def qkD (N:Nat):List (Nat×LEnt):=[]
abbrev Qn:=Int
def qfc:SP:=⟨0,41,[],[(2,.k (.p 20 [] 0)),(3,.k (.p 30 [] 0)),(5,.x (.i .i64))],[(20,.cell false (.x qn)),(30,.cell false (.x qn))],false,[]⟩
def qlj (f:ZS) (v:Qn):TSt:=fillS qfc [dv qn f.1,dv qn f.2,dv (.i .i64) v]
def ZM (N:Nat) (o_4:qb) (o_4_2:qb) (v:Qn):Tree (Qn⊕zi):=
 .cond (decide (v < (((qb.L o_4).length:Nat):Int))) (
 .bind (getI (qb.L o_4) v) fun e1=>
 .bind (getI (qb.L o_4_2) v) fun e2=>
 .bind (qbA N e1 e2) fun r3=>
 .cond (!r3) (
 .ret (.inr (.inl ()))) <|
 .chk (in64 (v + 1)) <|
 .ret (.inl (v + 1))) <|
 .ret (.inr (.inr ((v,decide (v < (((qb.L o_4).length:Nat):Int))))))
def qeT (N n:Nat) (f:ZS) (v:Qn):Option zi:=loopG (ZM N f.1 f.2) some n v
theorem qk3 (N:Nat) (f:ZS) (n:Nat) (v:Qn) (y:zi) (h:qeT N n f v=some y):LG Tryz.prog qdc 14 (lookC qrg 4) (qlj f v) (Qw f y):=
  loop_g qi (E:=qhl N) (L:=lenv (qkD N)) (st:=Qw f) (g:=some) (R:=Qw f) (qgd N) (lenv_ok (by kernel_rfl) trivial) (rg0 (by kernel_rfl)) (fun v=>by kernel_rfl) (good_self (st:=Qw f) fun y=>by rcases y with _ | _<;>rfl) n v y h
def qgQ (N:Nat) (o_4:qb) (o_4_2:qb) (s5_4:Int):Option zi:=qeT N N (o_4,o_4_2) s5_4
def qfd (N:Nat):LEnt:=smL qfc [qn,qn,(.i .i64)] zi (fun x=>qgQ N x.1 x.2.1 x.2.2.1) (csS cs1) fun x=>Qw (x.1,x.2.1)
theorem qjX (N:Nat):LsOK Tryz.prog qdc 14 (lookC qrg 4) (qfd N):=smL_ok fun x z h=>qk3 N (x.1,x.2.1) N x.2.2.1 z h
def qnX (z:Bool):TV×THp:=(xb z,[])
def qc3 (N:Nat) (a0:qb) (a1:qb):Tree (Bool):=
 .cond (!(eqE (.ba 32) (qb.Base a0) (qb.Base a1))) (
 .ret false) <|
 .cond (!decide ((((qb.L a0).length:Nat):Int)=(((qb.L a1).length:Nat):Int))) (
 .ret false) <|
 .bind (qgQ N a0 a1 0) fun z1=>
 .sum z1 (fun z2=>
 .ret false) fun z2=>
 .ret true
def Qe (N:Nat) (a0:qb) (a1:qb):Option (Bool):=(qc3 N a0 a1).run some
def qn_ (N:Nat):List (Nat×LEnt):=[(4,qfd N)]
def qhp (N:Nat):Ent:=smF ⟨14,[],[.x qn,.x qn],[],[]⟩ [qn,qn] (Bool) (fun x=>Qe N x.1 x.2.1) cs1 fun _=>qnX
theorem qmT (N:Nat):SmOK Tryz.prog (qhp N):=
  fn_ok (H:=qdc) (L:=lenv (qn_ N)) (ts:=[qn,qn]) (T:=fun x=>qc3 N x.1 x.2.1) 0 qxy (qgd N) (lenv_ok (by kernel_rfl) ⟨qjX N,trivial⟩) (rg0 (by kernel_rfl)) fun x=>by kernel_rfl
noncomputable def qx4:Code:=Tryz.f43.body.getD .skip
theorem qxT:FnF Tryz.prog 43 Tryz.f43 qx4:=⟨qi,by kernel_rfl,by kernel_rfl,by kernel_rfl⟩
def qnk:TH:={ live:=[(0,[1,3,5]),(1,[1,3,5,7]),(2,[1,3,7,8]),(3,[3,42]),(4,[6]),(5,[3,45]),(6,[6]),(7,[6])],dec:=[18,22,28,33,38] }
def qmW (N:Nat):List Ent:=[zN,qc7]
theorem qkz (N:Nat):SmAll Tryz.prog (qmW N):=⟨Qh,qgF,trivial⟩
def qmL (z:Bool):TV×THp:=(xb z,[])
def qcx (a0:qe) (a1:Int) (a2:qc):Tree (Bool):=
 .bind (q9 (qe.S a0)) fun r1=>
 .bind (qaC a2 (qe.S a0)) fun r2=>
 .cond (!r1) (
 .ret false) <|
 .cond (!r2) (
 .ret false) <|
 .cond (decide ((qe.No a0)≤a1)) (
 .ret false) <|
 .cond (decide (((8:Int))≤(qe.No a0))) (
 .ret false) <|
 .cond (decide ((qe.Len a0) < ((0:Int)))) (
 .ret false) <|
 .cond (decide (((200:Int)) < (qe.Len a0))) (
 .ret false) <|
 .cond (decide ((qe.Len a0) < ((24:Int)))) (
 .ret (decide ((((qe.B a0).length:Nat):Int)=((0:Int))))) <|
 .chk ((8:Int)≠0) <|
 .chk (in64 ((qe.Len a0).tdiv 8)) <|
 .ret (decide ((((qe.B a0).length:Nat):Int)=((qe.Len a0).tdiv 8)))
def qby (a0:qe) (a1:Int) (a2:qc):Option (Bool):=(qcx a0 a1 a2).run some
def qng:List (Nat×LEnt):=[]
def qha:Ent:=smF ⟨43,[],[.x qq,.x (.i .i64),.x qo],[],[]⟩ [qq,(.i .i64),qo] (Bool) (fun x=>qby x.1 x.2.1 x.2.2.1) cs1 fun _=>qmL
theorem qlp:SmOK Tryz.prog (qha):=
  fn_ok (H:=qnk) (L:=lenv (qng)) (ts:=[qq,(.i .i64),qo]) (T:=fun x=>qcx x.1 x.2.1 x.2.2.1) 0 qxT (qkz 0) (lenv_ok (by kernel_rfl) trivial) (rg0 (by kernel_rfl)) fun x=>by kernel_rfl
noncomputable def qjC:Code:=Tryz.f15.body.getD .skip
theorem qxt:FnF Tryz.prog 15 Tryz.f15 qjC:=⟨qi,by kernel_rfl,by kernel_rfl,by kernel_rfl⟩
def Z6:TH:={ live:=[(0,[1]),(1,[1,3]),(2,[1,3,14]),(3,[1,3]),(4,[1,3,4]),(5,[1,3,4,5]),(6,[1,3,4,38]),(7,[2]),(8,[1,3,4,40]),(9,[1,3,4,6]),(10,[1,3,4,52]),(11,[2]),(12,[1,3,4,7]),(13,[1,3,4,7,8]),(14,[1,3,4,7,8,57]),(15,[1,3,4,7,8]),(16,[1,3,4,8,9]),(17,[1,3,4,8,70]),(18,[2]),(19,[1,3,4,7,8]),(20,[2])],dec:=[27,32] }
def qd6 (N:Nat):List Ent:=[zN,qha,qdh N]
theorem qcj (N:Nat):SmAll Tryz.prog (qd6 N):=⟨Qh,qlp,qgL N,trivial⟩
abbrev ZU:=qb×qd×Int
abbrev zg:=Unit⊕(Int×Int×Bool)
def Qq (f:ZU):zg→Ex×TSt
 | .inl y=>(.ret,⟨0,81,[],[(2,.bc false)],[],false,[]⟩)
 | .inr y=>(.exit 2,⟨0,81,[],[(1,.p 10 [] 0),(3,xi f.2.2),(4,.p 40 [] 0),(7,xi y.1),(8,xi y.2.1),(57,xb y.2.2)],[(10,.cell false (.tv qn f.1)),(40,.cell false (.tv qm f.2.1))],false,[]⟩)
def qkQ (N:Nat):List (Nat×LEnt):=[]
abbrev QA:=Int×Int
def qeS:SP:=⟨0,81,[],[(1,.k (.p 10 [] 0)),(3,.x (.i .i64)),(4,.k (.p 40 [] 0)),(7,.x (.i .i64)),(8,.x (.i .i64))],[(10,.cell false (.x qn)),(40,.cell false (.x qm))],false,[]⟩
def qkL (f:ZU) (v:QA):TSt:=fillS qeS [dv qn f.1,dv qm f.2.1,dv (.i .i64) f.2.2,dv (.i .i64) v.1,dv (.i .i64) v.2]
def ZZ (N:Nat) (o_14:qb) (o_14_2:qd) (s3_14:Int) (v:QA):Tree (QA⊕zg):=
 .cond (decide (v.2 < (((qd.F o_14_2).length:Nat):Int))) (
 .bind (getI (qd.F o_14_2) v.2) fun e1=>
 .bind (qby e1 v.1 (qd.Dead o_14_2)) fun r2=>
 .cond (!r2) (
 .ret (.inr (.inl ()))) <|
 .bind (getI (qd.F o_14_2) v.2) fun e3=>
 .chk (in64 (v.2 + 1)) <|
 .ret (.inl (qe.No e3,v.2 + 1))) <|
 .ret (.inr (.inr ((v.1,v.2,decide (v.2 < (((qd.F o_14_2).length:Nat):Int))))))
def qeY (N n:Nat) (f:ZU) (v:QA):Option zg:=loopG (ZZ N f.1 f.2.1 f.2.2) some n v
theorem qk4 (N:Nat) (f:ZU) (n:Nat) (v:QA) (y:zg) (h:qeY N n f v=some y):LG Tryz.prog Z6 15 (lookC (lookC qjC 2) 14) (qkL f v) (Qq f y):=
  loop_g qi (E:=qd6 N) (L:=lenv (qkQ N)) (st:=Qq f) (g:=some) (R:=Qq f) (qcj N) (lenv_ok (by kernel_rfl) trivial) (rg0 (by kernel_rfl)) (fun v=>by kernel_rfl) (good_self (st:=Qq f) fun y=>by rcases y with _ | _<;>rfl) n v y h
def qI (N:Nat) (o_14:qb) (o_14_2:qd) (s3_14:Int) (s7_14:Int) (s8_14:Int):Option zg:=qeY N N (o_14,o_14_2,s3_14) (s7_14,s8_14)
def qff (N:Nat):LEnt:=smL qeS [qn,qm,(.i .i64),(.i .i64),(.i .i64)] zg (fun x=>qI N x.1 x.2.1 x.2.2.1 x.2.2.2.1 x.2.2.2.2.1) (csS cs1) fun x=>Qq (x.1,x.2.1,x.2.2.1)
theorem qjN (N:Nat):LsOK Tryz.prog Z6 15 (lookC (lookC qjC 2) 14) (qff N):=smL_ok fun x z h=>qk4 N (x.1,x.2.1,x.2.2.1) N (x.2.2.2.1,x.2.2.2.2.1) z h
abbrev qai:=qb
abbrev zw:=Unit⊕(Int×Bool)
def QR (f:qai):zw→Ex×TSt
 | .inl y=>(.ret,⟨0,81,[],[(2,.bc false)],[],false,[]⟩)
 | .inr y=>(.exit 0,⟨0,81,[],[(1,.p 10 [] 0),(3,xi y.1),(14,xb y.2)],[(10,.cell false (.tv qn f))],false,[]⟩)
def qlR (N:Nat):List (Nat×LEnt):=[(14,qff N)]
abbrev QY:=Int
def qf1:SP:=⟨0,81,[],[(1,.k (.p 10 [] 0)),(3,.x (.i .i64))],[(10,.cell false (.x qn))],false,[]⟩
def qmt (f:qai) (v:QY):TSt:=fillS qf1 [dv qn f,dv (.i .i64) v]
def Z7 (N:Nat) (o_2:qb) (v:QY):Tree (QY⊕zw):=
 .cond (decide (v < (((qb.L o_2).length:Nat):Int))) (
 .bind (getI (qb.L o_2) v) fun e1=>
 .bind (q9 (qd.Dead e1)) fun r2=>
 .cond (!r2) (
 .ret (.inr (.inl ()))) <|
 .cond (decide ((((qd.F e1).length:Nat):Int)=((0:Int)))) (
 .cond (eqE qo (qd.Dead e1) (qc.mk 0 0)) (
 .ret (.inr (.inl ()))) <|
 .cond (decide (((0:Int)) < v)) (
 .chk (in64 (v - 1)) <|
 .bind (getI (qb.L o_2) (v - 1)) fun e3=>
 .bind (Qc N (qd.ID e3) (qd.ID e1)) fun r4=>
 .cond (!r4) (
 .ret (.inr (.inl ()))) <|
 .bind (qI N o_2 e1 v (-1) 0) fun z5=>
 .sum z5 (fun z6=>
 .ret (.inr (.inl ()))) fun z6=>
 .chk (in64 (v + 1)) <|
 .ret (.inl (v + 1))) <|
 .bind (qI N o_2 e1 v (-1) 0) fun z3=>
 .sum z3 (fun z4=>
 .ret (.inr (.inl ()))) fun z4=>
 .chk (in64 (v + 1)) <|
 .ret (.inl (v + 1))) <|
 .cond (decide (((0:Int)) < v)) (
 .chk (in64 (v - 1)) <|
 .bind (getI (qb.L o_2) (v - 1)) fun e3=>
 .bind (Qc N (qd.ID e3) (qd.ID e1)) fun r4=>
 .cond (!r4) (
 .ret (.inr (.inl ()))) <|
 .bind (qI N o_2 e1 v (-1) 0) fun z5=>
 .sum z5 (fun z6=>
 .ret (.inr (.inl ()))) fun z6=>
 .chk (in64 (v + 1)) <|
 .ret (.inl (v + 1))) <|
 .bind (qI N o_2 e1 v (-1) 0) fun z3=>
 .sum z3 (fun z4=>
 .ret (.inr (.inl ()))) fun z4=>
 .chk (in64 (v + 1)) <|
 .ret (.inl (v + 1))) <|
 .ret (.inr (.inr ((v,decide (v < (((qb.L o_2).length:Nat):Int))))))
def qf7 (N n:Nat) (f:qai) (v:QY):Option zw:=loopG (Z7 N f) some n v
theorem qmc (N:Nat) (f:qai) (n:Nat) (v:QY) (y:zw) (h:qf7 N n f v=some y):LG Tryz.prog Z6 15 (lookC qjC 2) (qmt f v) (QR f y):=
  loop_g qi (E:=qd6 N) (L:=lenv (qlR N)) (st:=QR f) (g:=some) (R:=QR f) (qcj N) (lenv_ok (by kernel_rfl) ⟨qjN N,trivial⟩) (rg0 (by kernel_rfl)) (fun v=>by kernel_rfl) (good_self (st:=QR f) fun y=>by rcases y with _ | _<;>rfl) n v y h
def qc4 (N:Nat) (o_2:qb) (s3_2:Int):Option zw:=qf7 N N o_2 s3_2
def qfX (N:Nat):LEnt:=smL qf1 [qn,(.i .i64)] zw (fun x=>qc4 N x.1 x.2.1) (csS cs1) fun x=>QR x.1
theorem qlc (N:Nat):LsOK Tryz.prog Z6 15 (lookC qjC 2) (qfX N):=smL_ok fun x z h=>qmc N x.1 N x.2.1 z h
def qpK (z:Bool):TV×THp:=(xb z,[])
def qdV (N:Nat) (a0:qb):Tree (Bool):=
 .bind (qc4 N a0 0) fun z1=>
 .sum z1 (fun z2=>
 .ret false) fun z2=>
 .ret (decide ((((qb.L a0).length:Nat):Int)≤((10:Int))))
def qci (N:Nat) (a0:qb):Option (Bool):=(qdV N a0).run some
def qoF (N:Nat):List (Nat×LEnt):=[(2,qfX N)]
def qhX (N:Nat):Ent:=smF ⟨15,[],[.x qn],[],[]⟩ [qn] (Bool) (fun x=>qci N x.1) cs1 fun _=>qpK
theorem qn9 (N:Nat):SmOK Tryz.prog (qhX N):=
  fn_ok (H:=Z6) (L:=lenv (qoF N)) (ts:=[qn]) (T:=fun x=>qdV N x.1) 0 qxt (qcj N) (lenv_ok (by kernel_rfl) ⟨qlc N,trivial⟩) (rg0 (by kernel_rfl)) fun x=>by kernel_rfl
noncomputable def qwm:Code:=Tryz.f106.body.getD .skip
theorem qwG:FnF Tryz.prog 106 Tryz.f106 qwm:=⟨qi,by kernel_rfl,by kernel_rfl,by kernel_rfl⟩
def qqp:TH:={ live:=[(0,[0]),(1,[0,4]),(2,[2]),(3,[2])] }
def qpY (N:Nat):List Ent:=[]
theorem qof (N:Nat):SmAll Tryz.prog (qpY N):=trivial
def qp_ (z:Int):TV×THp:=(xi z,[])
def qeM (a0:Int):Tree (Int):=
 .cond (decide (a0 < ((24:Int)))) (
 .ret 0) <|
 .chk ((8:Int)≠0) <|
 .chk (in64 (a0.tdiv 8)) <|
 .ret (a0.tdiv 8)
def qdl (a0:Int):Option (Int):=(qeM a0).run some
def qql:List (Nat×LEnt):=[]
def qiC:Ent:=smF ⟨106,[],[.x (.i .i64)],[],[]⟩ [(.i .i64)] (Int) (fun x=>qdl x.1) cs1 fun _=>qp_
theorem qpe:SmOK Tryz.prog (qiC):=
  fn_ok (H:=qqp) (L:=lenv (qql)) (ts:=[(.i .i64)]) (T:=fun x=>qeM x.1) 0 qwG (qof 0) (lenv_ok (by kernel_rfl) trivial) (rg0 (by kernel_rfl)) fun x=>by kernel_rfl
noncomputable def qyc:Code:=Tryz.f78.body.getD .skip
theorem qxc:FnF Tryz.prog 78 Tryz.f78 qyc:=⟨qi,by kernel_rfl,by kernel_rfl,by kernel_rfl⟩
def qrB:TH:={ live:=[(0,[2,3]),(1,[4])],dec:=[8,13,18,23,32,37] }
def qqQ (N:Nat):List Ent:=[qiC,qbK,qja N]
theorem qoV (N:Nat):SmAll Tryz.prog (qqQ N):=⟨qpe,qbV,qnD N,trivial⟩
def qqR (z:Bool):TV×THp:=(xb z,[])
def qfH (N:Nat) (a0:qe) (a1:qc):Tree (Bool):=
 .cond (decide (((0:Int))≤(qe.No a0))) (
 .cond (decide ((qe.No a0) < ((8:Int)))) (
 .cond (decide (((0:Int))≤(qe.Len a0))) (
 .cond (decide ((qe.Len a0)≤((200:Int)))) (
 .bind (qdl (qe.Len a0)) fun r1=>
 .cond (decide ((((qe.B a0).length:Nat):Int)=r1)) (
 .bind (qbz (qe.S a0)) fun r2=>
 .cond r2 (
 .bind (qbH N a1 (qe.S a0)) fun r3=>
 .ret r3) <|
 .ret false) <|
 .ret false) <|
 .ret false) <|
 .ret false) <|
 .ret false) <|
 .ret false
def qer (N:Nat) (a0:qe) (a1:qc):Option (Bool):=(qfH N a0 a1).run some
def qq9 (N:Nat):List (Nat×LEnt):=[]
def qjG (N:Nat):Ent:=smF ⟨78,[],[.x qq,.x qo],[],[]⟩ [qq,qo] (Bool) (fun x=>qer N x.1 x.2.1) cs1 fun _=>qqR
theorem qqv (N:Nat):SmOK Tryz.prog (qjG N):=
  fn_ok (H:=qrB) (L:=lenv (qq9 N)) (ts:=[qq,qo]) (T:=fun x=>qfH N x.1 x.2.1) 0 qxc (qoV N) (lenv_ok (by kernel_rfl) trivial) (rg0 (by kernel_rfl)) fun x=>by kernel_rfl
noncomputable def qqS:Code:=Tryz.f44.body.getD .skip
theorem qyn:FnF Tryz.prog 44 Tryz.f44 qqS:=⟨qi,by kernel_rfl,by kernel_rfl,by kernel_rfl⟩
def qg9:TH:={ live:=[(0,[1]),(1,[1,6,7,8]),(2,[1,6,7,8,9]),(3,[1,3,4,6,7,8]),(4,[1,6,7,8,33]),(5,[2]),(6,[1,6,7,8]),(7,[2])],dec:=[18,21,38,43] }
def qkp (N:Nat):List Ent:=[qjG N,qbK]
theorem qiH (N:Nat):SmAll Tryz.prog (qkp N):=⟨qqv N,qbV,trivial⟩
abbrev qbt:=qd×List qe×Int
abbrev Q3:=Unit⊕(Int×Bool)
def Z5 (f:qbt):Q3→Ex×TSt
 | .inl y=>(.ret,⟨0,50,[],[(2,.bc false)],[],false,[]⟩)
 | .inr y=>(.exit 0,⟨0,50,[],[(1,.p 10 [] 0),(6,.tv (.sl 37 qq) f.2.1),(7,xi f.2.2),(8,xi y.1),(9,xb y.2)],[(10,.cell false (.tv qm f.1))],false,[]⟩)
def qoH (N:Nat):List (Nat×LEnt):=[]
abbrev Z3:=Int
def qif:SP:=⟨0,50,[],[(1,.k (.p 10 [] 0)),(6,.x (.sl 37 qq)),(7,.x (.i .i64)),(8,.x (.i .i64))],[(10,.cell false (.x qm))],false,[]⟩
def qpc (f:qbt) (v:Z3):TSt:=fillS qif [dv qm f.1,dv (.sl 37 qq) f.2.1,dv (.i .i64) f.2.2,dv (.i .i64) v]
def qbx (N:Nat) (o_2:qd) (s6_2:List qe) (s7_2:Int) (v:Z3):Tree (Z3⊕Q3):=
 .cond (decide (v < s7_2)) (
 .bind (getI s6_2 v) fun e1=>
 .bind (qer N e1 (qd.Dead o_2)) fun r2=>
 .cond (!r2) (
 .ret (.inr (.inl ()))) <|
 .cond (decide (((0:Int)) < v)) (
 .chk (in64 (v - 1)) <|
 .bind (getI (qd.F o_2) (v - 1)) fun e3=>
 .cond (decide ((qe.No e1)≤(qe.No e3))) (
 .ret (.inr (.inl ()))) <|
 .chk (in64 (v + 1)) <|
 .ret (.inl (v + 1))) <|
 .chk (in64 (v + 1)) <|
 .ret (.inl (v + 1))) <|
 .ret (.inr (.inr ((v,decide (v < s7_2)))))
def qig (N n:Nat) (f:qbt) (v:Z3):Option Q3:=loopG (qbx N f.1 f.2.1 f.2.2) some n v
theorem qpz (N:Nat) (f:qbt) (n:Nat) (v:Z3) (y:Q3) (h:qig N n f v=some y):LG Tryz.prog qg9 44 (lookC qqS 2) (qpc f v) (Z5 f y):=
  loop_g qi (E:=qkp N) (L:=lenv (qoH N)) (st:=Z5 f) (g:=some) (R:=Z5 f) (qiH N) (lenv_ok (by kernel_rfl) trivial) (rg0 (by kernel_rfl)) (fun v=>by kernel_rfl) (good_self (st:=Z5 f) fun y=>by rcases y with _ | _<;>rfl) n v y h
def qfF (N:Nat) (o_2:qd) (s6_2:List qe) (s7_2:Int) (s8_2:Int):Option Q3:=qig N N (o_2,s6_2,s7_2) s8_2
def qhW (N:Nat):LEnt:=smL qif [qm,(.sl 37 qq),(.i .i64),(.i .i64)] Q3 (fun x=>qfF N x.1 x.2.1 x.2.2.1 x.2.2.2.1) (csS cs1) fun x=>Z5 (x.1,x.2.1,x.2.2.1)
theorem qoa (N:Nat):LsOK Tryz.prog qg9 44 (lookC qqS 2) (qhW N):=smL_ok fun x z h=>qpz N (x.1,x.2.1,x.2.2.1) N x.2.2.2.1 z h
def qr3 (z:Bool):TV×THp:=(xb z,[])
def qgV (N:Nat) (a0:qd):Tree (Bool):=
 .bind (qfF N a0 (qd.F a0) (((qd.F a0).length:Nat):Int) 0) fun z1=>
 .sum z1 (fun z2=>
 .ret false) fun z2=>
 .bind (qbz (qd.Dead a0)) fun r3=>
 .cond r3 (
 .cond (decide (((0:Int)) < (((qd.F a0).length:Nat):Int))) (
 .ret true) <|
 .ret (!(eqE qo (qd.Dead a0) (qc.mk 0 0)))) <|
 .ret false
def qfo (N:Nat) (a0:qd):Option (Bool):=(qgV N a0).run some
def qrM (N:Nat):List (Nat×LEnt):=[(2,qhW N)]
def qkf (N:Nat):Ent:=smF ⟨44,[],[.x qm],[],[]⟩ [qm] (Bool) (fun x=>qfo N x.1) cs1 fun _=>qr3
theorem qq4 (N:Nat):SmOK Tryz.prog (qkf N):=
  fn_ok (H:=qg9) (L:=lenv (qrM N)) (ts:=[qm]) (T:=fun x=>qgV N x.1) 0 qyn (qiH N) (lenv_ok (by kernel_rfl) ⟨qoa N,trivial⟩) (rg0 (by kernel_rfl)) fun x=>by kernel_rfl
noncomputable def qrf:Code:=Tryz.f16.body.getD .skip
theorem qy2:FnF Tryz.prog 16 Tryz.f16 qrf:=⟨qi,by kernel_rfl,by kernel_rfl,by kernel_rfl⟩
def qhz:TH:={ live:=[(0,[1]),(1,[1,6,7,8]),(2,[1,6,7,8,9]),(3,[1,3,4,6,7,8]),(4,[1,6,7,8,32]),(5,[2]),(6,[1,6,7,8]),(7,[2])],dec:=[16,19] }
def ql9 (N:Nat):List Ent:=[qkf N,qkS]
theorem qi7 (N:Nat):SmAll Tryz.prog (ql9 N):=⟨qq4 N,qoU,trivial⟩
abbrev qbU:=qb×List qd×Int
abbrev Zs:=Unit⊕(Int×Bool)
def qaE (f:qbU):Zs→Ex×TSt
 | .inl y=>(.ret,⟨0,38,[],[(2,.bc false)],[],false,[]⟩)
 | .inr y=>(.exit 0,⟨0,38,[],[(1,.p 10 [] 0),(6,.tv (.sl 19 qm) f.2.1),(7,xi f.2.2),(8,xi y.1),(9,xb y.2)],[(10,.cell false (.tv qn f.1))],false,[]⟩)
def qp8 (N:Nat):List (Nat×LEnt):=[]
abbrev qaI:=Int
def qiD:SP:=⟨0,38,[],[(1,.k (.p 10 [] 0)),(6,.x (.sl 19 qm)),(7,.x (.i .i64)),(8,.x (.i .i64))],[(10,.cell false (.x qn))],false,[]⟩
def qp7 (f:qbU) (v:qaI):TSt:=fillS qiD [dv qn f.1,dv (.sl 19 qm) f.2.1,dv (.i .i64) f.2.2,dv (.i .i64) v]
def qbS (N:Nat) (o_2:qb) (s6_2:List qd) (s7_2:Int) (v:qaI):Tree (qaI⊕Zs):=
 .cond (decide (v < s7_2)) (
 .bind (getI s6_2 v) fun e1=>
 .bind (qfo N e1) fun r2=>
 .cond (!r2) (
 .ret (.inr (.inl ()))) <|
 .cond (decide (((0:Int)) < v)) (
 .chk (in64 (v - 1)) <|
 .bind (getI (qb.L o_2) (v - 1)) fun e3=>
 .bind (qh_ (qd.ID e3) (qd.ID e1)) fun r4=>
 .cond (!r4) (
 .ret (.inr (.inl ()))) <|
 .chk (in64 (v + 1)) <|
 .ret (.inl (v + 1))) <|
 .chk (in64 (v + 1)) <|
 .ret (.inl (v + 1))) <|
 .ret (.inr (.inr ((v,decide (v < s7_2)))))
def qiN (N n:Nat) (f:qbU) (v:qaI):Option Zs:=loopG (qbS N f.1 f.2.1 f.2.2) some n v
theorem qp6 (N:Nat) (f:qbU) (n:Nat) (v:qaI) (y:Zs) (h:qiN N n f v=some y):LG Tryz.prog qhz 16 (lookC qrf 2) (qp7 f v) (qaE f y):=
  loop_g qi (E:=ql9 N) (L:=lenv (qp8 N)) (st:=qaE f) (g:=some) (R:=qaE f) (qi7 N) (lenv_ok (by kernel_rfl) trivial) (rg0 (by kernel_rfl)) (fun v=>by kernel_rfl) (good_self (st:=qaE f) fun y=>by rcases y with _ | _<;>rfl) n v y h
def qgY (N:Nat) (o_2:qb) (s6_2:List qd) (s7_2:Int) (s8_2:Int):Option Zs:=qiN N N (o_2,s6_2,s7_2) s8_2
def qiF (N:Nat):LEnt:=smL qiD [qn,(.sl 19 qm),(.i .i64),(.i .i64)] Zs (fun x=>qgY N x.1 x.2.1 x.2.2.1 x.2.2.2.1) (csS cs1) fun x=>qaE (x.1,x.2.1,x.2.2.1)
theorem qoi (N:Nat):LsOK Tryz.prog qhz 16 (lookC qrf 2) (qiF N):=smL_ok fun x z h=>qp6 N (x.1,x.2.1,x.2.2.1) N x.2.2.2.1 z h
def qsx (z:Bool):TV×THp:=(xb z,[])
def qhD (N:Nat) (a0:qb):Tree (Bool):=
 .bind (qgY N a0 (qb.L a0) (((qb.L a0).length:Nat):Int) 0) fun z1=>
 .sum z1 (fun z2=>
 .ret false) fun z2=>
 .ret (decide ((((qb.L a0).length:Nat):Int)≤((10:Int))))
def qhc (N:Nat) (a0:qb):Option (Bool):=(qhD N a0).run some
def qsS (N:Nat):List (Nat×LEnt):=[(2,qiF N)]
def qln (N:Nat):Ent:=smF ⟨16,[],[.x qn],[],[]⟩ [qn] (Bool) (fun x=>qhc N x.1) cs1 fun _=>qsx
theorem qsp (N:Nat):SmOK Tryz.prog (qln N):=
  fn_ok (H:=qhz) (L:=lenv (qsS N)) (ts:=[qn]) (T:=fun x=>qhD N x.1) 0 qy2 (qi7 N) (lenv_ok (by kernel_rfl) ⟨qoi N,trivial⟩) (rg0 (by kernel_rfl)) fun x=>by kernel_rfl
noncomputable def qqN:Code:=Tryz.f47.body.getD .skip
theorem qxP:FnF Tryz.prog 47 Tryz.f47 qqN:=⟨qi,by kernel_rfl,by kernel_rfl,by kernel_rfl⟩
def qem:TH:={ live:=[(0,[0,1]),(1,[0,1,10]),(2,[4]),(3,[0,1,12,13]),(4,[0,1,12,13,14]),(5,[0,1,5,12,13]),(6,[0,1,12,13,24]),(7,[4]),(8,[0,1,12,13]),(9,[4])] }
def qhZ (N:Nat):List Ent:=[]
theorem qgA (N:Nat):SmAll Tryz.prog (qhZ N):=trivial
abbrev qay:=List qp×List qp×Int
abbrev zA:=Unit⊕(Int×Bool)
def Q6 (f:qay):zA→Ex×TSt
 | .inl y=>(.ret,⟨0,26,[],[(4,.bc false)],[],false,[]⟩)
 | .inr y=>(.exit 0,⟨0,26,[],[(0,.tv (.sl 33 qu) f.1),(1,.tv (.sl 33 qu) f.2.1),(12,xi f.2.2),(13,xi y.1),(14,xb y.2)],[],false,[]⟩)
def qma (N:Nat):List (Nat×LEnt):=[]
abbrev Q2:=Int
def qgc:SP:=⟨0,26,[],[(0,.x (.sl 33 qu)),(1,.x (.sl 33 qu)),(12,.x (.i .i64)),(13,.x (.i .i64))],[],false,[]⟩
def qml (f:qay) (v:Q2):TSt:=fillS qgc [dv (.sl 33 qu) f.1,dv (.sl 33 qu) f.2.1,dv (.i .i64) f.2.2,dv (.i .i64) v]
def qao (N:Nat) (s0_4:List qp) (s1_4:List qp) (s12_4:Int) (v:Q2):Tree (Q2⊕zA):=
 .cond (decide (v < s12_4)) (
 .bind (getI s0_4 v) fun e1=>
 .bind (getI s1_4 v) fun e2=>
 .cond (!(eqE qu e1 e2)) (
 .ret (.inr (.inl ()))) <|
 .chk (in64 (v + 1)) <|
 .ret (.inl (v + 1))) <|
 .ret (.inr (.inr ((v,decide (v < s12_4)))))
def qfK (N n:Nat) (f:qay) (v:Q2):Option zA:=loopG (qao N f.1 f.2.1 f.2.2) some n v
theorem qlz (N:Nat) (f:qay) (n:Nat) (v:Q2) (y:zA) (h:qfK N n f v=some y):LG Tryz.prog qem 47 (lookC qqN 4) (qml f v) (Q6 f y):=
  loop_g qi (E:=qhZ N) (L:=lenv (qma N)) (st:=Q6 f) (g:=some) (R:=Q6 f) (qgA N) (lenv_ok (by kernel_rfl) trivial) (rg0 (by kernel_rfl)) (fun v=>by kernel_rfl) (good_self (st:=Q6 f) fun y=>by rcases y with _ | _<;>rfl) n v y h
def qhr (N:Nat) (s0_4:List qp) (s1_4:List qp) (s12_4:Int) (s13_4:Int):Option zA:=qfK N N (s0_4,s1_4,s12_4) s13_4
def qfY (N:Nat):LEnt:=smL qgc [(.sl 33 qu),(.sl 33 qu),(.i .i64),(.i .i64)] zA (fun x=>qhr N x.1 x.2.1 x.2.2.1 x.2.2.2.1) (csS cs1) fun x=>Q6 (x.1,x.2.1,x.2.2.1)
theorem qkG (N:Nat):LsOK Tryz.prog qem 47 (lookC qqN 4) (qfY N):=smL_ok fun x z h=>qlz N (x.1,x.2.1,x.2.2.1) N x.2.2.2.1 z h
def qpj (z:Bool):TV×THp:=(xb z,[])
def qdP (N:Nat) (a0:List qp) (a1:List qp):Tree (Bool):=
 .cond (!decide (((a0.length:Nat):Int)=((a1.length:Nat):Int))) (
 .ret false) <|
 .bind (qhr N a0 a1 ((a0.length:Nat):Int) 0) fun z1=>
 .sum z1 (fun z2=>
 .ret false) fun z2=>
 .ret true
def qcl (N:Nat) (a0:List qp) (a1:List qp):Option (Bool):=(qdP N a0 a1).run some
def qpm (N:Nat):List (Nat×LEnt):=[(4,qfY N)]
def qhV (N:Nat):Ent:=smF ⟨47,[],[.x (.sl 33 qu),.x (.sl 33 qu)],[],[]⟩ [(.sl 33 qu),(.sl 33 qu)] (Bool) (fun x=>qcl N x.1 x.2.1) cs1 fun _=>qpj
theorem qn5 (N:Nat):SmOK Tryz.prog (qhV N):=
  fn_ok (H:=qem) (L:=lenv (qpm N)) (ts:=[(.sl 33 qu),(.sl 33 qu)]) (T:=fun x=>qdP N x.1 x.2.1) 0 qxP (qgA N) (lenv_ok (by kernel_rfl) ⟨qkG N,trivial⟩) (rg0 (by kernel_rfl)) fun x=>by kernel_rfl
noncomputable def qxl:Code:=Tryz.f46.body.getD .skip
theorem qxr:FnF Tryz.prog 46 Tryz.f46 qxl:=⟨qi,by kernel_rfl,by kernel_rfl,by kernel_rfl⟩
def qqx:TH:={ live:=[(0,[2,3]),(1,[4])],dec:=[10,17,24,31] }
def qqq (N:Nat):List Ent:=[qhV N]
theorem qnL (N:Nat):SmAll Tryz.prog (qqq N):=⟨qn5 N,trivial⟩
def qpV (z:Bool):TV×THp:=(xb z,[])
def qeO (N:Nat) (a0:qe) (a1:qe):Tree (Bool):=
 .cond (decide ((qe.No a0)=(qe.No a1))) (
 .cond (eqE qo (qe.S a0) (qe.S a1)) (
 .cond (decide ((qe.Len a0)=(qe.Len a1))) (
 .cond (eqE (.ba 32) (qe.D a0) (qe.D a1)) (
 .bind (qcl N (qe.B a0) (qe.B a1)) fun r1=>
 .ret r1) <|
 .ret false) <|
 .ret false) <|
 .ret false) <|
 .ret false
def qdo (N:Nat) (a0:qe) (a1:qe):Option (Bool):=(qeO N a0 a1).run some
def qqn (N:Nat):List (Nat×LEnt):=[]
def qiM (N:Nat):Ent:=smF ⟨46,[],[.x qq,.x qq],[],[]⟩ [qq,qq] (Bool) (fun x=>qdo N x.1 x.2.1) cs1 fun _=>qpV
theorem qoD (N:Nat):SmOK Tryz.prog (qiM N):=
  fn_ok (H:=qqx) (L:=lenv (qqn N)) (ts:=[qq,qq]) (T:=fun x=>qeO N x.1 x.2.1) 0 qxr (qnL N) (lenv_ok (by kernel_rfl) trivial) (rg0 (by kernel_rfl)) fun x=>by kernel_rfl
noncomputable def qrr:Code:=Tryz.f49.body.getD .skip
theorem qxb:FnF Tryz.prog 49 Tryz.f49 qrr:=⟨qi,by kernel_rfl,by kernel_rfl,by kernel_rfl⟩
def qa4:TH:={ live:=[(0,[0,1,2]),(1,[0,1,2,14]),(2,[6]),(3,[1,2,15,16,17]),(4,[1,2,15,16,17,18]),(5,[1,2,7,8,15,16,17]),(6,[1,2,8,9,15,16,17]),(7,[1,2,15,16,17,30]),(8,[6]),(9,[1,2,15,16,17]),(10,[6])] }
def qdQ (N:Nat):List Ent:=[qiM N]
theorem qcH (N:Nat):SmAll Tryz.prog (qdQ N):=⟨qoD N,trivial⟩
abbrev Qg:=List qe×List qe×Int
abbrev qK:=Unit⊕(Int×Bool)
def qV (f:Qg):qK→Ex×TSt
 | .inl y=>(.ret,⟨0,32,[],[(6,.bc false)],[],false,[]⟩)
 | .inr y=>(.exit 0,⟨0,32,[],[(1,.tv (.sl 37 qq) f.1),(2,.fn (.func 46) [] []),(15,.tv (.sl 37 qq) f.2.1),(16,xi f.2.2),(17,xi y.1),(18,xb y.2)],[],false,[]⟩)
def qh3 (N:Nat):List (Nat×LEnt):=[]
abbrev qW:=Int
def qcc:SP:=⟨0,32,[],[(1,.x (.sl 37 qq)),(2,.fn 46 [] []),(15,.x (.sl 37 qq)),(16,.x (.i .i64)),(17,.x (.i .i64))],[],false,[]⟩
def qhY (f:Qg) (v:qW):TSt:=fillS qcc [dv (.sl 37 qq) f.1,dv (.sl 37 qq) f.2.1,dv (.i .i64) f.2.2,dv (.i .i64) v]
def Qf (N:Nat) (s1_4:List qe) (s15_4:List qe) (s16_4:Int) (v:qW):Tree (qW⊕qK):=
 .cond (decide (v < s16_4)) (
 .bind (getI s15_4 v) fun e1=>
 .bind (getI s1_4 v) fun e2=>
 .bind (qdo N e1 e2) fun r3=>
 .cond (!r3) (
 .ret (.inr (.inl ()))) <|
 .chk (in64 (v + 1)) <|
 .ret (.inl (v + 1))) <|
 .ret (.inr (.inr ((v,decide (v < s16_4)))))
def qcf (N n:Nat) (f:Qg) (v:qW):Option qK:=loopG (Qf N f.1 f.2.1 f.2.2) some n v
theorem qih (N:Nat) (f:Qg) (n:Nat) (v:qW) (y:qK) (h:qcf N n f v=some y):LG Tryz.prog qa4 49 (lookC qrr 4) (qhY f v) (qV f y):=
  loop_g qi (E:=qdQ N) (L:=lenv (qh3 N)) (st:=qV f) (g:=some) (R:=qV f) (qcH N) (lenv_ok (by kernel_rfl) trivial) (rg0 (by kernel_rfl)) (fun v=>by kernel_rfl) (good_self (st:=qV f) fun y=>by rcases y with _ | _<;>rfl) n v y h
def qdk (N:Nat) (s1_4:List qe) (s15_4:List qe) (s16_4:Int) (s17_4:Int):Option qK:=qcf N N (s1_4,s15_4,s16_4) s17_4
def qcd (N:Nat):LEnt:=smL qcc [(.sl 37 qq),(.sl 37 qq),(.i .i64),(.i .i64)] qK (fun x=>qdk N x.1 x.2.1 x.2.2.1 x.2.2.2.1) (csS cs1) fun x=>qV (x.1,x.2.1,x.2.2.1)
theorem qhH (N:Nat):LsOK Tryz.prog qa4 49 (lookC qrr 4) (qcd N):=smL_ok fun x z h=>qih N (x.1,x.2.1,x.2.2.1) N x.2.2.2.1 z h
def qjq (z:Bool):TV×THp:=(xb z,[])
def qbb (N:Nat) (a0:List qe) (a1:List qe):Tree (Bool):=
 .cond (!decide (((a0.length:Nat):Int)=((a1.length:Nat):Int))) (
 .ret false) <|
 .bind (qdk N a1 a0 ((a0.length:Nat):Int) 0) fun z1=>
 .sum z1 (fun z2=>
 .ret false) fun z2=>
 .ret true
def ZT (N:Nat) (a0:List qe) (a1:List qe):Option (Bool):=(qbb N a0 a1).run some
def qjz (N:Nat):List (Nat×LEnt):=[(4,qcd N)]
def qdT (N:Nat):Ent:=smF ⟨49,[],[.x (.sl 37 qq),.x (.sl 37 qq),.fn 46 [] []],[],[]⟩ [(.sl 37 qq),(.sl 37 qq)] (Bool) (fun x=>ZT N x.1 x.2.1) cs1 fun _=>qjq
theorem qiO (N:Nat):SmOK Tryz.prog (qdT N):=
  fn_ok (H:=qa4) (L:=lenv (qjz N)) (ts:=[(.sl 37 qq),(.sl 37 qq)]) (T:=fun x=>qbb N x.1 x.2.1) 0 qxb (qcH N) (lenv_ok (by kernel_rfl) ⟨qhH N,trivial⟩) (rg0 (by kernel_rfl)) fun x=>by kernel_rfl
noncomputable def qyw:Code:=Tryz.f48.body.getD .skip
theorem qxx:FnF Tryz.prog 48 Tryz.f48 qyw:=⟨qi,by kernel_rfl,by kernel_rfl,by kernel_rfl⟩
def qqf:TH:={ live:=[(0,[2,3,4]),(1,[5])],dec:=[11,18] }
def qpS (N:Nat):List Ent:=[qdT N]
theorem qnO (N:Nat):SmAll Tryz.prog (qpS N):=⟨qiO N,trivial⟩
def qp9 (z:Bool):TV×THp:=(xb z,[(50,.cell false (.fn (.func 46) [] []))])
def qeH (N:Nat) (a0:qd) (a1:qd):Tree (Bool):=
 .cond (eqE (.ba 16) (qd.ID a0) (qd.ID a1)) (
 .cond (eqE qo (qd.Dead a0) (qd.Dead a1)) (
 .bind (ZT N (qd.F a0) (qd.F a1)) fun r1=>
 .ret r1) <|
 .ret false) <|
 .ret false
def qdw (N:Nat) (a0:qd) (a1:qd):Option (Bool):=(qeH N a0 a1).run some
def qpU (N:Nat):List (Nat×LEnt):=[]
def qiE (N:Nat):Ent:=smF ⟨48,[],[.x qm,.x qm],[.k (.p 50 [] 0)],[(50,.cell false (.fn 46 [] []))]⟩ [qm,qm] (Bool) (fun x=>qdw N x.1 x.2.1) cs1 fun _=>qp9
theorem qpt (N:Nat):SmOK Tryz.prog (qiE N):=
  fn_ok (H:=qqf) (L:=lenv (qpU N)) (ts:=[qm,qm]) (T:=fun x=>qeH N x.1 x.2.1) 0 qxx (qnO N) (lenv_ok (by kernel_rfl) trivial) (rg0 (by kernel_rfl)) fun x=>by kernel_rfl
noncomputable def qrA:Code:=Tryz.f50.body.getD .skip
theorem qxw:FnF Tryz.prog 50 Tryz.f50 qrA:=⟨qi,by kernel_rfl,by kernel_rfl,by kernel_rfl⟩
def qbn:TH:={ live:=[(0,[0,1,2]),(1,[0,1,2,14]),(2,[6]),(3,[1,2,15,16,17]),(4,[1,2,15,16,17,18]),(5,[1,2,7,8,15,16,17]),(6,[1,2,8,9,15,16,17]),(7,[1,2,15,16,17,30]),(8,[6]),(9,[1,2,15,16,17]),(10,[6])] }
def qey (N:Nat):List Ent:=[qiE N]
theorem qdu (N:Nat):SmAll Tryz.prog (qey N):=⟨qpt N,trivial⟩
abbrev QI:=List qd×List qd×Int
abbrev qN:=Unit⊕(Int×Bool)
def zb (f:QI):qN→Ex×TSt
 | .inl y=>(.ret,⟨1,32,[50],[(6,.bc false)],[(50,.cell false (.fn (.func 46) [] []))],false,[]⟩)
 | .inr y=>(.exit 0,⟨1,32,[50],[(1,.tv (.sl 19 qm) f.1),(2,.fn (.func 48) [] [.p 50 [] 0]),(15,.tv (.sl 19 qm) f.2.1),(16,xi f.2.2),(17,xi y.1),(18,xb y.2)],[(50,.cell false (.fn (.func 46) [] []))],false,[]⟩)
def qim (N:Nat):List (Nat×LEnt):=[]
abbrev za:=Int
def qcR:SP:=⟨1,32,[50],[(1,.x (.sl 19 qm)),(2,.fn 48 [] [.k (.p 50 [] 0)]),(15,.x (.sl 19 qm)),(16,.x (.i .i64)),(17,.x (.i .i64))],[(50,.cell false (.fn 46 [] []))],false,[]⟩
def qiw (f:QI) (v:za):TSt:=fillS qcR [dv (.sl 19 qm) f.1,dv (.sl 19 qm) f.2.1,dv (.i .i64) f.2.2,dv (.i .i64) v]
def QF (N:Nat) (s1_4:List qd) (s15_4:List qd) (s16_4:Int) (v:za):Tree (za⊕qN):=
 .cond (decide (v < s16_4)) (
 .bind (getI s15_4 v) fun e1=>
 .bind (getI s1_4 v) fun e2=>
 .bind (qdw N e1 e2) fun r3=>
 .cond (!r3) (
 .ret (.inr (.inl ()))) <|
 .chk (in64 (v + 1)) <|
 .ret (.inl (v + 1))) <|
 .ret (.inr (.inr ((v,decide (v < s16_4)))))
def qcQ (N n:Nat) (f:QI) (v:za):Option qN:=loopG (QF N f.1 f.2.1 f.2.2) some n v
theorem qin (N:Nat) (f:QI) (n:Nat) (v:za) (y:qN) (h:qcQ N n f v=some y):LG Tryz.prog qbn 50 (lookC qrA 4) (qiw f v) (zb f y):=
  loop_g qi (E:=qey N) (L:=lenv (qim N)) (st:=zb f) (g:=some) (R:=zb f) (qdu N) (lenv_ok (by kernel_rfl) trivial) (rg0 (by kernel_rfl)) (fun v=>by kernel_rfl) (good_self (st:=zb f) fun y=>by rcases y with _ | _<;>rfl) n v y h
def qdy (N:Nat) (s1_4:List qd) (s15_4:List qd) (s16_4:Int) (s17_4:Int):Option qN:=qcQ N N (s1_4,s15_4,s16_4) s17_4
def qcK (N:Nat):LEnt:=smL qcR [(.sl 19 qm),(.sl 19 qm),(.i .i64),(.i .i64)] qN (fun x=>qdy N x.1 x.2.1 x.2.2.1 x.2.2.2.1) (csS cs1) fun x=>zb (x.1,x.2.1,x.2.2.1)
theorem qh1 (N:Nat):LsOK Tryz.prog qbn 50 (lookC qrA 4) (qcK N):=smL_ok fun x z h=>qin N (x.1,x.2.1,x.2.2.1) N x.2.2.2.1 z h
def qjJ (z:Bool):TV×THp:=(xb z,[(50,.cell false (.fn (.func 46) [] []))])
def qbm (N:Nat) (a0:List qd) (a1:List qd):Tree (Bool):=
 .cond (!decide (((a0.length:Nat):Int)=((a1.length:Nat):Int))) (
 .ret false) <|
 .bind (qdy N a1 a0 ((a0.length:Nat):Int) 0) fun z1=>
 .sum z1 (fun z2=>
 .ret false) fun z2=>
 .ret true
def qaz (N:Nat) (a0:List qd) (a1:List qd):Option (Bool):=(qbm N a0 a1).run some
def qjR (N:Nat):List (Nat×LEnt):=[(4,qcK N)]
def qeC (N:Nat):Ent:=smF ⟨50,[],[.x (.sl 19 qm),.x (.sl 19 qm),.fn 48 [] [.k (.p 50 [] 0)]],[],[(50,.cell false (.fn 46 [] []))]⟩ [(.sl 19 qm),(.sl 19 qm)] (Bool) (fun x=>qaz N x.1 x.2.1) cs1 fun _=>qjJ
theorem qi5 (N:Nat):SmOK Tryz.prog (qeC N):=
  fn_ok (H:=qbn) (L:=lenv (qjR N)) (ts:=[(.sl 19 qm),(.sl 19 qm)]) (T:=fun x=>qbm N x.1 x.2.1) 0 qxw (qdu N) (lenv_ok (by kernel_rfl) ⟨qh1 N,trivial⟩) (rg0 (by kernel_rfl)) fun x=>by kernel_rfl
noncomputable def qyx:Code:=Tryz.f17.body.getD .skip
theorem qyD:FnF Tryz.prog 17 Tryz.f17 qyx:=⟨qi,by kernel_rfl,by kernel_rfl,by kernel_rfl⟩
def qsc:TH:={ live:=[(0,[2,3]),(1,[2,3,5]),(2,[2,3,6]),(3,[4])],dec:=[13] }
def qr0 (N:Nat):List Ent:=[qeC N]
theorem qpW (N:Nat):SmAll Tryz.prog (qr0 N):=⟨qi5 N,trivial⟩
def qsh (z:Bool):TV×THp:=(xb z,[])
def qgT (N:Nat) (a0:qb) (a1:qb):Tree (Bool):=
 .cond (eqE (.ba 32) (qb.Base a0) (qb.Base a1)) (
 .bind (qaz N (qb.L a0) (qb.L a1)) fun r1=>
 .ret r1) <|
 .ret false
def qfp (N:Nat) (a0:qb) (a1:qb):Option (Bool):=(qgT N a0 a1).run some
def qrJ (N:Nat):List (Nat×LEnt):=[]
def qkb (N:Nat):Ent:=smF ⟨17,[],[.x qn,.x qn],[],[]⟩ [qn,qn] (Bool) (fun x=>qfp N x.1 x.2.1) cs1 fun _=>qsh
theorem qqY (N:Nat):SmOK Tryz.prog (qkb N):=
  fn_ok (H:=qsc) (L:=lenv (qrJ N)) (ts:=[qn,qn]) (T:=fun x=>qgT N x.1 x.2.1) 0 qyD (qpW N) (lenv_ok (by kernel_rfl) trivial) (rg0 (by kernel_rfl)) fun x=>by kernel_rfl
noncomputable def qvg:Code:=Tryz.f3.body.getD .skip
theorem qzl:FnF Tryz.prog 3 Tryz.f3 qvg:=⟨qi,by kernel_rfl,by kernel_rfl,by kernel_rfl⟩
def qhB:TH:={ live:=[(0,[3,4,5]),(1,[3,4,5,7]),(2,[3,4,5,7,8]),(3,[3,4,5,7,8,9]),(4,[3,4,5,7,8,9,10]),(5,[3,4,5,7,38]),(6,[6]),(7,[3,4,5,11,12]),(8,[4,5,11,12,13,14]),(9,[4,5,12,14,15]),(10,[4,5,12,14,15,16]),(11,[4,5,12,14,15,16,17]),(12,[6])],dec:=[27,31,35,59,64,70] }
def qhC (N:Nat):List Ent:=[qvi,qhR N,qh5 N,qnq N,qiJ N,qhp N,qhX N,qln N,qkb N]
theorem qhh (N:Nat):SmAll Tryz.prog (qhC N):=⟨qyY,qn2 N,qnU N,qsu N,qoT N,qmT N,qn9 N,qsp N,qqY N,trivial⟩
def qb6 (z:Bool):TV×THp:=(xb z,[])
def ZE (N:Nat) (a0:qh) (a1:qb) (a2:qb):Tree (Bool):=
 .bind (qvJ) fun r1=>
 .bind (qcD N a0) fun r2=>
 .bind (qa3 N a1) fun r3=>
 .bind (qa3 N a2) fun r4=>
 .cond (!r1) (
 .ret r1) <|
 .cond (!r2) (
 .ret r1) <|
 .cond (!r3) (
 .ret r1) <|
 .cond (!r4) (
 .ret r1) <|
 .bind (qbO N a0) fun r5=>
 .bind (Zk N a0) fun r6=>
 .bind (Qe N r5.1 r6.1) fun r7=>
 .bind (qci N a1) fun r8=>
 .bind (Qe N a1 a2) fun r9=>
 .cond r7 (
 .cond (eqE .b r5.2 r6.2) (
 .bind (qhc N a1) fun r10=>
 .cond (eqE .b r10 r8) (
 .bind (qfp N a1 a2) fun r11=>
 .ret (eqE .b r11 r9)) <|
 .ret false) <|
 .ret false) <|
 .ret false
def qH (N:Nat) (a0:qh) (a1:qb) (a2:qb):Option (Bool):=(ZE N a0 a1 a2).run some
def qhA (N:Nat):List (Nat×LEnt):=[]
def qhx (N:Nat):Ent:=smF ⟨3,[],[.x qt,.x qn,.x qn],[],[]⟩ [qt,qn,qn] (Bool) (fun x=>qH N x.1 x.2.1 x.2.2.1) cs1 fun _=>qb6
theorem qbF (N:Nat):FnVal Tryz.prog ⟨3,[],[.x qt,.x qn,.x qn],[],[]⟩ [qt,qn,qn] (fun x=>ZE N x.1 x.2.1 x.2.2.1) (fun _=>qb6):=
  fn_val (H:=qhB) (L:=lenv (qhA N)) 0 qzl (qhh N) (lenv_ok (by kernel_rfl) trivial) (rg0 (by kernel_rfl)) fun x=>by kernel_rfl
theorem qst (N:Nat):SmOK Tryz.prog (qhx N):=smF_ok (qbF N)
end Go.Rx
end
set_option maxRecDepth 100000
noncomputable section
namespace Go.Rx
open Go.Proofs
abbrev allN (q:Nat→Bool) (n:Nat):Bool:=allF q n 0
theorem ZD {q:Nat→Bool} {n:Nat}:allN q n=true↔∀ j,j < n→q j=true:=by
  unfold allN; rw [allF_iff]
  exact ⟨fun h j hj=>h j (Nat.zero_le _) (by omega),fun h j _ hj=>h j (by omega)⟩
theorem qwj {p q:Nat→Bool} {n:Nat} (h:firstF p n 0=none) (hq:∀ j,j < n→p j=!q j):allN q n=true:=
  ZD.2 fun j hj=>by
    have:=firstF_none h j (Nat.zero_le _) (by omega)
    rw [hq j hj] at this; simpa using this
theorem qwT {p q:Nat→Bool} {n i:Nat} (h:firstF p n 0=some i) (hq:∀ j,j < n→p j=!q j):allN q n=false:=by
  obtain ⟨h1,_,h2,_⟩:=firstF_some h
  cases e:allN q n with
  | false=>rfl
  | true=>
    have:=ZD.1 e i (by omega)
    rw [hq i (by omega),this] at h1; simp at h1
theorem zm {α Y : Type} {B : Int → Tree (Int ⊕ (α ⊕ (Int × Bool)))} {g : α ⊕ (Int × Bool) → Option Y} {q : Nat → Bool} {n : Nat} {hit : α}
    (h1:∀ k,k < n→(B (k:Int)).run some=some (if q k then .inl ((k + 1:Nat):Int) else .inr (.inl hit))) (h2:(B (n:Int)).run some=some (.inr (.inr (((n:Nat):Int),false)))) {N:Nat} (hN:n < N) :
    loopG B g N ((0:Nat):Int)=g (if allN q n then .inr (((n:Nat):Int),false) else .inl hit):=by
  rw [qs4 (p:=fun k=>!q k) (hit:=fun _=>.inl hit) (fin:=.inr (((n:Nat):Int),false)) (n:=n) (fun k hk=>by rw [h1 k hk]; cases q k<;>rfl) h2 N 0 (Nat.zero_le _) (by omega),Nat.sub_zero]
  cases e:firstF (fun k=>!q k) n 0 with
  | none=>rw [qwj e fun _ _=>rfl]; rfl
  | some i=>rw [qwT e fun _ _=>rfl]; rfl
theorem qAC:((0:Nat):Int)=0:=rfl
class BigN (N:Nat):Prop where
  h:100000≤N
theorem BigN.of {N:Nat} (h:100000≤N):BigN N:=⟨h⟩
theorem big (N:Nat) [BigN N]:100000≤N:=BigN.h
abbrev zSt:qc:=((0:Int),(0:Int))
abbrev zE:qe:=qe.mk 0 zSt 0 (Vector.replicate 32 0) []
abbrev zL:qd:=qd.mk (Vector.replicate 16 0) zSt []
def fewL (x:qd):Bool:=decide (x.F.length≤12)&&allN (fun k=>decide ((x.F.getD k zE).B.length≤40)) x.F.length
def fewM (m:qb):Bool:=decide (m.L.length≤14)&&allN (fun k=>fewL (m.L.getD k zL)) m.L.length
theorem qvr {k:Nat} (h:k≤1000000):in64 ((k + 1:Nat):Int):=by unfold in64; omega
theorem qmM {c n:Nat}:decide (((c:Nat):Int) < ((n:Nat):Int))=!decide (n≤c):=by
  by_cases h:n≤c
  · rw [decide_eq_true h,decide_eq_false (by omega)]; rfl
  · rw [decide_eq_false h,decide_eq_true (by omega)]; rfl
section n
variable {N:Nat} [BigN N]
def stB (a:qc):Bool:=decide (a=zSt)||(decide (0 < a.1)&&decide (a.1≤1099511627776)&&decide (0≤a.2)&&decide (a.2 < 8))
def slB (a b:qc):Bool:=decide (a.1 < b.1∨(a.1=b.1∧a.2 < b.2))
theorem eqSt (a b:qc):eqE qo a b=decide (a=b):=Bool.eq_iff_iff.2 ((eqE_iff qo a b).trans (decide_eq_true_iff (p:=(a:Int×Int)=b)).symm)
theorem eqID (a b:Vector UInt8 16):eqE (.ba 16) a b=decide (a=b):=Bool.eq_iff_iff.2 ((eqE_iff (.ba 16) a b).trans (decide_eq_true_iff (p:=(a:Vector UInt8 16)=b)).symm)
theorem qdY (a:qc):qbz a=some (stB a):=by
  unfold qbz qkI
  have e:=eqSt a (qc.mk 0 0)
  simp only [Tree.run,e]
  show (bif decide (a=zSt) then _ else _)=some (decide (a=zSt)||_)
  cases decide (a=zSt) with
  | true=>rfl
  | false=>
    show (bif decide (0 < a.1) then _ else _)=_
    cases decide (0 < a.1) with
    | false=>rfl
    | true=>
      show (bif decide (a.1≤1099511627776) then _ else _)=_
      cases decide (a.1≤1099511627776) with
      | false=>rfl
      | true=>
        show (bif decide (0≤a.2) then _ else _)=_
        cases decide (0≤a.2)<;>rfl
def sgn (a b:Int):Int:=if a < b then -1 else if b < a then 1 else 0
theorem qAa (a b:Int):qbD a b=some (sgn a b):=by
  unfold qbD qeJ qfy qgO
  simp only [Tree.run,Option.bind_some,decide_true,Bool.not_true,cond_false,sgn]
  by_cases h:a < b
  · simp [h]
  · by_cases h2:b < a
    · simp [h,h2]
    · simp [h,h2]
theorem qv1 (a b:Int):qg0 N [a,b]=some (if a=0 then b else a):=by
  obtain ⟨n,rfl⟩:∃ n,N=n + 3:=⟨N - 3,by have:=big N; omega⟩
  have e:qiu (n + 3) [a,b] ((([a,b]:List Int).length:Nat):Int) 0=loopG (Zr (n + 3) [a,b] 2) some (n + 3) 0:=rfl
  have r0:(Zr (n + 3) [a,b] 2 0).run some=if a=0 then some (.inl 1) else some (.inr (.inl a)):=by
    unfold Zr
    have g:getI [a,b] 0=some a:=rfl
    have c:in64 ((0:Int) + 1):=by unfold in64; omega
    rw [qj,show decide ((0:Int) < 2)=true from rfl,cond_true,run_bind,g,Option.bind_some,qj,qg,qa c]
    by_cases h:a=0
    · rw [if_pos h,decide_eq_true h]; rfl
    · rw [if_neg h,decide_eq_false h]; rfl
  have r1:(Zr (n + 3) [a,b] 2 1).run some=if b=0 then some (.inl 2) else some (.inr (.inl b)):=by
    unfold Zr
    have g:getI [a,b] 1=some b:=rfl
    have c:in64 ((1:Int) + 1):=by unfold in64; omega
    rw [qj,show decide ((1:Int) < 2)=true from rfl,cond_true,run_bind,g,Option.bind_some,qj,qg,qa c]
    by_cases h:b=0
    · rw [if_pos h,decide_eq_true h]; rfl
    · rw [if_neg h,decide_eq_false h]; rfl
  have r2:(Zr (n + 3) [a,b] 2 2).run some=some (.inr (.inr (2,false))):=rfl
  unfold qg0 qi9
  rw [run_bind,e]
  by_cases h:a=0
  · rw [if_pos h] at r0
    rw [Z1 r0,if_pos h]
    by_cases h2:b=0
    · rw [if_pos h2] at r1
      rw [Z1 r1,qX r2,h2]; rfl
    · rw [if_neg h2] at r1
      rw [qX r1]; rfl
  · rw [if_neg h] at r0
    rw [qX r0,if_neg h]; rfl
theorem sgn3 (a b:Int):sgn a b=-1∨sgn a b=0∨sgn a b=1:=by
  unfold sgn; split
  · exact .inl rfl
  · split
    · exact .inr (.inr rfl)
    · exact .inr (.inl rfl)
theorem qs2 (a b:qc):qbH N a b=some (slB a b):=by
  obtain ⟨a1,a2⟩:=a
  obtain ⟨b1,b2⟩:=b
  unfold qbH qju
  simp only [Tree.run,eqSt,qAa,Option.bind_some]
  by_cases h:((a1,a2):qc)=(b1,b2)
  · cases h
    have:slB ((a1,a2):qc) (a1,a2)=false:=decide_eq_false (by simp only; omega)
    rw [this,decide_eq_true rfl]; rfl
  · rw [decide_eq_false h]
    simp only [Bool.not_false,cond_true]
    show ((qg0 N [sgn a1 b1,sgn a2 b2]).bind _)=_
    have hs:=sgn3 a2 b2
    by_cases h1:a1 < b1
    · rw [show sgn a1 b1=-1 from if_pos h1,qv1,show slB ((a1,a2):qc) (b1,b2)=true from decide_eq_true (.inl h1)]; rfl
    · by_cases h2:b1 < a1
      · rw [show sgn a1 b1=1 by unfold sgn; rw [if_neg h1,if_pos h2],qv1,show slB ((a1,a2):qc) (b1,b2)=false from decide_eq_false (by simp only; omega)]; rfl
      · have he:a1=b1:=by omega
        rw [show sgn a1 b1=0 by unfold sgn; rw [if_neg h1,if_neg h2],qv1,if_pos rfl,Option.bind_some]
        congr 1
        show decide (sgn a2 b2 < 0)=decide (a1 < b1∨(a1=b1∧a2 < b2))
        rw [decide_eq_decide]
        simp only [he,Int.lt_irrefl,false_or,true_and]
        unfold sgn
        split
        · rename_i h3; simp [h3]
        · rename_i h3
          split
          · simp; omega
          · simp; omega
end n
theorem qzk {m:qb}:fewM m=true↔m.L.length≤14∧∀ k,k < m.L.length→(m.L.getD k zL).F.length≤12∧∀ j,j < (m.L.getD k zL).F.length→((m.L.getD k zL).F.getD j zE).B.length≤40:=by
  unfold fewM
  rw [Bool.and_eq_true,decide_eq_true_iff,ZD]
  refine and_congr Iff.rfl (forall_congr' fun k=>imp_congr_right fun _=>?_)
  unfold fewL
  rw [Bool.and_eq_true,decide_eq_true_iff,ZD]
  exact and_congr Iff.rfl (forall_congr' fun j=>imp_congr_right fun _=>decide_eq_true_iff)
end Go.Rx
end
set_option maxRecDepth 100000
noncomputable section
namespace Go.Rx
open Go.Proofs
def blk (n:Int):Int:=if n < 24 then 0 else n.tdiv 8
def entB (e:qe) (dead:qc):Bool:=
  decide (0≤e.No)&&(decide (e.No < 8)&&(decide (0≤e.Len)&&(decide (e.Len≤200)&&(decide (((e.B.length:Nat):Int)=blk e.Len)&&(stB e.S&&slB dead e.S)))))
def entQ (l:List qe) (dead:qc) (k:Nat):Bool:=entB (l.getD k zE) dead&&(decide (k=0)||!decide ((l.getD k zE).No≤(l.getD (k - 1) zE).No))
def qg_ (x:qd):Bool:=allN (entQ x.F x.Dead) x.F.length&&(stB x.Dead&&(decide (0 < x.F.length)||!decide (x.Dead=zSt)))
def lbB (a b:Vector UInt8 16):Bool:=!decide (a=b)&&decide (Go.Lib.compareBytes a.toList b.toList < 0)
def qgC (l:List qd) (k:Nat):Bool:=qg_ (l.getD k zL)&&(decide (k=0)||lbB (l.getD (k - 1) zL).ID (l.getD k zL).ID)
def mayM (m:qb):Bool:=allN (qgC m.L) m.L.length&&decide (m.L.length≤10)
theorem qzE {a b:Bool}:(bif a then some b else some false)=some (a&&b):=by cases a<;>rfl
theorem qw5 {n:Int} (h:n≤200) (h0:0≤n):qdl n=some (blk n):=by
  unfold qdl qeM blk
  by_cases h1:n < 24
  · simp only [Tree.run,decide_eq_true h1,cond_true,if_pos h1]
  · have e:n.tdiv 8≤n:=by rw [Int.tdiv_eq_ediv_of_nonneg h0]; omega
    have e0:0≤n.tdiv 8:=by rw [Int.tdiv_eq_ediv_of_nonneg h0]; omega
    have h64:in64 (n.tdiv 8):=by unfold in64; omega
    simp only [Tree.run,decide_eq_false h1,cond_false,if_neg h1,qa h64]
    exact qa (by decide)
section n
variable {N:Nat} [BigN N]
theorem qxM (e:qe) (dead:qc):qer N e dead=some (entB e dead):=by
  unfold qer qfH entB
  simp only [Tree.run]
  by_cases h1:0≤e.No
  · rw [decide_eq_true h1]
    by_cases h2:e.No < 8
    · rw [decide_eq_true h2]
      by_cases h3:0≤e.Len
      · rw [decide_eq_true h3]
        by_cases h4:e.Len≤200
        · rw [decide_eq_true h4,qw5 h4 h3]
          simp only [cond_true,Option.bind_some,qdY,qs2,Bool.true_and]
          cases decide (((e.B.length:Nat):Int)=blk e.Len) with
          | false=>rfl
          | true=>exact qzE
        · rw [decide_eq_false h4]; rfl
      · rw [decide_eq_false h3]; rfl
    · rw [decide_eq_false h2]; rfl
  · rw [decide_eq_false h1]; rfl
theorem qAz {k:Nat} (h:k≤1000000):in64 ((k:Int) - 1):=by unfold in64; omega
theorem qhF {k:Nat} (h:0 < k):(k:Int) - 1=((k - 1:Nat):Int):=by omega
theorem qlt {k:Nat}:decide ((0:Int) < (k:Int))=!decide (k=0):=by
  by_cases h:k=0
  · subst h; rfl
  · rw [decide_eq_false h,decide_eq_true (by omega)]; rfl
theorem qzX {x : qd} (h : x.F.length ≤ 600) :
    qfF N x x.F ((x.F.length:Nat):Int) 0=some (if allN (entQ x.F x.Dead) x.F.length then .inr (((x.F.length:Nat):Int),false) else .inl ()):=by
  refine zm (B:=qbx N x x.F ((x.F.length:Nat):Int)) (g:=some) (q:=entQ x.F x.Dead) (fun k hk=>?_) ?_ (by have:=big N; omega)
  · unfold qbx
    have h64:in64 ((k + 1:Nat):Int):=qvr (by omega)
    simp only [Tree.run,dec_lt hk,cond_true,getI_D (d:=zE) hk,Option.bind_some,int_succ,qa h64,qxM,qlt]
    unfold entQ
    cases entB (x.F.getD k zE) x.Dead with
    | false=>rfl
    | true=>
      by_cases h0:k=0
      · subst h0; rfl
      · have hp:in64 ((k - 1:Nat):Int):=by unfold in64; omega
        have hk1:k - 1 < x.F.length:=by omega
        simp only [decide_eq_false h0,Bool.not_true,Bool.not_false,cond_true,cond_false,qa hp,qhF (Nat.pos_of_ne_zero h0),getI_D (d:=zE) hk1,Option.bind_some,Bool.false_or,Bool.true_and]
        cases decide ((x.F.getD k zE).No≤(x.F.getD (k - 1) zE).No)<;>rfl
  · unfold qbx
    simp only [Tree.run,dec_nlt (Nat.lt_irrefl _),cond_false]
theorem qzB {x:qd} (h:x.F.length≤600):qfo N x=some (qg_ x):=by
  unfold qfo qgV qg_
  simp only [Tree.run,qzX h,Option.bind_some]
  cases allN (entQ x.F x.Dead) x.F.length with
  | false=>rfl
  | true=>
    simp only [reduceIte,Tree.run,qdY,Option.bind_some,qlt,eqSt,Bool.true_and]
    have e:eqE qo x.Dead (qc.mk 0 0)=decide (x.Dead=zSt):=eqSt x.Dead (qc.mk 0 0)
    have e2:decide (0 < x.F.length)=!decide (x.F.length=0):=by
      by_cases h:x.F.length=0
      · rw [decide_eq_true h,decide_eq_false (by omega)]; rfl
      · rw [decide_eq_false h,decide_eq_true (by omega)]; rfl
    cases stB x.Dead with
    | false=>rfl
    | true=>
      rw [e2]
      cases decide (x.F.length=0)<;>rfl
theorem qui (a b:Vector UInt8 16):qh_ a b=some (lbB a b):=by
  unfold qh_ qk1 qix qhi bcmp lbB
  simp only [Tree.run,Option.bind_some,eqID]
  cases decide (a=b)<;>rfl
theorem qAg {m : qb} (h : m.L.length ≤ 600) (hF : ∀ k, k < m.L.length → (m.L.getD k zL).F.length ≤ 600) :
    qgY N m m.L ((m.L.length:Nat):Int) 0=some (if allN (qgC m.L) m.L.length then .inr (((m.L.length:Nat):Int),false) else .inl ()):=by
  refine zm (B:=qbS N m m.L ((m.L.length:Nat):Int)) (g:=some) (q:=qgC m.L) (fun k hk=>?_) ?_ (by have:=big N; omega)
  · unfold qbS
    have h64:in64 ((k + 1:Nat):Int):=qvr (by omega)
    simp only [Tree.run,dec_lt hk,cond_true,getI_D (d:=zL) hk,Option.bind_some,int_succ,qa h64,qzB (hF k hk),qlt]
    unfold qgC
    cases qg_ (m.L.getD k zL) with
    | false=>rfl
    | true=>
      by_cases h0:k=0
      · subst h0; rfl
      · have hp:in64 ((k - 1:Nat):Int):=by unfold in64; omega
        have hk1:k - 1 < m.L.length:=by omega
        simp only [decide_eq_false h0,Bool.not_true,Bool.not_false,cond_true,cond_false,qa hp,qhF (Nat.pos_of_ne_zero h0),getI_D (d:=zL) hk1,Option.bind_some,Bool.false_or,Bool.true_and,qui]
        cases lbB (m.L.getD (k - 1) zL).ID (m.L.getD k zL).ID<;>rfl
  · unfold qbS
    simp only [Tree.run,dec_nlt (Nat.lt_irrefl _),cond_false]
theorem qAh {m:qb} (h:m.L.length≤600) (hF:∀ k,k < m.L.length→(m.L.getD k zL).F.length≤600):qhc N m=some (mayM m):=by
  unfold qhc qhD mayM
  simp only [Tree.run,qAg h hF,Option.bind_some]
  cases allN (qgC m.L) m.L.length with
  | false=>rfl
  | true=>
    simp only [reduceIte,Tree.run,Bool.true_and]
    congr 1
    rw [decide_eq_decide]; omega
end n
theorem qAx {m:qb}:mayM m=true↔(∀ k,k < m.L.length→qg_ (m.L.getD k zL)=true∧(k=0∨lbB (m.L.getD (k - 1) zL).ID (m.L.getD k zL).ID=true))∧m.L.length≤10:=by
  unfold mayM
  rw [Bool.and_eq_true,decide_eq_true_iff,ZD]
  refine and_congr (forall_congr' fun k=>imp_congr_right fun _=>?_) Iff.rfl
  show (qg_ (m.L.getD k zL)&&(decide (k=0)||lbB (m.L.getD (k - 1) zL).ID (m.L.getD k zL).ID))=true↔_
  rw [Bool.and_eq_true,Bool.or_eq_true,decide_eq_true_iff]
theorem qAw (a:Vector UInt8 16):lbB a a=false:=by unfold lbB; rw [decide_eq_true rfl]; rfl
theorem qAv {x:qd}:qg_ x=true↔(∀ k,k < x.F.length→entQ x.F x.Dead k=true)∧stB x.Dead=true∧(0 < x.F.length∨x.Dead≠zSt):=by
  unfold qg_
  rw [Bool.and_eq_true,Bool.and_eq_true,Bool.or_eq_true,ZD,decide_eq_true_iff,Bool.not_eq_true',decide_eq_false_iff_not]
end Go.Rx
end
set_option maxRecDepth 100000
noncomputable section
namespace Go.Rx
abbrev c32 (x:UInt32):Int:=((x.toNat:Nat):Int)
theorem lt32 (x:UInt32):x.toNat < 4294967296:=x.toNat_lt
theorem qaY (n:Nat):IntKind.u32.wrap ((n:Nat):Int)=((n % 4294967296:Nat):Int):=by rw [IntKind.wrap_u32']; omega
theorem qgi (x:UInt32):BitVec.ofInt 32 (c32 x)=x.toBitVec:=by
  apply BitVec.eq_of_toNat_eq
  rw [ofInt_u32 _ (lt32 x)]
  rfl
theorem qri (x:UInt32):IntKind.u32.wrap ((x.toNat:Nat):Int)=c32 x:=by rw [qaY,Nat.mod_eq_of_lt (lt32 x)]
theorem qbf (x y:UInt32):uAdd .u32 (c32 x) (c32 y)=c32 (x + y):=by
  unfold uAdd
  show IntKind.u32.wrap (((x.toNat:Nat):Int) + ((y.toNat:Nat):Int))=_
  rw [← Int.natCast_add,qaY,c32,UInt32.toNat_add]
theorem qfz (x y:UInt32):uXor .u32 (c32 x) (c32 y)=c32 (x ^^^ y):=by
  unfold uXor
  rw [show IntKind.u32.bits=32 from rfl,qgi,qgi]
  exact qri (x ^^^ y)
theorem qnb (x y:UInt32):uAnd .u32 (c32 x) (c32 y)=c32 (x &&& y):=by
  unfold uAnd
  rw [show IntKind.u32.bits=32 from rfl,qgi,qgi]
  exact qri (x &&& y)
theorem or32 (x y:UInt32):uOr .u32 (c32 x) (c32 y)=c32 (x ||| y):=by
  unfold uOr
  rw [show IntKind.u32.bits=32 from rfl,qgi,qgi]
  exact qri (x ||| y)
theorem qAl (x:UInt32):uXor .u32 4294967295 (c32 x)=c32 (~~~x):=by
  have h:(4294967295:Int)=c32 4294967295:=rfl
  rw [h,qfz]
  congr 2
theorem qzb (x:UInt32):uSub .u32 4294967295 (c32 x)=c32 (~~~x):=by
  unfold uSub
  have h:=lt32 x
  show IntKind.u32.wrap ((4294967295:Int) - ((x.toNat:Nat):Int))=_
  rw [show (4294967295:Int) - ((x.toNat:Nat):Int)=((4294967295 - x.toNat:Nat):Int) by omega,qaY,Nat.mod_eq_of_lt (by omega),c32]
  congr 1
  rw [UInt32.toNat_not]
  rfl
theorem qpN (x:UInt32) (n:Nat) (h:n < 32):uShl .u32 (c32 x) n=c32 (x <<< UInt32.ofNat n):=by
  unfold uShl
  rw [show c32 x * 2 ^ n=((x.toNat * 2 ^ n:Nat):Int) by push_cast; rfl,qaY,c32,UInt32.toNat_shiftLeft,UInt32.toNat_ofNat_of_lt' (show n < UInt32.size by unfold UInt32.size; omega),Nat.mod_eq_of_lt h,Nat.shiftLeft_eq]
theorem qni (x:UInt32) (n:Nat) (h:n < 32):uShr (c32 x) n=c32 (x >>> UInt32.ofNat n):=by
  unfold uShr
  rw [show ((2:Int) ^ n)=((2 ^ n:Nat):Int) by push_cast; rfl,Int.fdiv_eq_ediv_of_nonneg _ (Int.natCast_nonneg _),c32,← Int.natCast_ediv,c32,UInt32.toNat_shiftRight,UInt32.toNat_ofNat_of_lt' (show n < UInt32.size by unfold UInt32.size; omega),Nat.mod_eq_of_lt h,Nat.shiftRight_eq_div_pow]
theorem of32 (x:UInt32):UInt32.ofNat (c32 x).toNat=x:=by rw [Int.toNat_natCast]; exact UInt32.ofNat_toNat
theorem qtJ (x:UInt32):inW (c32 x):=⟨Int.natCast_nonneg _,by have:=lt32 x; show ((x.toNat:Nat):Int) < _; omega⟩
def rot (x:UInt32) (n:Nat):UInt32:=(x <<< UInt32.ofNat (32 - n)) ||| (x >>> UInt32.ofNat n)
end Go.Rx
end
set_option maxRecDepth 100000
noncomputable section
namespace Go.Rx
open Go.Proofs
theorem qAd:∀ n < 32,0 < n→uAnd .u64 (IntKind.u64.wrap (0 - ((n:Nat):Int))) 31=((32 - n:Nat):Int):=by decide +kernel
theorem qzr:∀ n < 32,0 < n→uSub .u64 (32:Int) ((32 - n:Nat):Int)=((n:Nat):Int):=by decide +kernel
theorem qjj (x:UInt32) (n:Nat) (h:n < 32) (h0:0 < n):qE (c32 x) ((n:Nat):Int)=some (c32 (rot x n)):=by
  unfold qE qky qbP qa7
  have h64:in64 (0 - ((n:Nat):Int)):=by unfold in64; omega
  simp only [run_bind,qg,ql,qa h64,qAd n h h0,qzr n h h0]
  rw [qa (show (0:Int)≤((32 - n:Nat):Int) by omega),qa (show (0:Int)≤((n:Nat):Int) by omega),Int.toNat_natCast,Int.toNat_natCast,Nat.min_eq_left (show 32 - n≤32 by omega),Nat.min_eq_left (show n≤32 by omega),qpN x _ (by omega),qni x n h,or32]
  rfl
abbrev wAt {n:Nat} (v:Vector UInt32 n) (k:Nat):UInt32:=v.toList.getD k 0
abbrev bAt (l:List UInt8) (k:Nat):UInt32:=(l.getD k 0).toUInt32
def schF (b:List UInt8) (k:Nat) (w:Vector UInt32 64):Vector UInt32 64:=
  if k < 16 then w.setIfInBounds k ((bAt b (4 * k) <<< UInt32.ofNat 24) ||| (bAt b (4 * k + 1) <<< UInt32.ofNat 16) ||| (bAt b (4 * k + 2) <<< UInt32.ofNat 8) ||| bAt b (4 * k + 3))
  else w.setIfInBounds k (wAt w (k - 16) + wAt w (k - 7) + (rot (wAt w (k - 15)) 7 ^^^ rot (wAt w (k - 15)) 18 ^^^ (wAt w (k - 15) >>> UInt32.ofNat 3)) + (rot (wAt w (k - 2)) 17 ^^^ rot (wAt w (k - 2)) 19 ^^^ (wAt w (k - 2) >>> UInt32.ofNat 10)))
def schS (b:List UInt8):Vector UInt32 64:=qy (schF b) 64 0 (Vector.replicate 64 0)
theorem qpA (c:UInt8):IntKind.u32.wrap ((c.toNat:Nat):Int)=c32 c.toUInt32:=by
  rw [qaY,Nat.mod_eq_of_lt (by have:=c.toNat_lt; omega),c32,UInt8.toNat_toUInt32]
theorem qz2 {N:Nat} {o:Vector UInt32 64} {b:List UInt8} {w:Vector UInt32 64} {k:Nat} (hb:b.length=64) (hk:k < 16):(Qd N o b (w,(k:Int))).run some=some (.inl (schF b k w,((k + 1:Nat):Int))):=by
  have g:∀ j < 4,getI b ((4:Int) * (k:Int) + ((j:Nat):Int))=some (b.getD (4 * k + j) 0):=fun j hj=>by
    rw [show (4:Int) * (k:Int) + ((j:Nat):Int)=((4 * k + j:Nat):Int) by omega]; exact getI_D (by omega)
  have g0:getI b ((4:Int) * (k:Int))=some (b.getD (4 * k) 0):=by have:=g 0 (by omega); simpa using this
  have g1:getI b ((4:Int) * (k:Int) + 1)=some (b.getD (4 * k + 1) 0):=g 1 (by omega)
  have g2:getI b ((4:Int) * (k:Int) + 2)=some (b.getD (4 * k + 2) 0):=g 2 (by omega)
  have g3:getI b ((4:Int) * (k:Int) + 3)=some (b.getD (4 * k + 3) 0):=g 3 (by omega)
  have c0:in64 ((4:Int) * (k:Int)):=by unfold in64; omega
  have c1:in64 ((4:Int) * (k:Int) + 1):=by unfold in64; omega
  have c2:in64 ((4:Int) * (k:Int) + 2):=by unfold in64; omega
  have c3:in64 ((4:Int) * (k:Int) + 3):=by unfold in64; omega
  have c4:in64 ((k:Int) + 1):=by unfold in64; omega
  have d1:decide ((k:Int) < 64)=true:=decide_eq_true (by omega)
  have d2:decide ((k:Int) < 16)=true:=decide_eq_true (by omega)
  have p8:(0:Int)≤8:=by omega
  have p16:(0:Int)≤16:=by omega
  have p24:(0:Int)≤24:=by omega
  have pk:(0:Int)≤(k:Int)∧(k:Int) < ((64:Nat):Int):=by omega
  have pk2:k < 64:=by omega
  unfold Qd schF
  rw [if_pos hk]
  simp only [qj,run_bind,qg,ql,d1,d2,cond_true,qa c0,qa c1,qa c2,qa c3,g0,g1,g2,g3,Option.bind_some,qa p8,qa p16,qa p24,qpA,qpN _ 24 (by omega),qpN _ 16 (by omega),qpN _ 8 (by omega),or32,qa (qtJ _),qa pk,UInt32.ofNat_toNat,Int.toNat_natCast,qa pk2,qa c4]
  rw [int_succ]
theorem qz1 {N:Nat} {o:Vector UInt32 64} {b:List UInt8} {w:Vector UInt32 64} {k:Nat} (h1:¬ k < 16) (hk:k < 64):(Qd N o b (w,(k:Int))).run some=some (.inl (schF b k w,((k + 1:Nat):Int))):=by
  have c4:in64 ((k:Int) + 1):=by unfold in64; omega
  have d1:decide ((k:Int) < 64)=true:=decide_eq_true (by omega)
  have d2:decide ((k:Int) < 16)=false:=decide_eq_false (by omega)
  have e15:(k:Int) - 15=((k - 15:Nat):Int):=by omega
  have e2:(k:Int) - 2=((k - 2:Nat):Int):=by omega
  have e16:(k:Int) - 16=((k - 16:Nat):Int):=by omega
  have e7:(k:Int) - 7=((k - 7:Nat):Int):=by omega
  have i15:in64 (((k - 15:Nat)):Int):=by unfold in64; omega
  have i2:in64 (((k - 2:Nat)):Int):=by unfold in64; omega
  have i16:in64 (((k - 16:Nat)):Int):=by unfold in64; omega
  have i7:in64 (((k - 7:Nat)):Int):=by unfold in64; omega
  have p15:(0:Int)≤((k - 15:Nat):Int)∧((k - 15:Nat):Int) < ((64:Nat):Int):=by omega
  have p2:(0:Int)≤((k - 2:Nat):Int)∧((k - 2:Nat):Int) < ((64:Nat):Int):=by omega
  have p16:(0:Int)≤((k - 16:Nat):Int)∧((k - 16:Nat):Int) < ((64:Nat):Int):=by omega
  have p7:(0:Int)≤((k - 7:Nat):Int)∧((k - 7:Nat):Int) < ((64:Nat):Int):=by omega
  have q15:k - 15 < 64:=by omega
  have q2:k - 2 < 64:=by omega
  have q16:k - 16 < 64:=by omega
  have q7:k - 7 < 64:=by omega
  have p3:(0:Int)≤3:=by omega
  have p10:(0:Int)≤10:=by omega
  have pk:(0:Int)≤(k:Int)∧(k:Int) < ((64:Nat):Int):=by omega
  have r7:=fun x=>qjj x 7 (by omega) (by omega)
  have r18:=fun x=>qjj x 18 (by omega) (by omega)
  have r17:=fun x=>qjj x 17 (by omega) (by omega)
  have r19:=fun x=>qjj x 19 (by omega) (by omega)
  unfold Qd schF
  rw [if_neg h1]
  simp only [qj,run_bind,qg,ql,d1,d2,cond_true,cond_false]
  rw [e15,e2,e16,e7]
  rw [qa i15,qa p15,Int.toNat_natCast,qa q15,qa i2,qa p2,Int.toNat_natCast,qa q2,qa i16,qa p16,Int.toNat_natCast,qa q16,qa i7,qa p7,Int.toNat_natCast,qa q7]
  show (Option.bind (qE (c32 (wAt w (k - 15))) ((7:Nat):Int)) _)=_
  rw [r7,Option.bind_some]
  show (Option.bind (qE (c32 (wAt w (k - 15))) ((18:Nat):Int)) _)=_
  rw [r18,Option.bind_some,qa p3]
  show (Option.bind (qE (c32 (wAt w (k - 2))) ((17:Nat):Int)) _)=_
  rw [r17,Option.bind_some]
  show (Option.bind (qE (c32 (wAt w (k - 2))) ((19:Nat):Int)) _)=_
  rw [r19,Option.bind_some,qa p10,qa pk]
  simp only [qfz,qbf,qni _ 3 (by omega),qni _ 10 (by omega),qa (qtJ _),Int.toNat_natCast,UInt32.ofNat_toNat,qa hk,qa c4]
  rw [int_succ]
theorem qxi {N:Nat} {b:List UInt8} (hN:64 < N) (hb:b.length=64):qgZ N b=some (schS b):=by
  have key:qgB N (Vector.replicate 64 0) b (Vector.replicate 64 0) 0=some (schS b,(64:Int),false):=by
    refine (qz (σ:=Vector UInt32 64) (B:=Qd N (Vector.replicate 64 0) b) (g:=some) (at_:=fun k s=>(s,(k:Int))) (I:=fun _ _=>True) (f:=schF b) (n:=64)
      (fin:=fun s=>(s,(64:Int),false)) (fun k s hk _=>⟨?_,trivial⟩) (fun s _=>?_) N 0 (Vector.replicate 64 0) trivial (Nat.zero_le _) (by omega))
    · by_cases h:k < 16
      · exact qz2 hb h
      · exact qz1 h hk
    · unfold Qd
      rfl
  unfold qgZ qhE
  rw [run_bind,key,Option.bind_some,ql]
def tW (K w:Vector UInt32 64) (i:Nat) (x:Vector UInt32 8):UInt32:=wAt x 7 + (rot (wAt x 4) 6 ^^^ rot (wAt x 4) 11 ^^^ rot (wAt x 4) 25) + ((wAt x 4 &&& wAt x 5) ^^^ (~~~(wAt x 4) &&& wAt x 6)) + wAt K i + wAt w i
def uW (x:Vector UInt32 8):UInt32:=(rot (wAt x 0) 2 ^^^ rot (wAt x 0) 13 ^^^ rot (wAt x 0) 22) + ((wAt x 0 &&& wAt x 1) ^^^ (wAt x 0 &&& wAt x 2) ^^^ (wAt x 1 &&& wAt x 2))
def rndF (K w:Vector UInt32 64) (i:Nat) (x:Vector UInt32 8):Vector UInt32 8:=
  ((shiftV x 1 7).setIfInBounds 0 (tW K w i x + uW x)).setIfInBounds 4 (wAt ((shiftV x 1 7).setIfInBounds 0 (tW K w i x + uW x)) 4 + tW K w i x)
def addF (x:Vector UInt32 8) (k:Nat) (s:Vector UInt32 8):Vector UInt32 8:=s.setIfInBounds k (wAt s k + wAt x k)
def qmP (s:Vector UInt32 8) (K:Vector UInt32 64) (b:List UInt8):Vector UInt32 8:=qy (addF (qy (rndF K (schS b)) 64 0 s)) 8 0 s
theorem qz9 {N:Nat} {s:Vector UInt32 8} {K w:Vector UInt32 64} {x:Vector UInt32 8} {k:Nat} (hk:k < 64):(ZA N s K w (x,(k:Int))).run some=some (.inl (rndF K w k x,((k + 1:Nat):Int))):=by
  have c4:in64 ((k:Int) + 1):=by unfold in64; omega
  have d1:decide ((k:Int) < 64)=true:=decide_eq_true (by omega)
  have pk:(0:Int)≤(k:Int)∧(k:Int) < ((64:Nat):Int):=by omega
  have hj:∀ j < 8,(0:Int)≤((j:Nat):Int)∧((j:Nat):Int) < ((8:Nat):Int):=fun j hj=>by omega
  have j0:(0:Int)≤(0:Int)∧(0:Int) < ((8:Nat):Int):=hj 0 (by omega)
  have j1:(0:Int)≤(1:Int)∧(1:Int) < ((8:Nat):Int):=hj 1 (by omega)
  have j2:(0:Int)≤(2:Int)∧(2:Int) < ((8:Nat):Int):=hj 2 (by omega)
  have j4:(0:Int)≤(4:Int)∧(4:Int) < ((8:Nat):Int):=hj 4 (by omega)
  have j5:(0:Int)≤(5:Int)∧(5:Int) < ((8:Nat):Int):=hj 5 (by omega)
  have j6:(0:Int)≤(6:Int)∧(6:Int) < ((8:Nat):Int):=hj 6 (by omega)
  have j7:(0:Int)≤(7:Int)∧(7:Int) < ((8:Nat):Int):=hj 7 (by omega)
  have n0:0 < 8:=by omega
  have n1:1 < 8:=by omega
  have n2:2 < 8:=by omega
  have n4:4 < 8:=by omega
  have n5:5 < 8:=by omega
  have n6:6 < 8:=by omega
  have n7:7 < 8:=by omega
  have r:=fun x n h h0=>qjj x n h h0
  unfold ZA rndF tW uW
  rw [qj,d1,cond_true]
  simp only [run_bind,qg,ql]
  rw [qa j0,qa n0,qa j4,qa n4,qa j7,qa n7]
  show (Option.bind (qE (c32 (wAt x 4)) ((6:Nat):Int)) _)=_
  rw [r _ 6 (by omega) (by omega),Option.bind_some]
  show (Option.bind (qE (c32 (wAt x 4)) ((11:Nat):Int)) _)=_
  rw [r _ 11 (by omega) (by omega),Option.bind_some]
  show (Option.bind (qE (c32 (wAt x 4)) ((25:Nat):Int)) _)=_
  rw [r _ 25 (by omega) (by omega),Option.bind_some,qa j5,qa n5,qa j6,qa n6,qa pk,Int.toNat_natCast,qa hk]
  rw [qa pk,qa hk]
  show (Option.bind (qE (c32 (wAt x 0)) ((2:Nat):Int)) _)=_
  rw [r _ 2 (by omega) (by omega),Option.bind_some]
  show (Option.bind (qE (c32 (wAt x 0)) ((13:Nat):Int)) _)=_
  rw [r _ 13 (by omega) (by omega),Option.bind_some]
  show (Option.bind (qE (c32 (wAt x 0)) ((22:Nat):Int)) _)=_
  rw [r _ 22 (by omega) (by omega),Option.bind_some]
  rw [qa j1,qa n1,qa j2,qa n2,qa j1,qa n1,qa j2,qa n2,qa j0]
  simp only [qfz,qnb,qAl,qbf,qa (qtJ _),Int.toNat_natCast,UInt32.ofNat_toNat,qa n0,qa j4,qa n4,qa c4]
  rw [int_succ]
theorem qve {N:Nat} {s:Vector UInt32 8} {K:Vector UInt32 64} {b:List UInt8} (hN:64 < N) (hb:b.length=64):qb8 N s K b=some (qmP s K b):=by
  have k1:qeN N s K (schS b) s 0=some (qy (rndF K (schS b)) 64 0 s,(64:Int),false):=by
    refine (qz (σ:=Vector UInt32 8) (B:=ZA N s K (schS b)) (g:=some) (at_:=fun k s=>(s,(k:Int))) (I:=fun _ _=>True) (f:=rndF K (schS b)) (n:=64)
      (fin:=fun s=>(s,(64:Int),false)) (fun k x hk _=>⟨qz9 hk,trivial⟩) (fun x _=>?_) N 0 s trivial (Nat.zero_le _) (by omega))
    unfold ZA
    rfl
  have k2:∀ x:Vector UInt32 8,qd4 N K x s 0=some (qy (addF x) 8 0 s,(8:Int),false):=fun x=>by
    refine (qz (σ:=Vector UInt32 8) (B:=qaN N K x) (g:=some) (at_:=fun k s=>(s,(k:Int))) (I:=fun _ _=>True) (f:=addF x) (n:=8)
      (fin:=fun s=>(s,(8:Int),false)) (fun k y hk _=>⟨?_,trivial⟩) (fun y _=>?_) N 0 s trivial (Nat.zero_le _) (by omega))
    · have c4:in64 ((k:Int) + 1):=by unfold in64; omega
      have d1:decide ((k:Int) < 8)=true:=decide_eq_true (by omega)
      have pk:(0:Int)≤(k:Int)∧(k:Int) < ((8:Nat):Int):=by omega
      unfold qaN addF
      simp only [qj,run_bind,qg,ql,d1,cond_true]
      rw [qa pk,Int.toNat_natCast,qa hk,qa pk,qa hk,qa pk]
      simp only [qbf,qa (qtJ _),Int.toNat_natCast,UInt32.ofNat_toNat,qa hk,qa c4]
      rw [int_succ]
    · unfold qaN
      rfl
  unfold qb8 qfC
  rw [run_bind,qxi hN hb,Option.bind_some,run_bind,k1,Option.bind_some,run_bind,k2,Option.bind_some,ql]
  rfl
end Go.Rx
end
