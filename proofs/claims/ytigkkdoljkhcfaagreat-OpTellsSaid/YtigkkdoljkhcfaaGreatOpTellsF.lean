/- A part of the proof of OpTells: the law returns true for every input, and its arguments read as before. No condition. -/
import Derived.Test.YtigkkdoljkhcfaaGreatProg
import Derived.Laws.BitsAllLaws
import Derived.Test.YtigkkdoljkhcfaaGreatComE
set_option linter.unusedSimpArgs false
set_option linter.unusedVariables false
set_option linter.unusedSectionVars false
noncomputable section
namespace Go.Rx
theorem Ww {α R:Type} (n:α→Option R):∀ t:Tree α,t.run n=(t.run some).bind n
 | .ret a=>rfl
 | .no=>rfl
 | .cond b s t=>by
  simp only [Tree.run]
  cases b
  ·exact Ww n t
  ·exact Ww n s
 | @Tree.chk _ p d t=>by
  simp only [Tree.run,chk]
  split
  ·exact Ww n t
  ·rfl
 | .bind o k=>by
  simp only [Tree.run]
  cases o with
  | none=>rfl
  | some x=>exact Ww n (k x)
 | .opt o s k=>by
  simp only [Tree.run]
  cases o with
  | none=>exact Ww n s
  | some x=>exact Ww n (k x)
 | .sum x f g=>by
  cases x with
  | inl a=>exact Ww n (f a)
  | inr b=>exact Ww n (g b)
section r
variable {α R:Type} {n:α→Option R}
theorem qcg {a:α}:(Tree.ret a).run n=n a:=rfl
theorem qcf {b:Bool} {s t:Tree α}:(Tree.cond b s t).run n=bif b then s.run n else t.run n:=rfl
theorem Qp {p:Prop} [Decidable p] {t:Tree α}:(Tree.chk p t).run n=chk p (t.run n):=rfl
theorem run_bind {β:Type} {o:Option β} {k:β→Tree α}:(Tree.bind o k).run n=o.bind fun x=>(k x).run n:=rfl
end r
theorem qfN {V W Y:Type} {B:V→Tree (V⊕W)} {g:W→Option Y} {v v':V} (h:(B v).run some=some (.inl v')) (N:Nat):zj B g (N + 1) v=zj B g N v':=by
 simp only [zj]
 rw [Ww,h]; rfl
theorem qa8 {V W Y:Type} {B:V→Tree (V⊕W)} {g:W→Option Y} {v:V} {x:W} (h:(B v).run some=some (.inr x)) (N:Nat):zj B g (N + 1) v=g x:=by
 simp only [zj]
 rw [Ww,h]; rfl
theorem qcj {V W Y : Type} {B : V → Tree (V ⊕ W)} {g : W → Option Y} {I : V → Prop} {Q : Y → Prop} (m : V → Nat)
    (h:∀ v,I v→(∃ v',(B v).run some=some (.inl v')∧I v'∧m v' < m v)∨∃ x y,(B v).run some=some (.inr x)∧g x=some y∧Q y) :
    ∀ (N:Nat) (v:V),I v→m v < N→∃ y,zj B g N v=some y∧Q y
 | 0,v,_,hm=>by omega
 | N + 1,v,hi,hm=>by
  rcases h v hi with ⟨v',h1,h2,h3⟩ | ⟨x,y,h1,h2,h3⟩
  ·rw [qfN h1]
   exact qcj m h N v' h2 (by omega)
  ·rw [qa8 h1]
   exact ⟨y,h2,h3⟩
theorem qr3 {W Y : Type} {B : Int → Tree (Int ⊕ W)} {g : W → Option Y} {p : Nat → Bool} {n : Nat} {hit : Nat → W} {fin : W}
    (h1:∀ k,k < n→(B (k:Int)).run some=some (if p k then .inr (hit k) else .inl ((k + 1:Nat):Int))) (h2:(B (n:Int)).run some=some (.inr fin)) :
    ∀ (N k:Nat),k≤n→n < N + k→zj B g N (k:Int)=g (match YW p (n - k) k with | some j=>hit j | none=>fin)
 | 0,k,hk,hN=>by omega
 | N + 1,k,hk,hN=>by
  by_cases e:k=n
  ·subst e
   rw [qa8 h2,Nat.sub_self]; rfl
  ·obtain ⟨m,hm⟩:∃ m,n - k=m + 1:=⟨n - k - 1,by omega⟩
   have h3:=h1 k (by omega)
   rw [hm]
   unfold YW
   cases hp:p k with
   | true=>
    rw [hp,if_pos rfl] at h3
    rw [qa8 h3,if_pos rfl]
   | false=>
    rw [hp,if_neg (by simp)] at h3
    rw [qfN h3,qr3 h1 h2 N (k + 1) (by omega) (by omega),if_neg (by simp),show n - (k + 1)=m by omega]
def qEi {σ:Type} (f:Nat→σ→σ):Nat→Nat→σ→σ
 | 0,_,s=>s
 | m + 1,k,s=>qEi f m (k + 1) (f k s)
theorem ZX {σ W Y : Type} {V : Type} {B : V → Tree (V ⊕ W)} {g : W → Option Y} {at_ : Nat → σ → V} {I : Nat → σ → Prop} {f : Nat → σ → σ} {n : Nat} {fin : σ → W}
    (h1:∀ k s,k < n→I k s→(B (at_ k s)).run some=some (.inl (at_ (k + 1) (f k s)))∧I (k + 1) (f k s)) (h2:∀ s,I n s→(B (at_ n s)).run some=some (.inr (fin s))) :
    ∀ (N k:Nat) (s:σ),I k s→k≤n→n < N + k→zj B g N (at_ k s)=g (fin (qEi f (n - k) k s))
 | 0,k,s,_,hk,hN=>by omega
 | N + 1,k,s,hi,hk,hN=>by
  by_cases e:k=n
  ·subst e
   rw [qa8 (h2 s hi),Nat.sub_self]; rfl
  ·obtain ⟨m,hm⟩:∃ m,n - k=m + 1:=⟨n - k - 1,by omega⟩
   obtain ⟨h3,h4⟩:=h1 k s (by omega) hi
   rw [qfN h3,ZX h1 h2 N (k + 1) _ h4 (by omega) (by omega),hm,show n - (k + 1)=m by omega]
   rfl
theorem qAe {α:Type} {l:List α} {k n:Nat} {d:α} (hn:l.length=n) (h:k < l.length):qe7 l n k=some (l.getD k d):=by
 unfold qe7; rw [if_pos hn,List.getElem?_eq_getElem h]; simp [List.getD,List.getElem?_eq_getElem h]
theorem zJ {α:Type} {p:Prop} [Decidable p] {x:Option α} (h:p):chk p x=x:=if_pos h
theorem YQ {Z:Type} (o:Option Z):jh [] o=o:=rfl
theorem Vf {Z:Type} {a b:Nat} {ps:List (Nat×Nat)} {o:Option Z} (h:a=b):jh ((a,b)::ps) o=jh ps o:=if_pos h
end Go.Rx
end
noncomputable section
namespace Go.Rx
section
variable {α R:Type} {n:α→Option R} {y:Option R}
theorem qi {a:α} (h:n a=y):(Tree.ret a).run n=y:=h
theorem qk {p:Prop} [Decidable p] {t:Tree α} (h:p) (ht:t.run n=y):(Tree.chk p t).run n=y:=(zJ h).trans ht
theorem qe {β:Type} {o:Option β} {k:β→Tree α} {x:β} (h:o=some x) (ht:(k x).run n=y):(Tree.bind o k).run n=y:=by subst h; exact ht
theorem w_t {b:Bool} {s t:Tree α} (h:b=true) (hs:s.run n=y):(Tree.cond b s t).run n=y:=by subst h; exact hs
theorem w_f {b:Bool} {s t:Tree α} (h:b=false) (ht:t.run n=y):(Tree.cond b s t).run n=y:=by subst h; exact ht
theorem w_l {β γ:Type} {z:β⊕γ} {f:β→Tree α} {g:γ→Tree α} {x:β} (h:z=.inl x) (hk:(f x).run n=y):(Tree.sum z f g).run n=y:=by subst h; exact hk
theorem w_r {β γ:Type} {z:β⊕γ} {f:β→Tree α} {g:γ→Tree α} {x:γ} (h:z=.inr x) (hk:(g x).run n=y):(Tree.sum z f g).run n=y:=by subst h; exact hk
theorem zl {b:Bool} {s t:Tree α} {c:Bool} (h:b=c) (hs:c=true→s.run n=y) (ht:c=false→t.run n=y):(Tree.cond b s t).run n=y:=by
 subst h; cases b
 ·exact ht rfl
 ·exact hs rfl
end
theorem jY {k:Nat} (h:k≤4611686018427387904):qf ((k:Int) + 1):=by unfold qf; omega
end Go.Rx
end
noncomputable section
namespace Go.Rx
variable {α β γ:Type} [CT]
theorem qE5 {live:List Nat} {σ σ':St} (h:gc live σ=some σ'):jf σ σ':=by
 refine ⟨?_,fun a w hf=>qoZ h hf⟩
 unfold gc at h
 simp only at h
 split at h
 ·simp only [Option.some.injEq] at h
  rw [← h]
 ·simp at h
def qEj (live:List Nat) (e:Ex) (σ:TSt):Tree (Ex×St):=match e with
 | .normal=>match tgc live σ with
  | some σ'=>.ret (.normal,σ'.er)
  | none=>.no
 | e=>.ret (e,σ.er)
def qbP (P:Program) (H:TH) (K:FuncId) (b:Code) (s:qy):Prop:=∀ σ rs,s σ=some rs→∀ y,rs.o=some y→∀ (α:Type) (k:Ex×TSt→Tree α) (z:α),(rs.cse α k y).Has z→∃ x,jE P H.hn (Valid P) K b σ.er x.1 x.2.er∧(k x).Has z
def isK (key:Nat) (b:Code):Bool:=Nat.beq (quM b) key
def X7 (c:Code) (key:Nat):Code:=match (qby c).filter (isK key) with
 | [b]=>b
 | _=>.skip
def qzx (c:Code) (key:Nat):Bool:=match (qby c).filter (isK key) with
 | [_]=>true
 | _=>false
def qyx (P:Program) (H:TH) (K:FuncId) (c:Code):List (Nat×qy)→Prop
 | []=>True
 | e::r=>(qzx c e.1=true∧qbP P H K (X7 c e.1) e.2)∧qyx P H K c r
def Vb (l j:List (Nat×qy)):Wa:=fun key σ=>match Nat.ble 1000000 key with
 | true=>qP j key σ
 | false=>qP l key σ
theorem qC8 {c b:Code} {key:Nat} (h1:qzx c key=true) (hb:b∈qby c) (hk:quM b=key):X7 c key=b:=by
 have hm:b∈(qby c).filter (isK key):=List.mem_filter.2 ⟨hb,by unfold isK; rw [hk]; exact Nat.beq_refl _⟩
 unfold qzx at h1
 unfold X7
 generalize (qby c).filter (isK key)=q at *
 split at h1
 ·rename_i x e
  exact (List.mem_singleton.1 hm).symm
 ·cases h1
theorem qiO {P:Program} {H:TH} {K:FuncId} {c:Code}:∀ {l:List (Nat×qy)} {key:Nat} {σ:TSt} {rs:Rs' (Ex×TSt)},qyx P H K c l→qP l key σ=some rs→∃ s,(qzx c key=true∧qbP P H K (X7 c key) s)∧s σ=some rs
 | [],_,_,_,_,h=>by simp [qP] at h
 | (j,s)::r,key,σ,rs,ha,h=>by
  simp only [qP] at h
  split at h
  ·rename_i hj
   have:=Nat.eq_of_beq_eq_true hj
   subst this
   split at h
   ·rename_i rs' hs
    simp only [Option.some.injEq] at h
    subst h
    exact ⟨s,ha.1,hs⟩
   ·exact qiO ha.2 h
  ·exact qiO ha.2 h
theorem Zy {P:Program} {H:TH} {K:FuncId} {c:Code} {l j:List (Nat×qy)} (ha:qyx P H K c j):Wo P H (Vb l j) K c:=by
 intro b hb _ σ rs hs y hy α k z hz
 unfold Vb at hs
 rw [Nat.ble_eq_true_of_le (W9 c hb)] at hs
 obtain ⟨s,⟨h1,h2⟩,h3⟩:=qiO ha hs
 rw [qC8 h1 hb rfl] at h2
 exact h2 σ rs h3 y hy α k z hz
theorem ZA {P:Program} {H:TH} {K:FuncId} {c:Code} {l j:List (Nat×qy)} (hd:(XC ((outer c).map qX)&&(outer c).all fun b=>Nat.blt (qX b) 1000000)=true) (ha:qtN P H K c l):∀ b∈outer c,Yi P H (Vb l j) K b:=by
 intro b hb σ rs hs y hy α k z hz
 rw [Bool.and_eq_true] at hd
 have hlt:=Nat.lt_of_lt_of_le (Nat.le_of_ble_eq_true (List.all_eq_true.1 hd.2 b hb)) (Nat.le_refl _)
 unfold Vb at hs
 have:Nat.ble 1000000 (qX b)=false:=by
  cases e:Nat.ble 1000000 (qX b) with
  | false=>rfl
  | true=>have:=Nat.le_of_ble_eq_true e; omega
 rw [this] at hs
 exact qz hd.1 ha b hb σ rs hs y hy α k z hz
def smC (p:SP) (ts:List Ty) (Z:Type) (F:Xs ts→Option Z) (c:CS Z) (out:Xs ts→Z→Ex×TSt):qy:=fun σ=>match mtS p σ with
 | some (ds,ls)=>match qk2 ts ds with
  | some x=>some ⟨Z,jh ls (F x),fun α k z=>c.cs α (fun z=>k (out x z)) z⟩
  | none=>none
 | none=>none
theorem Yr {P : Program} {H : TH} {K : FuncId} {b : Code} {p : SP} {ts : List Ty} {Z : Type} {F : Xs ts → Option Z} {c : CS Z} {out : Xs ts → Z → Ex × TSt}
    (hv:∀ x z,F x=some z→jE P H.hn (Valid P) K b (zw p (dsX ts x)).er (out x z).1 (out x z).2.er):qbP P H K b (smC p ts Z F c out):=by
 intro σ rs hs y hy α k z hz
 unfold smC at hs
 split at hs
 ·rename_i ds ls hm
  split at hs
  ·rename_i x hx
   simp only [Option.some.injEq] at hs
   subst hs
   obtain ⟨hl,hF⟩:=qbs hy
   have:=qmT hx
   subst this
   refine ⟨out x y,?_,c.ok α _ y z hz⟩
   rw [← qAf hm hl]
   exact hv x y hF
  ·simp at hs
 ·simp at hs
def qzY:Code→Bool
 | .cond ..=>true
 | _=>false
theorem qAx {P:Program} {hn:Hint} {C:Zf} {K:FuncId} {c:Code} {σ σ' σ'':St} {e:Ex} (hc:qzY c=true) (h:jE P hn C K c σ e σ') (hw:jf σ' σ''):jE P hn C K c σ e σ'':=by
 cases c with
 | cond x a b=>
  obtain ⟨σ₁,h1,h2⟩:=h
  exact ⟨σ₁,h1,h2.trans hw⟩
 | _=>cases hc
theorem Yo {P : Program} (hm : P.follows .mixedOrders = true) {H : TH} {E : List Ent} {L : Wa} {K : FuncId} {c : Code} (hE : qT P E) (hL : ∀ b ∈ outer c, Yi P H L K b) (hr : zS K c) (hS : Wo P H L K c) (hc : qzY c = true) (live : List Nat)
    {V W:Type} {hd:V→TSt} {st:V→W→Ex×TSt} {B:V→Tree W}
    (hb:∀ v,ZI P H (env E) L K c (hd v) (qEj live)=(B v).map fun w=>((st v w).1,(st v w).2.er)) (v:V) (w:W) (h:(B v).run some=some w) :
    jE P H.hn (Valid P) K c (hd v).er (st v w).1 (st v w).2.er:=by
 obtain ⟨w',h1,h2⟩:=Tree.Zq h
 simp only [Option.some.injEq] at h2
 subst h2
 have h3:=Tree.Xz (g:=fun w=>((st v w).1,(st v w).2.er)) h1
 rw [← hb v] at h3
 obtain ⟨e,σ,h4,h5⟩:=Ji hm (qhc hE) c _ _ _ hL hr hS h3
 cases e with
 | normal=>
  unfold qEj at h5
  simp only at h5
  split at h5
  ·rename_i σ' hg
   have h5:(Ex.normal,σ'.er)=((st v w').1,(st v w').2.er):=h5
   simp only [Prod.mk.injEq] at h5
   rw [← h5.1,← h5.2]
   exact qAx hc h4 (qE5 (qA_ hg))
  ·exact h5.elim
 | _=>
  have h5:(_,σ.er)=((st v w').1,(st v w').2.er):=h5
  simp only [Prod.mk.injEq] at h5
  rw [← h5.1,← h5.2]
  exact h4
end Go.Rx
end
noncomputable section
namespace Go.Rx
def qB:Ty:=.ag [.i .i64,.i .i64]
abbrev qd:=Int×Int
def qd.N (x:qd):Int:=x.1
def qd.Rep (x:qd):Int:=x.2
def qd.mk (x0:Int) (x1:Int):qd:=(x0,x1)
instance qd.dec:DecidableEq qd:=qap qB
def ql:Ty:=.ag [.b,.i .i64,.i .i64,.s]
abbrev qa:=Bool×Int×Int×List UInt8
def qa.zg (x:qa):Bool:=x.1
def qa.zi (x:qa):Int:=x.2.1
def qa.Len (x:qa):Int:=x.2.2.1
def qa.Lit (x:qa):List UInt8:=x.2.2.2
def qa.mk (x0:Bool) (x1:Int) (x2:Int) (x3:List UInt8):qa:=(x0,x1,x2,x3)
instance qa.dec:DecidableEq qa:=qap ql
def qF:Ty:=.ag [.i .i64,.ba 16,qB,.i .i64,.s,.sl 4 ql,.ba 16,.i .i64,.ba 32]
abbrev qb:=Int×Vector UInt8 16×qd×Int×List UInt8×List qa×Vector UInt8 16×Int×Vector UInt8 32
def qb.Kind (x:qb):Int:=x.1
def qb.ID (x:qb):Vector UInt8 16:=x.2.1
def qb.S (x:qb):qd:=x.2.2.1
def qb.No (x:qb):Int:=x.2.2.2.1
def qb.V (x:qb):List UInt8:=x.2.2.2.2.1
def qb.P (x:qb):List qa:=x.2.2.2.2.2.1
def qb.zi (x:qb):Vector UInt8 16:=x.2.2.2.2.2.2.1
def qb.zk (x:qb):Int:=x.2.2.2.2.2.2.2.1
def qb.D (x:qb):Vector UInt8 32:=x.2.2.2.2.2.2.2.2
def qb.mk (x0:Int) (x1:Vector UInt8 16) (x2:qd) (x3:Int) (x4:List UInt8) (x5:List qa) (x6:Vector UInt8 16) (x7:Int) (x8:Vector UInt8 32):qb:=(x0,x1,x2,x3,x4,x5,x6,x7,x8)
instance qb.dec:DecidableEq qb:=qap qF
def zN:Ty:=.ag [.bl,.b]
abbrev qj:=List UInt8×Bool
def qj.b (x:qj):List UInt8:=x.1
def qj.bad (x:qj):Bool:=x.2
def qj.mk (x0:List UInt8) (x1:Bool):qj:=(x0,x1)
instance qj.dec:DecidableEq qj:=qap zN
def qt:Ty:=.ag [.bl,.b]
abbrev qc:=List UInt8×Bool
def qc.b (x:qc):List UInt8:=x.1
def qc.bad (x:qc):Bool:=x.2
def qc.mk (x0:List UInt8) (x1:Bool):qc:=(x0,x1)
instance qc.dec:DecidableEq qc:=qap qt
end Go.Rx
end
set_option maxRecDepth 100000
noncomputable section
namespace Go.Rx
open Go.Proofs
theorem qn:Tryz.prog.follows .mixedOrders=true:=by kernel_rfl
noncomputable instance qGu:CT:=⟨ctF Tryz.prog⟩
def qvB:Ent:=qFz 128
theorem qFa:zb Tryz.prog qvB:=qFh (fn:=Tryz.f128) (by kernel_rfl) (by kernel_rfl) (by kernel_rfl) (by kernel_rfl) (by kernel_rfl)
noncomputable def qA3:Code:=Tryz.f104.body.getD .skip
theorem qla:FnF Tryz.prog 104 Tryz.f104 qA3:=⟨qn,by kernel_rfl,by kernel_rfl,by kernel_rfl⟩
def qtn:TH:={ live:=[(0,[0]),(1,[0,4]),(2,[2]),(3,[2])],vecs:=[5],esc:=true }
def qty (N:Nat):List Ent:=[]
theorem qo_ (N:Nat):qT Tryz.prog (qty N):=trivial
def qjI (a0:List UInt8) (z:Unit):TV×THp:=(.v 100050 (((([]:List UInt8))++a0).length),[(100050,.vec false 1 .bl ((([]:List UInt8))++a0:List UInt8))])
def qjB (a0:List UInt8):Tree (Unit):=
 .chk (List.isEmpty a0=false) <|
 .chk (vq ((([]:List UInt8)).length) 0 (((([]:List UInt8))++a0).length) 1) <|
 .ret ()
def qw9 (a0:List UInt8):Option (Unit):=(qjB a0).run some
def qsU:List (Nat×qy):=[]
theorem qpd:qmy Tryz.prog ⟨104,[],[.x .bl],[],[]⟩ [.bl] (fun x=>qjB x.1) (fun x=>qjI x.1):=
 qhH (H:=qtn) (L:=qP (qsU)) 0 qla (qo_ 0) (qz (by kernel_rfl) trivial) (rg0 (by kernel_rfl)) fun x=>by kernel_rfl
def qqv:TH:={ live:=[(0,[0]),(1,[0,4]),(2,[2]),(3,[2])],vecs:=[5],esc:=true }
def qqa (N:Nat):List Ent:=[]
theorem qm3 (N:Nat):qT Tryz.prog (qqa N):=trivial
def qpT (z:Unit):TV×THp:=(.v 100050 0,[(100050,.vec false 1 .bl ([]:List UInt8))])
def qfA:Tree (Unit):=
 .chk (0=0) <|
 .ret ()
def qsW:Option (Unit):=(qfA).run some
def qqm:List (Nat×qy):=[]
theorem qm9:qmy Tryz.prog ⟨104,[],[.k (.es 0)],[],[]⟩ [] (fun x=>qfA) (fun _=>qpT):=
 qhH (H:=qqv) (L:=qP (qqm)) 0 qla (qm3 0) (qz (by kernel_rfl) trivial) (rg0 (by kernel_rfl)) fun x=>by kernel_rfl
def qqy:TH:={ live:=[(0,[0]),(1,[0,4]),(2,[2]),(3,[2])],vecs:=[5],esc:=true }
def qqn (N:Nat):List Ent:=[]
theorem qm6 (N:Nat):qT Tryz.prog (qqn N):=trivial
def qqd (z:Unit):TV×THp:=(.nils,[])
def qfx:Tree (Unit):=
 .ret ()
def qtx:Option (Unit):=(qfx).run some
def qqH:List (Nat×qy):=[]
theorem qm2:qmy Tryz.prog ⟨104,[],[.k (.es 1)],[],[]⟩ [] (fun x=>qfx) (fun _=>qqd):=
 qhH (H:=qqy) (L:=qP (qqH)) 0 qla (qm6 0) (qz (by kernel_rfl) trivial) (rg0 (by kernel_rfl)) fun x=>by kernel_rfl
def qfI (z:Unit):Unit:=()
def qpS (z:Unit):Unit:=()
def qbY (a0:List UInt8):Option (Unit):=
 bif a0.isEmpty then
  (qsW).bind fun z0=>(qtx).bind fun z1=>chk (qfI z0=qpS z1) (some (qfI z0))
 else qw9 a0
def qg6:Ent:=smF ⟨104,[],[.x .bl],[],[]⟩ [.bl] (Unit) (fun x=>qbY x.1) cs1 fun x=>qjI x.1
theorem qqA:zb Tryz.prog (qg6):=qkn fun x z h l=>by
 obtain ⟨a0,_⟩:=x
 replace h:qbY a0=some z:=h
 unfold qbY at h
 rcases qr7 h with ⟨e,h2⟩ | ⟨_,h2⟩<;>clear h
 ·have e:=List.isEmpty_iff.1 e
  subst e
  obtain ⟨z0,c0,h2⟩:=bind_some h2
  obtain ⟨z1,c1,h2⟩:=bind_some h2
  obtain ⟨hE,h2⟩:=qoi h2
  obtain rfl:=Option.some.inj h2
  refine qsb (t:=.bl) (x:=[]) rfl (TV.ers []) (TV.ers []) (by exact qm9 (()) _ c0 l) ?_
  rw [hE]
  exact (qEW (n:=100050) (sz:=1) (x:=qw .bl ([]:List UInt8)) rfl (by kernel_rfl) (by kernel_rfl) (qm2 (()) _ c1 l))
 ·exact qpd (a0,()) z h2 l
noncomputable def qAV:Code:=Tryz.f105.body.getD .skip
theorem qAn:FnF Tryz.prog 105 Tryz.f105 qAV:=⟨qn,by kernel_rfl,by kernel_rfl,by kernel_rfl⟩
def qxe:TH:={ live:=[(0,[0]),(1,[0])] }
def qv7 (N:Nat):List Ent:=[]
theorem qtd (N:Nat):qT Tryz.prog (qv7 N):=trivial
def qwG (z:Unit):TV×THp:=(.tv (.wa 8) ((((((((((Vector.replicate 8 0)).setIfInBounds 0 ((UInt32.ofNat 1779033703))).setIfInBounds 1 ((UInt32.ofNat 3144134277))).setIfInBounds 2 ((UInt32.ofNat 1013904242))).setIfInBounds 3 ((UInt32.ofNat 2773480762))).setIfInBounds 4 ((UInt32.ofNat 1359893119))).setIfInBounds 5 ((UInt32.ofNat 2600822924))).setIfInBounds 6 ((UInt32.ofNat 528734635))).setIfInBounds 7 ((UInt32.ofNat 1541459225)):Vector UInt32 8),[])
def qnC:Tree (Unit):=
 .chk (0 < 8) <|
 .chk (1 < 8) <|
 .chk (2 < 8) <|
 .chk (3 < 8) <|
 .chk (4 < 8) <|
 .chk (5 < 8) <|
 .chk (6 < 8) <|
 .chk (7 < 8) <|
 .ret ()
def qsi:Option (Unit):=(qnC).run some
def qwN:List (Nat×qy):=[]
def qnO:Ent:=smF ⟨105,[],[],[],[]⟩ [] (Unit) (fun x=>qsi) cs1 fun _=>qwG
theorem qvA:zb Tryz.prog (qnO):=
 q7 (H:=qxe) (L:=qP (qwN)) (ts:=[]) (T:=fun x=>qnC) 0 qAn (qtd 0) (qz (by kernel_rfl) trivial) (rg0 (by kernel_rfl)) fun x=>by kernel_rfl
noncomputable def qzW:Code:=Tryz.f106.body.getD .skip
theorem qAp:FnF Tryz.prog 106 Tryz.f106 qzW:=⟨qn,by kernel_rfl,by kernel_rfl,by kernel_rfl⟩
def qw2:TH:={ live:=[(0,[0]),(1,[0])] }
def qxh (N:Nat):List Ent:=[]
theorem qtk (N:Nat):qT Tryz.prog (qxh N):=trivial
def qwm (z:Unit):TV×THp:=(.tv (.wa 64) ((((((((((((((((((((((((((((((((((((((((((((((((((((((((((((((((((Vector.replicate 64 0)).setIfInBounds 0 ((UInt32.ofNat 1116352408))).setIfInBounds 1 ((UInt32.ofNat 1899447441))).setIfInBounds 2 ((UInt32.ofNat 3049323471))).setIfInBounds 3 ((UInt32.ofNat 3921009573))).setIfInBounds 4 ((UInt32.ofNat 961987163))).setIfInBounds 5 ((UInt32.ofNat 1508970993))).setIfInBounds 6 ((UInt32.ofNat 2453635748))).setIfInBounds 7 ((UInt32.ofNat 2870763221))).setIfInBounds 8 ((UInt32.ofNat 3624381080))).setIfInBounds 9 ((UInt32.ofNat 310598401))).setIfInBounds 10 ((UInt32.ofNat 607225278))).setIfInBounds 11 ((UInt32.ofNat 1426881987))).setIfInBounds 12 ((UInt32.ofNat 1925078388))).setIfInBounds 13 ((UInt32.ofNat 2162078206))).setIfInBounds 14 ((UInt32.ofNat 2614888103))).setIfInBounds 15 ((UInt32.ofNat 3248222580))).setIfInBounds 16 ((UInt32.ofNat 3835390401))).setIfInBounds 17 ((UInt32.ofNat 4022224774))).setIfInBounds 18 ((UInt32.ofNat 264347078))).setIfInBounds 19 ((UInt32.ofNat 604807628))).setIfInBounds 20 ((UInt32.ofNat 770255983))).setIfInBounds 21 ((UInt32.ofNat 1249150122))).setIfInBounds 22 ((UInt32.ofNat 1555081692))).setIfInBounds 23 ((UInt32.ofNat 1996064986))).setIfInBounds 24 ((UInt32.ofNat 2554220882))).setIfInBounds 25 ((UInt32.ofNat 2821834349))).setIfInBounds 26 ((UInt32.ofNat 2952996808))).setIfInBounds 27 ((UInt32.ofNat 3210313671))).setIfInBounds 28 ((UInt32.ofNat 3336571891))).setIfInBounds 29 ((UInt32.ofNat 3584528711))).setIfInBounds 30 ((UInt32.ofNat 113926993))).setIfInBounds 31 ((UInt32.ofNat 338241895))).setIfInBounds 32 ((UInt32.ofNat 666307205))).setIfInBounds 33 ((UInt32.ofNat 773529912))).setIfInBounds 34 ((UInt32.ofNat 1294757372))).setIfInBounds 35 ((UInt32.ofNat 1396182291))).setIfInBounds 36 ((UInt32.ofNat 1695183700))).setIfInBounds 37 ((UInt32.ofNat 1986661051))).setIfInBounds 38 ((UInt32.ofNat 2177026350))).setIfInBounds 39 ((UInt32.ofNat 2456956037))).setIfInBounds 40 ((UInt32.ofNat 2730485921))).setIfInBounds 41 ((UInt32.ofNat 2820302411))).setIfInBounds 42 ((UInt32.ofNat 3259730800))).setIfInBounds 43 ((UInt32.ofNat 3345764771))).setIfInBounds 44 ((UInt32.ofNat 3516065817))).setIfInBounds 45 ((UInt32.ofNat 3600352804))).setIfInBounds 46 ((UInt32.ofNat 4094571909))).setIfInBounds 47 ((UInt32.ofNat 275423344))).setIfInBounds 48 ((UInt32.ofNat 430227734))).setIfInBounds 49 ((UInt32.ofNat 506948616))).setIfInBounds 50 ((UInt32.ofNat 659060556))).setIfInBounds 51 ((UInt32.ofNat 883997877))).setIfInBounds 52 ((UInt32.ofNat 958139571))).setIfInBounds 53 ((UInt32.ofNat 1322822218))).setIfInBounds 54 ((UInt32.ofNat 1537002063))).setIfInBounds 55 ((UInt32.ofNat 1747873779))).setIfInBounds 56 ((UInt32.ofNat 1955562222))).setIfInBounds 57 ((UInt32.ofNat 2024104815))).setIfInBounds 58 ((UInt32.ofNat 2227730452))).setIfInBounds 59 ((UInt32.ofNat 2361852424))).setIfInBounds 60 ((UInt32.ofNat 2428436474))).setIfInBounds 61 ((UInt32.ofNat 2756734187))).setIfInBounds 62 ((UInt32.ofNat 3204031479))).setIfInBounds 63 ((UInt32.ofNat 3329325298)):Vector UInt32 64),[])
def qns:Tree (Unit):=
 .chk (0 < 64) <|
 .chk (1 < 64) <|
 .chk (2 < 64) <|
 .chk (3 < 64) <|
 .chk (4 < 64) <|
 .chk (5 < 64) <|
 .chk (6 < 64) <|
 .chk (7 < 64) <|
 .chk (8 < 64) <|
 .chk (9 < 64) <|
 .chk (10 < 64) <|
 .chk (11 < 64) <|
 .chk (12 < 64) <|
 .chk (13 < 64) <|
 .chk (14 < 64) <|
 .chk (15 < 64) <|
 .chk (16 < 64) <|
 .chk (17 < 64) <|
 .chk (18 < 64) <|
 .chk (19 < 64) <|
 .chk (20 < 64) <|
 .chk (21 < 64) <|
 .chk (22 < 64) <|
 .chk (23 < 64) <|
 .chk (24 < 64) <|
 .chk (25 < 64) <|
 .chk (26 < 64) <|
 .chk (27 < 64) <|
 .chk (28 < 64) <|
 .chk (29 < 64) <|
 .chk (30 < 64) <|
 .chk (31 < 64) <|
 .chk (32 < 64) <|
 .chk (33 < 64) <|
 .chk (34 < 64) <|
 .chk (35 < 64) <|
 .chk (36 < 64) <|
 .chk (37 < 64) <|
 .chk (38 < 64) <|
 .chk (39 < 64) <|
 .chk (40 < 64) <|
 .chk (41 < 64) <|
 .chk (42 < 64) <|
 .chk (43 < 64) <|
 .chk (44 < 64) <|
 .chk (45 < 64) <|
 .chk (46 < 64) <|
 .chk (47 < 64) <|
 .chk (48 < 64) <|
 .chk (49 < 64) <|
 .chk (50 < 64) <|
 .chk (51 < 64) <|
 .chk (52 < 64) <|
 .chk (53 < 64) <|
 .chk (54 < 64) <|
 .chk (55 < 64) <|
 .chk (56 < 64) <|
 .chk (57 < 64) <|
 .chk (58 < 64) <|
 .chk (59 < 64) <|
 .chk (60 < 64) <|
 .chk (61 < 64) <|
 .chk (62 < 64) <|
 .chk (63 < 64) <|
 .ret ()
def qr6:Option (Unit):=(qns).run some
def qwI:List (Nat×qy):=[]
def qnF:Ent:=smF ⟨106,[],[],[],[]⟩ [] (Unit) (fun x=>qr6) cs1 fun _=>qwm
theorem quN:zb Tryz.prog (qnF):=
 q7 (H:=qw2) (L:=qP (qwI)) (ts:=[]) (T:=fun x=>qns) 0 qAp (qtk 0) (qz (by kernel_rfl) trivial) (rg0 (by kernel_rfl)) fun x=>by kernel_rfl
noncomputable def qBi:Code:=Tryz.f142.body.getD .skip
theorem qAt:FnF Tryz.prog 142 Tryz.f142 qBi:=⟨qn,by kernel_rfl,by kernel_rfl,by kernel_rfl⟩
def qeg:TH:={ live:=[(0,[0,1]),(1,[0,5]),(2,[4])] }
def qen (N:Nat):List Ent:=[]
theorem qdB (N:Nat):qT Tryz.prog (qen N):=trivial
def qeT (z:Int):TV×THp:=(.tv (.i .u32) z,[])
def YV (a0:Int) (a1:Int):Tree (Int):=
 .chk (0≤(qat .u64 (IntKind.u64.wrap a1) 31)) <|
 let w1:Int:=WU .u32 a0 (min (qat .u64 (IntKind.u64.wrap a1) 31).toNat 32)
 let w2:Int:=qGj .u64 ((32:Int)) (qat .u64 (IntKind.u64.wrap a1) 31)
 .chk (0≤w2) <|
 .ret (uOr .u32 w1 (Jk a0 (min w2.toNat 32)))
def KO (a0:Int) (a1:Int):Option (Int):=(YV a0 a1).run some
def qeS:List (Nat×qy):=[]
def W6:Ent:=smF ⟨142,[],[.x (.i .u32),.x (.i .i64)],[],[]⟩ [(.i .u32),(.i .i64)] (Int) (fun x=>KO x.1 x.2.1) cs1 fun _=>qeT
theorem qdX:zb Tryz.prog (W6):=
 q7 (H:=qeg) (L:=qP (qeS)) (ts:=[(.i .u32),(.i .i64)]) (T:=fun x=>YV x.1 x.2.1) 0 qAt (qdB 0) (qz (by kernel_rfl) trivial) (rg0 (by kernel_rfl)) fun x=>by kernel_rfl
noncomputable def qAK:Code:=Tryz.f125.body.getD .skip
theorem qzZ:FnF Tryz.prog 125 Tryz.f125 qAK:=⟨qn,by kernel_rfl,by kernel_rfl,by kernel_rfl⟩
def qwz:TH:={ live:=[(0,[0,1]),(1,[4])] }
def qwX (N:Nat):List Ent:=[W6]
theorem qtj (N:Nat):qT Tryz.prog (qwX N):=⟨qdX,trivial⟩
def qwe (z:Int):TV×THp:=(.tv (.i .u32) z,[])
def qnz (a0:Int) (a1:Int):Tree (Int):=
 .chk (qf (0 - a1)) <|
 .bind (KO a0 (0 - a1)) fun r1=>
 .ret r1
def ZW (a0:Int) (a1:Int):Option (Int):=(qnz a0 a1).run some
def qw_:List (Nat×qy):=[]
def qgg:Ent:=smF ⟨125,[],[.x (.i .u32),.x (.i .i64)],[],[]⟩ [(.i .u32),(.i .i64)] (Int) (fun x=>ZW x.1 x.2.1) cs1 fun _=>qwe
theorem qk7:zb Tryz.prog (qgg):=
 q7 (H:=qwz) (L:=qP (qw_)) (ts:=[(.i .u32),(.i .i64)]) (T:=fun x=>qnz x.1 x.2.1) 0 qzZ (qtj 0) (qz (by kernel_rfl) trivial) (rg0 (by kernel_rfl)) fun x=>by kernel_rfl
noncomputable def qkH:Code:=Tryz.f124.body.getD .skip
theorem qBz:FnF Tryz.prog 124 Tryz.f124 qkH:=⟨qn,by kernel_rfl,by kernel_rfl,by kernel_rfl⟩
def qcd:TH:={ live:=[(0,[0,2]),(1,[0,2,3]),(2,[0,2,3,7]),(3,[0,2,3,7,8]),(4,[0,2,3,4,7]),(5,[0,2,3,4,7,11]),(6,[0,2,3,7]),(7,[0,2,3,4,5,6,7]),(8,[0,2,3,7]),(9,[0,2,3,7]),(10,[2])] }
def qhb (N:Nat):List Ent:=[qgg]
theorem qer (N:Nat):qT Tryz.prog (qhb N):=⟨qk7,trivial⟩
abbrev V3:=Vector UInt32 64×List UInt8
abbrev Q3:=Vector UInt32 64×Int×Bool
def Jp (f:V3) (y:Q3):Ex×TSt:=(.exit 0,⟨0,86,[],[(0,.tv .bl f.2),(2,.p 20 [] 0),(3,.p 30 [] 0),(7,xi y.2.1),(8,xb y.2.2)],[(20,.cell false (.tv (.wa 64) f.1)),(30,.cell false (.tv (.wa 64) (y.1:Vector UInt32 64)))],false,[]⟩)
def qm_ (N:Nat):List (Nat×qy):=[]
abbrev Jo:=Vector UInt32 64×Int
def qdE:SP:=⟨0,86,[],[(0,.x .bl),(2,.k (.p 20 [] 0)),(3,.k (.p 30 [] 0)),(7,.x (.i .i64))],[(20,.cell false (.x (.wa 64))),(30,.cell false (.x (.wa 64)))],false,[]⟩
def qm5 (f:V3) (v:Jo):TSt:=zw qdE [dv (.wa 64) f.1,dv (.wa 64) v.1,dv .bl f.2,dv (.i .i64) v.2]
def qm8 (N:Nat) (o_3:Vector UInt32 64) (s0_3:List UInt8) (v:Jo):Tree (Jo⊕Q3):=
 .cond (decide (v.2 < ((64:Int)))) (
 .cond (decide (v.2 < ((16:Int)))) (
 .chk (qf (((4:Int)) * v.2)) <|
 .bind (zh s0_3 (((4:Int)) * v.2)) fun e1=>
 let w2:Int:=IntKind.u32.wrap ((e1.toNat:Nat):Int)
 .chk (0≤(24:Int)) <|
 .chk (qf (((4:Int)) * v.2)) <|
 .chk (qf ((((4:Int)) * v.2) + 1)) <|
 .bind (zh s0_3 ((((4:Int)) * v.2) + 1)) fun e3=>
 let w4:Int:=IntKind.u32.wrap ((e3.toNat:Nat):Int)
 .chk (0≤(16:Int)) <|
 let w5:Int:=uOr .u32 (WU .u32 w2 24) (WU .u32 w4 16)
 .chk (qf (((4:Int)) * v.2)) <|
 .chk (qf ((((4:Int)) * v.2) + 2)) <|
 .bind (zh s0_3 ((((4:Int)) * v.2) + 2)) fun e6=>
 let w7:Int:=IntKind.u32.wrap ((e6.toNat:Nat):Int)
 .chk (0≤(8:Int)) <|
 .chk (qf (((4:Int)) * v.2)) <|
 .chk (qf ((((4:Int)) * v.2) + 3)) <|
 .bind (zh s0_3 ((((4:Int)) * v.2) + 3)) fun e8=>
 let w9:Int:=IntKind.u32.wrap ((e8.toNat:Nat):Int)
 let w10:Int:=uOr .u32 (uOr .u32 w5 (WU .u32 w7 8)) w9
 .chk (0≤v.2∧v.2 < ((64:Nat):Int)) <|
 .chk (inW w10) <|
 .chk (v.2.toNat < 64) <|
 .chk (qf (v.2 + 1)) <|
 .ret (.inl (v.1.setIfInBounds v.2.toNat (UInt32.ofNat w10.toNat),v.2 + 1))) <|
 .chk (qf (v.2 - 15)) <|
 .chk (0≤(v.2 - 15)∧(v.2 - 15) < ((64:Nat):Int)) <|
 .chk ((v.2 - 15).toNat < 64) <|
 .chk (qf (v.2 - 2)) <|
 .chk (0≤(v.2 - 2)∧(v.2 - 2) < ((64:Nat):Int)) <|
 .chk ((v.2 - 2).toNat < 64) <|
 .chk (qf (v.2 - 16)) <|
 .chk (0≤(v.2 - 16)∧(v.2 - 16) < ((64:Nat):Int)) <|
 .chk ((v.2 - 16).toNat < 64) <|
 .chk (qf (v.2 - 7)) <|
 .chk (0≤(v.2 - 7)∧(v.2 - 7) < ((64:Nat):Int)) <|
 .chk ((v.2 - 7).toNat < 64) <|
 let w1:Int:=Q_ .u32 (((v.1.toList.getD ((v.2 - 16).toNat) 0).toNat:Nat):Int) (((v.1.toList.getD ((v.2 - 7).toNat) 0).toNat:Nat):Int)
 .bind (ZW (((v.1.toList.getD ((v.2 - 15).toNat) 0).toNat:Nat):Int) 7) fun r2=>
 .bind (ZW (((v.1.toList.getD ((v.2 - 15).toNat) 0).toNat:Nat):Int) 18) fun r3=>
 .chk (0≤(3:Int)) <|
 let w4:Int:=Jk (((v.1.toList.getD ((v.2 - 15).toNat) 0).toNat:Nat):Int) 3
 let w5:Int:=Q_ .u32 w1 (qdu .u32 (qdu .u32 r2 r3) w4)
 .bind (ZW (((v.1.toList.getD ((v.2 - 2).toNat) 0).toNat:Nat):Int) 17) fun r6=>
 .bind (ZW (((v.1.toList.getD ((v.2 - 2).toNat) 0).toNat:Nat):Int) 19) fun r7=>
 .chk (0≤(10:Int)) <|
 let w8:Int:=Jk (((v.1.toList.getD ((v.2 - 2).toNat) 0).toNat:Nat):Int) 10
 let w9:Int:=Q_ .u32 w5 (qdu .u32 (qdu .u32 r6 r7) w8)
 .chk (0≤v.2∧v.2 < ((64:Nat):Int)) <|
 .chk (inW w9) <|
 .chk (v.2.toNat < 64) <|
 .chk (qf (v.2 + 1)) <|
 .ret (.inl (v.1.setIfInBounds v.2.toNat (UInt32.ofNat w9.toNat),v.2 + 1))) <|
 .ret (.inr (v.1,v.2,decide (v.2 < ((64:Int)))))
def qdJ (N n:Nat) (f:V3) (v:Jo):Option Q3:=zj (qm8 N f.1 f.2) some n v
theorem qm1 (N:Nat) (f:V3) (n:Nat) (v:Jo) (y:Q3) (h:qdJ N n f v=some y):LG Tryz.prog qcd 124 (q0 qkH 3) (qm5 f v) (Jp f y):=
 zU qn (E:=qhb N) (L:=qP (qm_ N)) (st:=Jp f) (g:=some) (R:=Jp f) (qer N) (qz (by kernel_rfl) trivial) (rg0 (by kernel_rfl)) (fun v=>by kernel_rfl) (ze (st:=Jp f) fun y=>by rfl) (js0 rfl) n v y h
def qfL (N:Nat) (o_3:Vector UInt32 64) (s0_3:List UInt8) (o_3_2:Vector UInt32 64) (s7_3:Int):Option Q3:=qdJ N N (o_3,s0_3) (o_3_2,s7_3)
def qdH (N:Nat):qy:=smL qdE [(.wa 64),(.wa 64),.bl,(.i .i64)] Q3 (fun x=>qfL N x.1 x.2.2.1 x.2.1 x.2.2.2.1) cs1 fun x=>Jp (x.1,x.2.2.1)
theorem qmm (N:Nat):vW Tryz.prog qcd 124 (q0 qkH 3) (qdH N):=ja fun x z h=>qm1 N (x.1,x.2.2.1) N (x.2.1,x.2.2.2.1) z h
def qra (z:Vector UInt32 64):TV×THp:=(.tv (.wa 64) z,[])
def qhy (N:Nat) (a0:List UInt8):Tree (Vector UInt32 64):=
 .bind (qfL N ((Vector.replicate 64 0)) a0 ((Vector.replicate 64 0)) 0) fun z1=>
 .ret z1.1
def qlL (N:Nat) (a0:List UInt8):Option (Vector UInt32 64):=(qhy N a0).run some
def qrl (N:Nat):List (Nat×qy):=[(3,qdH N)]
def qhl (N:Nat):Ent:=smF ⟨124,[],[.x .bl],[],[]⟩ [.bl] (Vector UInt32 64) (fun x=>qlL N x.1) cs1 fun _=>qra
theorem qpv (N:Nat):zb Tryz.prog (qhl N):=
 q7 (H:=qcd) (L:=qP (qrl N)) (ts:=[.bl]) (T:=fun x=>qhy N x.1) 0 qBz (qer N) (qz (by kernel_rfl) ⟨qmm N,trivial⟩) (rg0 (by kernel_rfl)) fun x=>by kernel_rfl
noncomputable def qc5:Code:=Tryz.f107.body.getD .skip
theorem qAR:FnF Tryz.prog 107 Tryz.f107 qc5:=⟨qn,by kernel_rfl,by kernel_rfl,by kernel_rfl⟩
def JK:TH:={ live:=[(0,[0,2,6]),(1,[0,2,6,7]),(2,[0,2,6,7,19]),(3,[0,2,6,7,19,20]),(4,[0,2,6,7,8,19]),(5,[0,2,6,7,8,9,10,19]),(6,[0,2,6,7,9,11,19]),(7,[0,2,6,7,11,12,19]),(8,[0,2,6,7,11,12,19]),(9,[0,2,6,7,11,19]),(10,[0,2,6,7,19]),(11,[0,2,6,7,19]),(12,[0,7,95]),(13,[0,7,95,96]),(14,[0,7,13,95]),(15,[0,7,95]),(16,[0,7,95])] }
def qao (N:Nat):List Ent:=[qhl N,qgg]
theorem YM (N:Nat):qT Tryz.prog (qao N):=⟨qpv N,qk7,trivial⟩
abbrev JT:=Vector UInt32 8×Vector UInt32 64×Vector UInt32 64
abbrev vJ:=Vector UInt32 8×Int×Bool
def Zl (f:JT) (y:vJ):Ex×TSt:=(.exit 0,⟨1,110,[50,60],[(0,.p 50 [] 0),(2,.p 60 [] 0),(6,.p 100060 [] 0),(7,.p 100070 [] 0),(19,xi y.2.1),(20,xb y.2.2)],[(50,.cell false (.tv (.wa 8) f.1)),(60,.cell false (.tv (.wa 64) f.2.1)),(100060,.cell false (.tv (.wa 64) f.2.2)),(100070,.cell false (.tv (.wa 8) (y.1:Vector UInt32 8)))],false,[]⟩)
def qj_ (N:Nat):List (Nat×qy):=[]
abbrev Zm:=Vector UInt32 8×Int
def qb4:SP:=⟨1,110,[50,60],[(0,.k (.p 50 [] 0)),(2,.k (.p 60 [] 0)),(6,.k (.p 100060 [] 0)),(7,.k (.p 100070 [] 0)),(19,.x (.i .i64))],[(50,.cell false (.x (.wa 8))),(60,.cell false (.x (.wa 64))),(100060,.cell false (.x (.wa 64))),(100070,.cell false (.x (.wa 8)))],false,[]⟩
def qki (f:JT) (v:Zm):TSt:=zw qb4 [dv (.wa 8) f.1,dv (.wa 64) f.2.1,dv (.wa 64) f.2.2,dv (.wa 8) v.1,dv (.i .i64) v.2]
def qjR (N:Nat) (o_3:Vector UInt32 8) (o_3_2:Vector UInt32 64) (o_3_3:Vector UInt32 64) (v:Zm):Tree (Zm⊕vJ):=
 .cond (decide (v.2 < ((64:Int)))) (
 .chk (0≤(0:Int)∧(0:Int) < ((8:Nat):Int)) <|
 .chk (0 < 8) <|
 .chk (0≤(4:Int)∧(4:Int) < ((8:Nat):Int)) <|
 .chk (4 < 8) <|
 .chk (0≤(7:Int)∧(7:Int) < ((8:Nat):Int)) <|
 .chk (7 < 8) <|
 .bind (ZW (((v.1.toList.getD 4 0).toNat:Nat):Int) 6) fun r1=>
 .bind (ZW (((v.1.toList.getD 4 0).toNat:Nat):Int) 11) fun r2=>
 .bind (ZW (((v.1.toList.getD 4 0).toNat:Nat):Int) 25) fun r3=>
 let w4:Int:=Q_ .u32 (((v.1.toList.getD 7 0).toNat:Nat):Int) (qdu .u32 (qdu .u32 r1 r2) r3)
 .chk (0≤(5:Int)∧(5:Int) < ((8:Nat):Int)) <|
 .chk (5 < 8) <|
 let w5:Int:=qat .u32 (((v.1.toList.getD 4 0).toNat:Nat):Int) (((v.1.toList.getD 5 0).toNat:Nat):Int)
 let w6:Int:=qdu .u32 (4294967295) (((v.1.toList.getD 4 0).toNat:Nat):Int)
 .chk (0≤(6:Int)∧(6:Int) < ((8:Nat):Int)) <|
 .chk (6 < 8) <|
 let w7:Int:=qat .u32 w6 (((v.1.toList.getD 6 0).toNat:Nat):Int)
 .chk (0≤v.2∧v.2 < ((64:Nat):Int)) <|
 .chk (v.2.toNat < 64) <|
 let w8:Int:=Q_ .u32 (Q_ .u32 w4 (qdu .u32 w5 w7)) (((o_3_2.toList.getD v.2.toNat 0).toNat:Nat):Int)
 .chk (0≤v.2∧v.2 < ((64:Nat):Int)) <|
 .chk (v.2.toNat < 64) <|
 let w9:Int:=Q_ .u32 w8 (((o_3_3.toList.getD v.2.toNat 0).toNat:Nat):Int)
 .bind (ZW (((v.1.toList.getD 0 0).toNat:Nat):Int) 2) fun r10=>
 .bind (ZW (((v.1.toList.getD 0 0).toNat:Nat):Int) 13) fun r11=>
 .bind (ZW (((v.1.toList.getD 0 0).toNat:Nat):Int) 22) fun r12=>
 .chk (0≤(1:Int)∧(1:Int) < ((8:Nat):Int)) <|
 .chk (1 < 8) <|
 let w13:Int:=qat .u32 (((v.1.toList.getD 0 0).toNat:Nat):Int) (((v.1.toList.getD 1 0).toNat:Nat):Int)
 .chk (0≤(2:Int)∧(2:Int) < ((8:Nat):Int)) <|
 .chk (2 < 8) <|
 let w14:Int:=qat .u32 (((v.1.toList.getD 0 0).toNat:Nat):Int) (((v.1.toList.getD 2 0).toNat:Nat):Int)
 .chk (0≤(1:Int)∧(1:Int) < ((8:Nat):Int)) <|
 .chk (1 < 8) <|
 .chk (0≤(2:Int)∧(2:Int) < ((8:Nat):Int)) <|
 .chk (2 < 8) <|
 let w15:Int:=qat .u32 (((v.1.toList.getD 1 0).toNat:Nat):Int) (((v.1.toList.getD 2 0).toNat:Nat):Int)
 let w16:Int:=Q_ .u32 (qdu .u32 (qdu .u32 r10 r11) r12) (qdu .u32 (qdu .u32 w13 w14) w15)
 .chk (0≤(0:Int)∧(0:Int) < ((8:Nat):Int)) <|
 .chk (inW (Q_ .u32 w9 w16)) <|
 .chk (0 < 8) <|
 .chk (0≤(4:Int)∧(4:Int) < ((8:Nat):Int)) <|
 .chk (4 < 8) <|
 let w17:Int:=Q_ .u32 (((((KX v.1 1 7).setIfInBounds 0 (UInt32.ofNat (Q_ .u32 w9 w16).toNat)).toList.getD 4 0).toNat:Nat):Int) w9
 .chk (0≤(4:Int)∧(4:Int) < ((8:Nat):Int)) <|
 .chk (inW w17) <|
 .chk (4 < 8) <|
 .chk (qf (v.2 + 1)) <|
 .ret (.inl (((KX v.1 1 7).setIfInBounds 0 (UInt32.ofNat (Q_ .u32 w9 w16).toNat)).setIfInBounds 4 (UInt32.ofNat w17.toNat),v.2 + 1))) <|
 .ret (.inr (v.1,v.2,decide (v.2 < ((64:Int)))))
def qcb (N n:Nat) (f:JT) (v:Zm):Option vJ:=zj (qjR N f.1 f.2.1 f.2.2) some n v
theorem qkg (N:Nat) (f:JT) (n:Nat) (v:Zm) (y:vJ) (h:qcb N n f v=some y):LG Tryz.prog JK 107 (q0 qc5 3) (qki f v) (Zl f y):=
 zU qn (E:=qao N) (L:=qP (qj_ N)) (st:=Zl f) (g:=some) (R:=Zl f) (YM N) (qz (by kernel_rfl) trivial) (rg0 (by kernel_rfl)) (fun v=>by kernel_rfl) (ze (st:=Zl f) fun y=>by rfl) (js0 rfl) n v y h
def qdG (N:Nat) (o_3:Vector UInt32 8) (o_3_2:Vector UInt32 64) (o_3_3:Vector UInt32 64) (o_3_4:Vector UInt32 8) (s19_3:Int):Option vJ:=qcb N N (o_3,o_3_2,o_3_3) (o_3_4,s19_3)
def qb7 (N:Nat):qy:=smL qb4 [(.wa 8),(.wa 64),(.wa 64),(.wa 8),(.i .i64)] vJ (fun x=>qdG N x.1 x.2.1 x.2.2.1 x.2.2.2.1 x.2.2.2.2.1) cs1 fun x=>Zl (x.1,x.2.1,x.2.2.1)
theorem qi4 (N:Nat):vW Tryz.prog JK 107 (q0 qc5 3) (qb7 N):=ja fun x z h=>qkg N (x.1,x.2.1,x.2.2.1) N (x.2.2.2.1,x.2.2.2.2.1) z h
abbrev Ju:=Vector UInt32 64×Vector UInt32 8
abbrev vu:=Vector UInt32 8×Int×Bool
def QU (f:Ju) (y:vu):Ex×TSt:=(.exit 2,⟨1,110,[50,60],[(0,.p 50 [] 0),(7,.p 100070 [] 0),(95,xi y.2.1),(96,xb y.2.2)],[(50,.cell false (.tv (.wa 8) (y.1:Vector UInt32 8))),(60,.cell false (.tv (.wa 64) f.1)),(100070,.cell false (.tv (.wa 8) f.2))],false,[]⟩)
def qie (N:Nat):List (Nat×qy):=[]
abbrev QZ:=Vector UInt32 8×Int
def qbH:SP:=⟨1,110,[50,60],[(0,.k (.p 50 [] 0)),(7,.k (.p 100070 [] 0)),(95,.x (.i .i64))],[(50,.cell false (.x (.wa 8))),(60,.cell false (.x (.wa 64))),(100070,.cell false (.x (.wa 8)))],false,[]⟩
def qis (f:Ju) (v:QZ):TSt:=zw qbH [dv (.wa 8) v.1,dv (.wa 64) f.1,dv (.wa 8) f.2,dv (.i .i64) v.2]
def qiJ (N:Nat) (o_13_2:Vector UInt32 64) (o_13_3:Vector UInt32 8) (v:QZ):Tree (QZ⊕vu):=
 .cond (decide (v.2 < ((8:Int)))) (
 .chk (0≤v.2∧v.2 < ((8:Nat):Int)) <|
 .chk (v.2.toNat < 8) <|
 .chk (0≤v.2∧v.2 < ((8:Nat):Int)) <|
 .chk (v.2.toNat < 8) <|
 let w1:Int:=Q_ .u32 (((v.1.toList.getD v.2.toNat 0).toNat:Nat):Int) (((o_13_3.toList.getD v.2.toNat 0).toNat:Nat):Int)
 .chk (0≤v.2∧v.2 < ((8:Nat):Int)) <|
 .chk (inW w1) <|
 .chk (v.2.toNat < 8) <|
 .chk (qf (v.2 + 1)) <|
 .ret (.inl (v.1.setIfInBounds v.2.toNat (UInt32.ofNat w1.toNat),v.2 + 1))) <|
 .ret (.inr (v.1,v.2,decide (v.2 < ((8:Int)))))
def qbE (N n:Nat) (f:Ju) (v:QZ):Option vu:=zj (qiJ N f.1 f.2) some n v
theorem qim (N:Nat) (f:Ju) (n:Nat) (v:QZ) (y:vu) (h:qbE N n f v=some y):LG Tryz.prog JK 107 (q0 qc5 13) (qis f v) (QU f y):=
 zU qn (E:=qao N) (L:=qP (qie N)) (st:=QU f) (g:=some) (R:=QU f) (YM N) (qz (by kernel_rfl) trivial) (rg0 (by kernel_rfl)) (fun v=>by kernel_rfl) (ze (st:=QU f) fun y=>by rfl) (js0 rfl) n v y h
def qcT (N:Nat) (o_13_2:Vector UInt32 64) (o_13_3:Vector UInt32 8) (o_13:Vector UInt32 8) (s95_13:Int):Option vu:=qbE N N (o_13_2,o_13_3) (o_13,s95_13)
def qbV (N:Nat):qy:=smL qbH [(.wa 8),(.wa 64),(.wa 8),(.i .i64)] vu (fun x=>qcT N x.2.1 x.2.2.1 x.1 x.2.2.2.1) cs1 fun x=>QU (x.2.1,x.2.2.1)
theorem qh5 (N:Nat):vW Tryz.prog JK 107 (q0 qc5 13) (qbV N):=ja fun x z h=>qim N (x.2.1,x.2.2.1) N (x.1,x.2.2.2.1) z h
def qnX (a1:Vector UInt32 64) (z:Vector UInt32 8):TV×THp:=(.tup [],[(50,.cell false (.tv (.wa 8) z)),(60,.cell false (.tv (.wa 64) a1))])
def qej (N:Nat) (a0:Vector UInt32 8) (a1:Vector UInt32 64) (a2:List UInt8):Tree (Vector UInt32 8):=
 .bind (qlL N a2) fun r1=>
 .bind (qdG N a0 a1 r1 a0 0) fun z2=>
 .bind (qcT N a1 z2.1 a0 0) fun z3=>
 .ret z3.1
def qco (N:Nat) (a0:Vector UInt32 8) (a1:Vector UInt32 64) (a2:List UInt8):Option (Vector UInt32 8):=(qej N a0 a1 a2).run some
def qn7 (N:Nat):List (Nat×qy):=[(3,qb7 N),(13,qbV N)]
def qeB (N:Nat):Ent:=smF ⟨107,[],[.k (.p 50 [] 0),.x .bl,.k (.p 60 [] 0)],[],[(50,.cell false (.x (.wa 8))),(60,.cell false (.x (.wa 64)))]⟩ [(.wa 8),(.wa 64),.bl] (Vector UInt32 8) (fun x=>qco N x.1 x.2.1 x.2.2.1) cs1 fun x=>qnX x.2.1
theorem qm7 (N:Nat):zb Tryz.prog (qeB N):=
 q7 (H:=JK) (L:=qP (qn7 N)) (ts:=[(.wa 8),(.wa 64),.bl]) (T:=fun x=>qej N x.1 x.2.1 x.2.2.1) 0 qAR (YM N) (qz (by kernel_rfl) ⟨qi4 N,qh5 N,trivial⟩) (rg0 (by kernel_rfl)) fun x=>by kernel_rfl
noncomputable def Vq:Code:=Tryz.f78.body.getD .skip
theorem qC2:FnF Tryz.prog 78 Tryz.f78 Vq:=⟨qn,by kernel_rfl,by kernel_rfl,by kernel_rfl⟩
def Jy:TH:={ live:=[(0,[0,2]),(1,[0,2,3]),(2,[0,2,3,16]),(3,[0,2,3]),(4,[0,2,3,20]),(5,[0,2,3,20,21]),(6,[0,2,3,4,20]),(7,[0,2,3,20]),(8,[0,2,3,20]),(9,[2,3,5,6]),(10,[2,3,5,6,40]),(11,[2,3,5,6]),(12,[2,3,5,6]),(13,[2,5,7]),(14,[2,5,7,46]),(15,[2,5,7,46,47]),(16,[2,5,7,8,46]),(17,[2,5,7,46]),(18,[2,5,7,46]),(19,[2])],fresh:=[10] }
def qaQ (N:Nat):List Ent:=[qg6,qnO,qnF,qeB N]
theorem Wx (N:Nat):qT Tryz.prog (qaQ N):=⟨qqA,qvA,quN,qm7 N,trivial⟩
abbrev qbI:=Vector UInt8 32×List UInt8
abbrev Xi:=List UInt8×Bool
def Yx (f:qbI) (y:Xi):Ex×TSt:=(.exit 0,⟨0,63,[],[(0,.tv .bl f.2),(2,.p 20 [] 0),(3,.v 100050 y.1.length),(16,xb y.2)],[(20,.cell false (.tv (.ba 32) f.1)),(100050,.vec false 1 .bl (y.1:List UInt8))],false,[]⟩)
def quL (N:Nat):List (Nat×qy):=[]
abbrev YG:=List UInt8
def qly:SP:=⟨0,63,[],[(0,.x .bl),(2,.k (.p 20 [] 0)),(3,.vs 100050)],[(20,.cell false (.x (.ba 32))),(100050,.vec false 1)],false,[]⟩
def qvz (f:qbI) (v:YG):TSt:=zw qly [dv .bl v,dv (.ba 32) f.1,dv .bl f.2]
def qun (N:Nat) (o_2_2:Vector UInt8 32) (s0_2:List UInt8) (v:YG):Tree (YG⊕Xi):=
 .chk ((64:Int)≠0) <|
 .cond (!decide ((((v.length:Nat):Int).tmod 64)=56)) (
 .chk (vq v.length v.length ((v++[(UInt8.ofNat 0)]).length) 1) <|
 .ret (.inl (v++[(UInt8.ofNat 0)]))) <|
 .ret (.inr (v,!decide ((((v.length:Nat):Int).tmod 64)=56)))
def qlo (N n:Nat) (f:qbI) (v:YG):Option Xi:=zj (qun N f.1 f.2) some n v
theorem qvJ (N:Nat) (f:qbI) (n:Nat) (v:YG) (y:Xi) (h:qlo N n f v=some y):LG Tryz.prog Jy 78 (q0 Vq 2) (qvz f v) (Yx f y):=
 zU qn (E:=qaQ N) (L:=qP (quL N)) (st:=Yx f) (g:=some) (R:=Yx f) (Wx N) (qz (by kernel_rfl) trivial) (rg0 (by kernel_rfl)) (fun v=>by kernel_rfl) (ze (st:=Yx f) fun y=>by rfl) (js0 rfl) n v y h
def qp8 (N:Nat) (o_2_2:Vector UInt8 32) (s0_2:List UInt8) (o_2:List UInt8):Option Xi:=qlo N N (o_2_2,s0_2) o_2
def qku (N:Nat):qy:=smL qly [.bl,(.ba 32),.bl] Xi (fun x=>qp8 N x.2.1 x.2.2.1 x.1) cs1 fun x=>Yx (x.2.1,x.2.2.1)
theorem qsY (N:Nat):vW Tryz.prog Jy 78 (q0 Vq 2) (qku N):=ja fun x z h=>qvJ N (x.2.1,x.2.2.1) N x.1 z h
abbrev qbq:=Vector UInt8 32×List UInt8
abbrev Xy:=List UInt8×Int×Bool
def YI (f:qbq) (y:Xy):Ex×TSt:=(.exit 2,⟨0,63,[],[(0,.tv .bl f.2),(2,.p 20 [] 0),(3,.v 100050 y.1.length),(20,xi y.2.1),(21,xb y.2.2)],[(20,.cell false (.tv (.ba 32) f.1)),(100050,.vec false 1 .bl (y.1:List UInt8))],false,[]⟩)
def qt0 (N:Nat):List (Nat×qy):=[]
abbrev YP:=List UInt8×Int
def qkt:SP:=⟨0,63,[],[(0,.x .bl),(2,.k (.p 20 [] 0)),(3,.vs 100050),(20,.x (.i .i64))],[(20,.cell false (.x (.ba 32))),(100050,.vec false 1)],false,[]⟩
def qvb (f:qbq) (v:YP):TSt:=zw qkt [dv .bl v.1,dv (.ba 32) f.1,dv .bl f.2,dv (.i .i64) v.2]
def quA (N:Nat) (o_5_2:Vector UInt8 32) (s0_5:List UInt8) (v:YP):Tree (YP⊕Xy):=
 .cond (decide (v.2 < ((8:Int)))) (
 let w1:Int:=IntKind.u64.wrap ((s0_5.length:Nat):Int)
 .chk (qf (((7:Int)) - v.2)) <|
 .chk (qf (((8:Int)) * (((7:Int)) - v.2))) <|
 .chk (0≤(((8:Int)) * (((7:Int)) - v.2))) <|
 let w2:Int:=Jk (qDZ .u64 w1 8) (min (((8:Int)) * (((7:Int)) - v.2)).toNat 64)
 .chk (inB (IntKind.u8.wrap w2)) <|
 .chk (vq v.1.length v.1.length ((v.1++[UInt8.ofNat (IntKind.u8.wrap w2).toNat]).length) 1) <|
 .chk (qf (v.2 + 1)) <|
 .ret (.inl (v.1++[UInt8.ofNat (IntKind.u8.wrap w2).toNat],v.2 + 1))) <|
 .ret (.inr (v.1,v.2,decide (v.2 < ((8:Int)))))
def qlT (N n:Nat) (f:qbq) (v:YP):Option Xy:=zj (quA N f.1 f.2) some n v
theorem qub (N:Nat) (f:qbq) (n:Nat) (v:YP) (y:Xy) (h:qlT N n f v=some y):LG Tryz.prog Jy 78 (q0 Vq 5) (qvb f v) (YI f y):=
 zU qn (E:=qaQ N) (L:=qP (qt0 N)) (st:=YI f) (g:=some) (R:=YI f) (Wx N) (qz (by kernel_rfl) trivial) (rg0 (by kernel_rfl)) (fun v=>by kernel_rfl) (ze (st:=YI f) fun y=>by rfl) (js0 rfl) n v y h
def qqo (N:Nat) (o_5_2:Vector UInt8 32) (s0_5:List UInt8) (o_5:List UInt8) (s20_5:Int):Option Xy:=qlT N N (o_5_2,s0_5) (o_5,s20_5)
def qmj (N:Nat):qy:=smL qkt [.bl,(.ba 32),.bl,(.i .i64)] Xy (fun x=>qqo N x.2.1 x.2.2.1 x.1 x.2.2.2.1) cs1 fun x=>YI (x.2.1,x.2.2.1)
theorem qte (N:Nat):vW Tryz.prog Jy 78 (q0 Vq 5) (qmj N):=ja fun x z h=>qub N (x.2.1,x.2.2.1) N (x.1,x.2.2.2.1) z h
abbrev vZ:=List UInt8×Vector UInt8 32×Vector UInt32 8×Vector UInt32 64
abbrev vl:=Unit⊕(Vector UInt32 8×List UInt8×Bool)
def vY (f:vZ):vl→Ex×TSt
 | .inl y=>(.exit 4,⟨0,63,[],[(2,.p 20 [] 0),(3,.v 100050 f.1.length),(5,.p 50 [] 0),(6,.p 60 [] 0),(40,xb (decide (((0:Int)) < ((f.1.length:Nat):Int))))],[(20,.cell false (.tv (.ba 32) f.2.1)),(50,.cell false (.tv (.wa 8) f.2.2.1)),(60,.cell false (.tv (.wa 64) f.2.2.2)),(100050,.vec false 1 .bl f.1)],false,[]⟩)
 | .inr y=>(.exit 4,⟨0,63,[],[(2,.p 20 [] 0),(3,.tv .bl (y.2.1:List UInt8)),(5,.p 50 [] 0),(6,.p 60 [] 0),(40,xb y.2.2)],[(20,.cell false (.tv (.ba 32) f.2.1)),(50,.cell false (.tv (.wa 8) (y.1:Vector UInt32 8))),(60,.cell false (.tv (.wa 64) f.2.2.2))],false,[]⟩)
def qjv (N:Nat):List (Nat×qy):=[]
abbrev Zr:=Vector UInt32 8×List UInt8
def qo4:SP:=⟨0,63,[],[(2,.k (.p 20 [] 0)),(3,.x .bl),(5,.k (.p 50 [] 0)),(6,.k (.p 60 [] 0))],[(20,.cell false (.x (.ba 32))),(50,.cell false (.x (.wa 8))),(60,.cell false (.x (.wa 64)))],false,[]⟩
def qey (f:vZ) (v:Zr):TSt:=zw qo4 [dv (.ba 32) f.2.1,dv (.wa 8) v.1,dv (.wa 64) f.2.2.2,dv .bl v.2]
def qob (N:Nat) (o_10:List UInt8) (o_10_2:Vector UInt8 32) (o_10_3:Vector UInt32 8) (o_10_4:Vector UInt32 64) (v:Zr):Tree (Zr⊕vl):=
 .cond (decide (((0:Int)) < ((v.2.length:Nat):Int))) (
 .chk (0≤(0:Int)∧(0:Int)≤(64:Int)∧(64:Int)≤((v.2.length:Nat):Int)) <|
 .bind (qco N v.1 o_10_4 ((v.2.take 64).drop 0)) fun r1=>
 .chk (0≤(64:Int)∧(64:Int)≤((v.2.length:Nat):Int)) <|
 .ret (.inl (r1,v.2.drop 64))) <|
 .ret (.inr (.inr ((v.1,v.2,decide (((0:Int)) < ((v.2.length:Nat):Int))))))
def qeu (N n:Nat) (f:vZ) (v:Zr):Option vl:=zj (qob N f.1 f.2.1 f.2.2.1 f.2.2.2) some n v
theorem qn6 (N:Nat) (f:vZ) (n:Nat) (v:Zr) (y:vl) (h:qeu N n f v=some y):LG Tryz.prog Jy 78 (q0 Vq 10) (qey f v) (vY f y):=
 zU qn (E:=qaQ N) (L:=qP (qjv N)) (st:=vY f) (g:=some) (R:=vY f) (Wx N) (qz (by kernel_rfl) trivial) (rg0 (by kernel_rfl)) (fun v=>by kernel_rfl) (ze (st:=vY f) fun y=>by rcases y with _ | _<;>rfl) (js0 rfl) n v y h
abbrev Wm:=Unit
def qjq:SP:=⟨0,63,[],[(2,.k (.p 20 [] 0)),(3,.vs 100050),(5,.k (.p 50 [] 0)),(6,.k (.p 60 [] 0))],[(20,.cell false (.x (.ba 32))),(50,.cell false (.x (.wa 8))),(60,.cell false (.x (.wa 64))),(100050,.vec false 1)],false,[]⟩
def qth (f:vZ) (v:Wm):TSt:=zw qjq [dv .bl f.1,dv (.ba 32) f.2.1,dv (.wa 8) f.2.2.1,dv (.wa 64) f.2.2.2]
abbrev qdv:=Zr⊕vl
def qtf (N:Nat) (o_10:List UInt8) (o_10_2:Vector UInt8 32) (o_10_3:Vector UInt32 8) (o_10_4:Vector UInt32 64) (v:Wm):Tree (Wm⊕qdv):=
 .cond (decide (((0:Int)) < ((o_10.length:Nat):Int))) (
 .chk (0≤(0:Int)∧(0:Int)≤(64:Int)∧(64:Int)≤((o_10.length:Nat):Int)) <|
 .chk (o_10.length=o_10.length) <|
 .bind (qco N o_10_3 o_10_4 ((o_10.take 64).drop 0)) fun r1=>
 .chk (0≤(64:Int)∧(64:Int)≤((o_10.length:Nat):Int)) <|
 .chk (o_10.length=o_10.length) <|
 .ret (.inr (.inl (r1,o_10.drop 64)))) <|
 .ret (.inr (.inr ((.inl ()))))
def qjO (N n:Nat) (f:vZ):qdv→Option vl
 | .inl w=>qeu N n f w
 | .inr w=>some w
def qtt (f:vZ):qdv→Ex×TSt
 | .inl w=>(.normal,qey f w)
 | .inr w=>vY f w
def qjx (N n:Nat) (f:vZ) (v:Wm):Option vl:=zj (qtf N f.1 f.2.1 f.2.2.1 f.2.2.2) (qjO N n f) n v
theorem qto (N:Nat) (f:vZ) (n:Nat) (v:Wm) (y:vl) (h:qjx N n f v=some y):LG Tryz.prog Jy 78 (q0 Vq 10) (qth f v) (vY f y):=
 zU qn (E:=qaQ N) (L:=qP (qjv N)) (st:=qtt f) (g:=(qjO N n f)) (R:=vY f) (Wx N) (qz (by kernel_rfl) trivial) (rg0 (by kernel_rfl)) (fun v=>by kernel_rfl) (fun w y h=>by
 rcases w with w | w
 ·exact qn6 N f n w y h
 ·exact ze (st:=vY f) (fun y=>by rcases y with _ | _<;>rfl) w y h
) (js0 rfl) n v y h
def qnu (N:Nat) (o_10:List UInt8) (o_10_2:Vector UInt8 32) (o_10_3:Vector UInt32 8) (o_10_4:Vector UInt32 64):Option vl:=qjx N N (o_10,o_10_2,o_10_3,o_10_4) ()
def qjL (N:Nat):qy:=smL qjq [.bl,(.ba 32),(.wa 8),(.wa 64)] vl (fun x=>qnu N x.1 x.2.1 x.2.2.1 x.2.2.2.1) (csS cs1) fun x=>vY (x.1,x.2.1,x.2.2.1,x.2.2.2.1)
theorem qrm (N:Nat):vW Tryz.prog Jy 78 (q0 Vq 10) (qjL N):=ja fun x z h=>qto N (x.1,x.2.1,x.2.2.1,x.2.2.2.1) N () z h
abbrev qai:=Vector UInt8 32×Vector UInt32 8
abbrev JZ:=Vector UInt8 32×Int×Bool
def Wi (f:qai) (y:JZ):Ex×TSt:=(.exit 6,⟨0,63,[],[(2,.p 20 [] 0),(5,.p 50 [] 0),(7,.p 70 [] 0),(46,xi y.2.1),(47,xb y.2.2)],[(20,.cell false (.tv (.ba 32) f.1)),(50,.cell false (.tv (.wa 8) f.2)),(70,.cell false (.tv (.ba 32) (y.1:Vector UInt8 32)))],false,[]⟩)
def qtr (N:Nat):List (Nat×qy):=[]
abbrev Wh:=Vector UInt8 32×Int
def qju:SP:=⟨0,63,[],[(2,.k (.p 20 [] 0)),(5,.k (.p 50 [] 0)),(7,.k (.p 70 [] 0)),(46,.x (.i .i64))],[(20,.cell false (.x (.ba 32))),(50,.cell false (.x (.wa 8))),(70,.cell false (.x (.ba 32)))],false,[]⟩
def qtz (f:qai) (v:Wh):TSt:=zw qju [dv (.ba 32) f.1,dv (.wa 8) f.2,dv (.ba 32) v.1,dv (.i .i64) v.2]
def qsM (N:Nat) (o_15:Vector UInt8 32) (o_15_2:Vector UInt32 8) (v:Wh):Tree (Wh⊕JZ):=
 .cond (decide (v.2 < ((32:Int)))) (
 .chk ((4:Int)≠0) <|
 .chk (qf (v.2.tdiv 4)) <|
 .chk (0≤(v.2.tdiv 4)∧(v.2.tdiv 4) < ((8:Nat):Int)) <|
 .chk ((v.2.tdiv 4).toNat < 8) <|
 .chk ((4:Int)≠0) <|
 .chk (qf (((8:Int)) * (v.2.tmod 4))) <|
 .chk (qf (((24:Int)) - (((8:Int)) * (v.2.tmod 4)))) <|
 .chk (0≤(((24:Int)) - (((8:Int)) * (v.2.tmod 4)))) <|
 let w1:Int:=Jk (((o_15_2.toList.getD ((v.2.tdiv 4).toNat) 0).toNat:Nat):Int) (min (((24:Int)) - (((8:Int)) * (v.2.tmod 4))).toNat 32)
 .chk (0≤v.2∧v.2 < ((32:Nat):Int)) <|
 .chk (inB (IntKind.u8.wrap w1)) <|
 .chk (v.2.toNat < 32) <|
 .chk (qf (v.2 + 1)) <|
 .ret (.inl (v.1.setIfInBounds v.2.toNat (UInt8.ofNat (IntKind.u8.wrap w1).toNat),v.2 + 1))) <|
 .ret (.inr (v.1,v.2,decide (v.2 < ((32:Int)))))
def qjp (N n:Nat) (f:qai) (v:Wh):Option JZ:=zj (qsM N f.1 f.2) some n v
theorem qtc (N:Nat) (f:qai) (n:Nat) (v:Wh) (y:JZ) (h:qjp N n f v=some y):LG Tryz.prog Jy 78 (q0 Vq 15) (qtz f v) (Wi f y):=
 zU qn (E:=qaQ N) (L:=qP (qtr N)) (st:=Wi f) (g:=some) (R:=Wi f) (Wx N) (qz (by kernel_rfl) trivial) (rg0 (by kernel_rfl)) (fun v=>by kernel_rfl) (ze (st:=Wi f) fun y=>by rfl) (js0 rfl) n v y h
def qgA (N:Nat) (o_15:Vector UInt8 32) (o_15_2:Vector UInt32 8) (o_15_3:Vector UInt8 32) (s46_15:Int):Option JZ:=qjp N N (o_15,o_15_2) (o_15_3,s46_15)
def qjm (N:Nat):qy:=smL qju [(.ba 32),(.wa 8),(.ba 32),(.i .i64)] JZ (fun x=>qgA N x.1 x.2.1 x.2.2.1 x.2.2.2.1) cs1 fun x=>Wi (x.1,x.2.1)
theorem qqT (N:Nat):vW Tryz.prog Jy 78 (q0 Vq 15) (qjm N):=ja fun x z h=>qtc N (x.1,x.2.1) N (x.2.2.1,x.2.2.2.1) z h
def qmc (z:Vector UInt8 32):TV×THp:=(.tv (.ba 32) z,[])
def qr5 (N:Nat) (a0:List UInt8):Tree (Vector UInt8 32):=
 .bind (qbY a0) fun r1=>
 .chk (vq (((([]:List UInt8))++a0).length) (((([]:List UInt8))++a0).length) ((((([]:List UInt8))++a0)++[(UInt8.ofNat 128)]).length) 1) <|
 .bind (jh [((((([]:List UInt8))++a0)++[(UInt8.ofNat 128)]).length,(((([]:List UInt8))++a0)++[(UInt8.ofNat 128)]).length)] (qp8 N ((Vector.replicate 32 0)) a0 (((([]:List UInt8))++a0)++[(UInt8.ofNat 128)]))) fun z2=>
 .bind (jh [(z2.1.length,z2.1.length)] (qqo N ((Vector.replicate 32 0)) a0 z2.1 0)) fun z3=>
 .bind (qsi) fun r4=>
 .bind (qr6) fun r5=>
 .bind (jh [(z3.1.length,z3.1.length)] (qnu N z3.1 ((Vector.replicate 32 0)) ((((((((((Vector.replicate 8 0)).setIfInBounds 0 ((UInt32.ofNat 1779033703))).setIfInBounds 1 ((UInt32.ofNat 3144134277))).setIfInBounds 2 ((UInt32.ofNat 1013904242))).setIfInBounds 3 ((UInt32.ofNat 2773480762))).setIfInBounds 4 ((UInt32.ofNat 1359893119))).setIfInBounds 5 ((UInt32.ofNat 2600822924))).setIfInBounds 6 ((UInt32.ofNat 528734635))).setIfInBounds 7 ((UInt32.ofNat 1541459225))) ((((((((((((((((((((((((((((((((((((((((((((((((((((((((((((((((((Vector.replicate 64 0)).setIfInBounds 0 ((UInt32.ofNat 1116352408))).setIfInBounds 1 ((UInt32.ofNat 1899447441))).setIfInBounds 2 ((UInt32.ofNat 3049323471))).setIfInBounds 3 ((UInt32.ofNat 3921009573))).setIfInBounds 4 ((UInt32.ofNat 961987163))).setIfInBounds 5 ((UInt32.ofNat 1508970993))).setIfInBounds 6 ((UInt32.ofNat 2453635748))).setIfInBounds 7 ((UInt32.ofNat 2870763221))).setIfInBounds 8 ((UInt32.ofNat 3624381080))).setIfInBounds 9 ((UInt32.ofNat 310598401))).setIfInBounds 10 ((UInt32.ofNat 607225278))).setIfInBounds 11 ((UInt32.ofNat 1426881987))).setIfInBounds 12 ((UInt32.ofNat 1925078388))).setIfInBounds 13 ((UInt32.ofNat 2162078206))).setIfInBounds 14 ((UInt32.ofNat 2614888103))).setIfInBounds 15 ((UInt32.ofNat 3248222580))).setIfInBounds 16 ((UInt32.ofNat 3835390401))).setIfInBounds 17 ((UInt32.ofNat 4022224774))).setIfInBounds 18 ((UInt32.ofNat 264347078))).setIfInBounds 19 ((UInt32.ofNat 604807628))).setIfInBounds 20 ((UInt32.ofNat 770255983))).setIfInBounds 21 ((UInt32.ofNat 1249150122))).setIfInBounds 22 ((UInt32.ofNat 1555081692))).setIfInBounds 23 ((UInt32.ofNat 1996064986))).setIfInBounds 24 ((UInt32.ofNat 2554220882))).setIfInBounds 25 ((UInt32.ofNat 2821834349))).setIfInBounds 26 ((UInt32.ofNat 2952996808))).setIfInBounds 27 ((UInt32.ofNat 3210313671))).setIfInBounds 28 ((UInt32.ofNat 3336571891))).setIfInBounds 29 ((UInt32.ofNat 3584528711))).setIfInBounds 30 ((UInt32.ofNat 113926993))).setIfInBounds 31 ((UInt32.ofNat 338241895))).setIfInBounds 32 ((UInt32.ofNat 666307205))).setIfInBounds 33 ((UInt32.ofNat 773529912))).setIfInBounds 34 ((UInt32.ofNat 1294757372))).setIfInBounds 35 ((UInt32.ofNat 1396182291))).setIfInBounds 36 ((UInt32.ofNat 1695183700))).setIfInBounds 37 ((UInt32.ofNat 1986661051))).setIfInBounds 38 ((UInt32.ofNat 2177026350))).setIfInBounds 39 ((UInt32.ofNat 2456956037))).setIfInBounds 40 ((UInt32.ofNat 2730485921))).setIfInBounds 41 ((UInt32.ofNat 2820302411))).setIfInBounds 42 ((UInt32.ofNat 3259730800))).setIfInBounds 43 ((UInt32.ofNat 3345764771))).setIfInBounds 44 ((UInt32.ofNat 3516065817))).setIfInBounds 45 ((UInt32.ofNat 3600352804))).setIfInBounds 46 ((UInt32.ofNat 4094571909))).setIfInBounds 47 ((UInt32.ofNat 275423344))).setIfInBounds 48 ((UInt32.ofNat 430227734))).setIfInBounds 49 ((UInt32.ofNat 506948616))).setIfInBounds 50 ((UInt32.ofNat 659060556))).setIfInBounds 51 ((UInt32.ofNat 883997877))).setIfInBounds 52 ((UInt32.ofNat 958139571))).setIfInBounds 53 ((UInt32.ofNat 1322822218))).setIfInBounds 54 ((UInt32.ofNat 1537002063))).setIfInBounds 55 ((UInt32.ofNat 1747873779))).setIfInBounds 56 ((UInt32.ofNat 1955562222))).setIfInBounds 57 ((UInt32.ofNat 2024104815))).setIfInBounds 58 ((UInt32.ofNat 2227730452))).setIfInBounds 59 ((UInt32.ofNat 2361852424))).setIfInBounds 60 ((UInt32.ofNat 2428436474))).setIfInBounds 61 ((UInt32.ofNat 2756734187))).setIfInBounds 62 ((UInt32.ofNat 3204031479))).setIfInBounds 63 ((UInt32.ofNat 3329325298))))) fun z6=>
 .sum z6 (fun z7=>
 .bind (qgA N ((Vector.replicate 32 0)) ((((((((((Vector.replicate 8 0)).setIfInBounds 0 ((UInt32.ofNat 1779033703))).setIfInBounds 1 ((UInt32.ofNat 3144134277))).setIfInBounds 2 ((UInt32.ofNat 1013904242))).setIfInBounds 3 ((UInt32.ofNat 2773480762))).setIfInBounds 4 ((UInt32.ofNat 1359893119))).setIfInBounds 5 ((UInt32.ofNat 2600822924))).setIfInBounds 6 ((UInt32.ofNat 528734635))).setIfInBounds 7 ((UInt32.ofNat 1541459225))) ((Vector.replicate 32 0)) 0) fun z8=>
 .ret z8.1) fun z7=>
 .bind (qgA N ((Vector.replicate 32 0)) z7.1 ((Vector.replicate 32 0)) 0) fun z8=>
 .ret z8.1
def qrQ (N:Nat) (a0:List UInt8):Option (Vector UInt8 32):=(qr5 N a0).run some
def qBn (N:Nat):List (Nat×qy):=[(2,qku N),(5,qmj N),(10,qjL N),(15,qjm N)]
def qBt (N:Nat):Ent:=smF ⟨78,[],[.x .bl],[],[]⟩ [.bl] (Vector UInt8 32) (fun x=>qrQ N x.1) cs1 fun _=>qmc
theorem qw1 (N:Nat):qmy Tryz.prog ⟨78,[],[.x .bl],[],[]⟩ [.bl] (fun x=>qr5 N x.1) (fun _=>qmc):=
 qhH (H:=Jy) (L:=qP (qBn N)) 0 qC2 (Wx N) (qz (by kernel_rfl) ⟨qsY N,qte N,qrm N,qqT N,trivial⟩) (rg0 (by kernel_rfl)) fun x=>by kernel_rfl
theorem qyR (N:Nat):zb Tryz.prog (qBt N):=qkn (qw1 N)
end Go.Rx
end
set_option maxRecDepth 100000
noncomputable section
namespace Go.Rx
open Go.Proofs
def dg0:Vector UInt8 32:=#v[227,176,196,66,152,252,28,20,154,251,244,200,153,111,185,36,39,174,65,228,100,155,147,76,164,149,153,27,120,82,184,85]
theorem qFZ:qrQ 300 []=some dg0:=by kernel_rfl
def qFK:List (List UInt8×Vector UInt8 32):=[([],dg0)]
theorem qEM:qyf (qrQ 300) qFK:=⟨qFZ,trivial⟩
def quS:Ent:=smF ⟨78,[],[.x .bl],[],[]⟩ [.bl] (Vector UInt8 32) (fun x=>qvD qFK x.1) cs1 fun _=>qmc
theorem qE9:zb Tryz.prog quS:=qFv (qyR 300) fun x z h=>qxu qEM x.1 z h
end Go.Rx
end
set_option maxRecDepth 100000
noncomputable section
namespace Go.Rx
open Go.Proofs
def qEU:List (Nat×TH):=[(11,{ live:=[(1,[1]),(2,[1,2,3]),(3,[1,2,3,4,5,6]),(4,[1,2,3,4,5,6,7,8]),(5,[1,2,3,4,5,6,7,8,9]),(6,[1,2,3,4,5,6,7,8,9,10,11]),(7,[0])],dec:=[44,49,52,56,61,65,71,75,81,85],rd:=[(1,[1]),(3,[4]),(4,[7]),(5,[9]),(6,[10])] }),
 (13,{ live:=[(0,[1]),(1,[1,12]),(2,[2,3]),(3,[1,4]),(4,[1,6]),(5,[1,6,7]),(6,[1,6,7,32]),(7,[1,6,7,32,33]),(8,[6]),(9,[1,6,7,32,43]),(10,[6]),(11,[1,6,7,58]),(12,[1,6,7,8]),(13,[6]),(14,[2,3])],rd:=[(0,[1])] }),
 (15,{ live:=[(0,[0,2]),(1,[0,2,5]),(2,[0,2,5,6]),(3,[0,2,5,6,7,8,9]),(4,[0,2,5,6,7]),(5,[0,2,5,6]),(6,[0,2,5,6,41]),(7,[0,2,5,6]),(8,[0,2,5,6,46]),(9,[0,2,5,6,46,47]),(10,[0,2,5,6,10,11,12]),(11,[0,2,5,6,10]),(12,[0,2,5,6]),(13,[0,2,5,6,46,64]),(14,[0,2,5,6]),(15,[0,2,5,6,75]),(16,[0,2,5,6,13,14,15]),(17,[0,2,5,6,13]),(18,[0,2,5,6]),(19,[0,2,5,6,103]),(20,[2,3,4]),(21,[2,3,4])],dec:=[99],rd:=[(3,[7])] }),
 (19,{ live:=[(0,[1]),(1,[1,23]),(2,[2]),(3,[2])],dec:=[6,11,18,27,32,37,43] }),
 (20,{ live:=[(0,[2,3]),(1,[2,3,5]),(2,[4])],dec:=[11,18,25,33,40,47,54,61] }),
 (21,{ live:=[(0,[1]),(1,[3]),(2,[2])] }),
 (24,{ live:=[(0,[2,3,4]),(1,[2,3,4,17]),(2,[4,5]),(3,[2,3,4,6]),(4,[2,3,4,7]),(5,[2,3,4,7,25]),(6,[4,5]),(7,[2,3,4,8,9]),(8,[2,3,4,8,9,44]),(9,[4,5]),(10,[4,5])],dec:=[13,21],rd:=[(3,[6])] }),
 (27,{ live:=[(0,[2,3,4]),(1,[2,4,6]),(2,[2,4,6,12]),(3,[4,5]),(4,[4,5])] }),
 (28,{ live:=[(0,[2,3,4]),(1,[2,4,6]),(2,[2,4,6,12]),(3,[4,5]),(4,[4,5])] }),
 (29,{ live:=[(0,[0,2]),(1,[2])] }),
 (30,{ live:=[(0,[1]),(1,[1,6,7,8]),(2,[1,6,7,8,9]),(3,[1,3,4,6,7,8]),(4,[1,6,7,8,32]),(5,[2]),(6,[1,6,7,8]),(7,[2])],dec:=[16,19],rd:=[(3,[4])] }),
 (33,{ live:=[(0,[1]),(1,[1,6]),(2,[2,3]),(3,[2,3])],fresh:=[15],esc:=true }),
 (34,{ live:=[(0,[0]),(1,[0,3]),(2,[0,3,9,10,11]),(3,[0,3,9,10,11,12]),(4,[0,3,5,9,10,11]),(5,[0,3,9,10,11]),(6,[0,3,9,10,11,20]),(7,[0,3,9,10,11]),(8,[0,3,9,10,11]),(9,[0,6]),(10,[6,25,26,27]),(11,[6,25,26,27,28]),(12,[6,8,25,26,27]),(13,[6,25,26,27]),(14,[6,25,26,27]),(15,[2])],raw:=[85],fresh:=[24] }),
 (35,{ live:=[(0,[0]),(1,[2])],fresh:=[6],esc:=true }),
 (36,{ live:=[(0,[0]),(1,[0,9]),(2,[2,3]),(3,[0,4]),(4,[4,14,15,16]),(5,[4,14,15,16,17]),(6,[4,6,14,15,16]),(7,[4,6,14,15,16,21]),(8,[4,14,15,16]),(9,[4,14,15,16]),(10,[4,14,15,16]),(11,[2,3])],rd:=[(6,[6])] }),
 (42,{ live:=[(0,[0]),(1,[2])] }),
 (43,{ live:=[(0,[0,2]),(1,[2])] }),
 (44,{ live:=[(0,[0,2]),(1,[2,5,6,7]),(2,[2,6,7,8]),(3,[2,6,8,28]),(4,[2,3,4]),(5,[2,3,4])],dec:=[24],rd:=[(2,[8])] }),
 (45,{ live:=[(0,[0,1,2]),(1,[0,1]),(2,[0,1,31]),(3,[6]),(4,[0,1,7]),(5,[7]),(6,[6])],dec:=[13,17] }),
 (46,{ live:=[(0,[0,1]),(1,[0,1,7,8,9]),(2,[1,7,8,9,10]),(3,[7,8,10,33]),(4,[4,5,6]),(5,[4,5,6])],dec:=[21,25] }),
 (47,{ live:=[(0,[0,2]),(1,[2])] }),
 (48,{ live:=[(0,[0]),(1,[0,5,6,7]),(2,[0,5,6,23]),(3,[2,3,4]),(4,[0,5,6,8]),(5,[0,6,8,24,25]),(6,[0,6,8,24,25,26]),(7,[0,6,8,9,10,11,24,25]),(8,[0,6,8,9,10,24,25,36]),(9,[2,3,4]),(10,[0,6,8,10,24,25]),(11,[0,6,8,24,25]),(12,[0,6,8,24,25]),(13,[6,8,47]),(14,[2,3,4]),(15,[2,3,4])],dec:=[20],rd:=[(7,[9])] }),
 (59,{ live:=[(0,[1,2]),(1,[1,2,3]),(2,[1,2,3,12]),(3,[1,2,3,12,13]),(4,[2,3]),(5,[1,2,3,12,21]),(6,[2,3]),(7,[1,2,3,35]),(8,[2,3]),(9,[2])] }),
 (60,{ live:=[(0,[1]),(1,[2])],dec:=[6,10,15,20] }),
 (61,{ live:=[(0,[0]),(1,[2])],dec:=[5] }),
 (62,{ live:=[(0,[0]),(1,[0,3]),(2,[0,3,6,7,8]),(3,[0,3,6,7,8,9]),(4,[0,3,5,6,7,8]),(5,[0,3,5,6,7,8,14]),(6,[2]),(7,[0,3,6,7,8]),(8,[0,3,6,7,8]),(9,[2])],dec:=[27],rd:=[(4,[5])] }),
 (63,{ live:=[(0,[0,1]),(1,[4])] }),
 (65,{ live:=[(0,[1]),(1,[2,3])] }),
 (66,{ live:=[(0,[1]),(1,[2,3])] }),
 (67,{ live:=[(0,[1]),(1,[1,4,5]),(2,[1,4,5,20]),(3,[2,3]),(4,[1,6,7]),(5,[1,6,31]),(6,[2,3]),(7,[2,3])] }),
 (68,{ live:=[(0,[2,3,4]),(1,[2,3,4,6]),(2,[2,3,4,6,39]),(3,[4,5]),(4,[2,4,47,48,49]),(5,[2,4,47,48,49,50]),(6,[2,4,8,47,48,49]),(7,[2,4,8,47,48,49,54]),(8,[2,4,9,10,47,48,49]),(9,[2,4,9,10,47,48,49,64]),(10,[4,5]),(11,[2,4,47,48,49]),(12,[2,4,47,48,49]),(13,[4,5])],dec:=[19,23,29,34],rd:=[(1,[6]),(6,[8]),(8,[9])] }),
 (73,{ live:=[(0,[0,1]),(1,[0,1,7,8]),(2,[0,1,7,8,9]),(3,[0,1,5,7,8]),(4,[0,1,5,7,8,16]),(5,[4]),(6,[0,1,7,8]),(7,[4])] }),
 (74,{ live:=[(0,[1,2]),(1,[3])] }),
 (75,{ live:=[(0,[1,2]),(1,[1,2]),(2,[2])] }),
 (76,{ live:=[(0,[0,1]),(1,[0,1,7,8]),(2,[0,1,7,8,9]),(3,[0,1,5,7,8]),(4,[0,1,5,7,8,16]),(5,[4]),(6,[0,1,7,8]),(7,[4])] }),
 (77,{ live:=[(0,[1,2]),(1,[3])] }),
 (78,{ live:=[(0,[0,2]),(1,[0,2,3]),(2,[0,2,3,16]),(3,[0,2,3]),(4,[0,2,3,20]),(5,[0,2,3,20,21]),(6,[0,2,3,4,20]),(7,[0,2,3,20]),(8,[0,2,3,20]),(9,[2,3,5,6]),(10,[2,3,5,6,40]),(11,[2,3,5,6]),(12,[2,3,5,6]),(13,[2,5,7]),(14,[2,5,7,46]),(15,[2,5,7,46,47]),(16,[2,5,7,8,46]),(17,[2,5,7,46]),(18,[2,5,7,46]),(19,[2])],fresh:=[10] }),
 (79,{ live:=[(0,[1]),(1,[1,21]),(2,[2]),(3,[1,23,24,25]),(4,[1,23,24,25,26]),(5,[1,3,4,23,24,25]),(6,[1,4,5,23,24,25]),(7,[1,23,24,25,74]),(8,[2]),(9,[1,23,24,25]),(10,[2])],dec:=[10,15,32,37,40,55,60,66],rd:=[(5,[4])] }),
 (80,{ live:=[(0,[2,3]),(1,[4])],dec:=[8] }),
 (83,{ live:=[(0,[2,3,4]),(1,[2,3,4,22]),(2,[4,5]),(3,[2,3,4,6]),(4,[2,3,4,6,7]),(5,[4,6,7,30,31,32]),(6,[4,6,7,30,31,32,33]),(7,[4,6,7,9,30,31,32]),(8,[4,6,7,9,10,11,30,31,32]),(9,[4,6,7,9,10,30,31,32,44]),(10,[4,6,7,9,30,31,32]),(11,[4,6,7,30,31,32]),(12,[4,6,7,30,31,32]),(13,[4,6,7,30,31,32]),(14,[4,6,7,67]),(15,[4,5]),(16,[4,6,7]),(17,[4,6,7,12]),(18,[4,6,12,71,72,73]),(19,[4,6,12,71,72,73,74]),(20,[4,6,12,14,71,72,73]),(21,[4,6,12,71,72,73]),(22,[4,6,12,71,72,73]),(23,[4,5])],dec:=[18],rd:=[(7,[9]),(8,[10]),(20,[14])] }),
 (84,{ live:=[(0,[0]),(1,[0,3]),(2,[0,3,4]),(3,[0,3,4,10,11]),(4,[0,3,4,10,11,12]),(5,[0,3,4,5,10,11]),(6,[0,3,4,10,11]),(7,[0,3,4,10,11]),(8,[4]),(9,[2])],esc:=true }),
 (85,{ live:=[(0,[0,1]),(1,[0,1,6]),(2,[0,1]),(3,[0,1]),(4,[0,1,16]),(5,[0]),(6,[4])],esc:=true,nil:=[(5,[⟨.sl 0,900000850,.bl⟩])] }),
 (87,{ live:=[(0,[0]),(1,[0,5]),(2,[0,5,6]),(3,[5,6,9,10,11]),(4,[5,6,9,10,11,12]),(5,[5,6,7,8,9,10,11]),(6,[5,6,7,8,9,10,11,16]),(7,[5,6,7,8,9,10,11,16]),(8,[5,6,7,8,9,10,11,16]),(9,[5,6,7,8,9,10,11]),(10,[5,6,7,9,10,11,39]),(11,[5,6]),(12,[5,6,9,10,11]),(13,[5,6,44]),(14,[2,3,4]),(15,[2,3,4])],dec:=[21,28] }),
 (88,{ live:=[(0,[0,2]),(1,[0,2,5]),(2,[0,2,5,15]),(3,[2,3,4]),(4,[0,2,5,26]),(5,[2,6,7,8]),(6,[2,3,4]),(7,[0,2,5,9,10,11]),(8,[2,5,9,10,11,12,13,14]),(9,[2,5,9,10,12,13,72]),(10,[2,3,4]),(11,[2,3,4])],dec:=[19,61,65,69] }),
 (90,{ live:=[(0,[1]),(1,[1,4]),(2,[2]),(3,[2])],dec:=[8,13,23] }),
 (91,{ live:=[(0,[0,1]),(1,[0,1,10]),(2,[4]),(3,[0,1,12,13]),(4,[0,1,12,13,14]),(5,[0,1,5,12,13]),(6,[0,1,12,13,24]),(7,[4]),(8,[0,1,12,13]),(9,[4])] }),
 (92,{ live:=[(0,[1,2,3]),(1,[1,2,17]),(2,[6,7]),(3,[6,7])],dec:=[10] }),
 (93,{ live:=[(0,[2,3,4]),(1,[2,8]),(2,[10,11]),(3,[10,26]),(4,[6,7]),(5,[6,7])],rd:=[(1,[8]),(2,[10])] }),
 (94,{ live:=[(0,[0,1]),(1,[0,1,11]),(2,[4,5]),(3,[0,1,6]),(4,[0,6,12,13,14]),(5,[0,6,12,13,14,15]),(6,[0,6,8,12,13,14]),(7,[0,6,8,12,13,14,29]),(8,[4,5]),(9,[0,6,8,12,13,14]),(10,[0,6,8,12,13,14,34]),(11,[0,6,12,13,14]),(12,[0,6,12,13,14]),(13,[4,5])],dec:=[20],rd:=[(6,[8])] }),
 (95,{ live:=[(0,[1]),(1,[2])],dec:=[7] }),
 (103,{ live:=[(0,[0]),(1,[0,4]),(2,[2]),(3,[2])],vecs:=[5],esc:=true }),
 (104,{ live:=[(0,[0]),(1,[0,4]),(2,[2]),(3,[2])],vecs:=[5],esc:=true }),
 (105,{ live:=[(0,[0]),(1,[0])] }),
 (106,{ live:=[(0,[0]),(1,[0])] }),
 (107,{ live:=[(0,[0,2,6]),(1,[0,2,6,7]),(2,[0,2,6,7,19]),(3,[0,2,6,7,19,20]),(4,[0,2,6,7,8,19]),(5,[0,2,6,7,8,9,10,19]),(6,[0,2,6,7,9,11,19]),(7,[0,2,6,7,11,12,19]),(8,[0,2,6,7,11,12,19]),(9,[0,2,6,7,11,19]),(10,[0,2,6,7,19]),(11,[0,2,6,7,19]),(12,[0,7,95]),(13,[0,7,95,96]),(14,[0,7,13,95]),(15,[0,7,95]),(16,[0,7,95])],rd:=[(0,[6])] }),
 (108,{ live:=[(0,[1]),(1,[2])],dec:=[7,12] }),
 (109,{ live:=[(0,[2,3]),(1,[4])],dec:=[8] }),
 (110,{ live:=[(0,[0,1]),(1,[4])] }),
 (112,{ live:=[(0,[0]),(1,[0,3]),(2,[0,3,9,10,11]),(3,[0,3,9,10,11,12]),(4,[0,3,5,9,10,11]),(5,[0,3,9,10,11]),(6,[0,3,9,10,11,20]),(7,[0,3,9,10,11]),(8,[0,3,9,10,11]),(9,[0,6]),(10,[6,25,26,27]),(11,[6,25,26,27,28]),(12,[6,8,25,26,27]),(13,[6,25,26,27]),(14,[6,25,26,27]),(15,[2])],raw:=[129],fresh:=[24] }),
 (113,{ live:=[(0,[2,3,4]),(1,[2,3,4,23]),(2,[4,5]),(3,[2,3,4,6]),(4,[2,3,4,6]),(5,[2,3,4,6]),(6,[4,6,7]),(7,[4,7,43]),(8,[7,8]),(10,[4,5])],dec:=[12,17],fresh:=[43],rd:=[(8,[8])] }),
 (114,{ live:=[(0,[0,1,4])] }),
 (115,{ live:=[(0,[2,3]),(1,[4])] }),
 (116,{ live:=[(0,[0]),(1,[0,3]),(2,[0,3]),(3,[0,3,7]),(4,[0,3]),(5,[0,3]),(6,[2])] }),
 (117,{ live:=[(0,[0,1,2]),(1,[6])],dec:=[10] }),
 (118,{ live:=[(0,[0,1]),(1,[0,1]),(2,[1]),(3,[4,5])] }),
 (119,{ live:=[(0,[0]),(1,[2])] }),
 (124,{ live:=[(0,[0,2]),(1,[0,2,3]),(2,[0,2,3,7]),(3,[0,2,3,7,8]),(4,[0,2,3,4,7]),(5,[0,2,3,4,7,11]),(6,[0,2,3,7]),(7,[0,2,3,4,5,6,7]),(8,[0,2,3,7]),(9,[0,2,3,7]),(10,[2])] }),
 (125,{ live:=[(0,[0,1]),(1,[4])] }),
 (126,{ live:=[(0,[0]),(1,[0,3]),(2,[3,6,7,8]),(3,[3,6,7,8,9]),(4,[3,5,6,7,8]),(5,[3,5,6,7,8,14]),(6,[2]),(7,[3,6,7,8]),(8,[2])] }),
 (127,{ live:=[(0,[0,1]),(1,[0,1,5]),(2,[0,1,5,6]),(3,[0,1,6,11]),(4,[12]),(5,[4]),(6,[4]),(7,[0,1,13]),(8,[4]),(9,[0,1,16]),(10,[4]),(11,[19]),(12,[4]),(13,[4])] }),
 (129,{ live:=[(0,[0,1]),(1,[0,1,6]),(2,[0,1]),(3,[0,1]),(4,[0,1,16]),(5,[0]),(6,[4])],esc:=true,nil:=[(5,[⟨.sl 0,900001290,(.sl 19 (.ag [(.ba 16),(.ag [(.i .i64),(.i .i64)]),(.sl 4 (.ag [(.i .i64),(.ag [(.ag [(.i .i64),(.i .i64)]),.s])]))]))⟩])] }),
 (130,{ live:=[(0,[0,3]),(1,[0,9,10,11]),(2,[0,9,10,11,12]),(3,[0,5,9,10,11]),(4,[0,5,6,7,9,10,11]),(5,[0,5,6,9,10,11,22]),(6,[0,9,10,11]),(7,[0,9,10,11]),(8,[0,9,10,11])],rd:=[(3,[5]),(4,[6])] }),
 (131,{ live:=[(0,[2,3,4]),(1,[2,3,4,7]),(2,[4]),(3,[4])] }),
 (132,{ live:=[(0,[2,3]),(1,[4])],esc:=true }),
 (133,{ live:=[(0,[0,1,2,3,4,10]),(1,[0,1,2,3,4,10,11]),(2,[0,1,2,3,4,10,11,12]),(3,[0,1,2,3,4,10,11,12,25]),(5,[0,1,2,3,4,10,11,12,32]),(7,[0,1,2,3,4,10,11,12,39]),(8,[0,1,2,3,4,10,11,12]),(9,[0,1,2,3,4,10,11,12]),(10,[0,1,2,3,4,10,11,12,13,14]),(11,[0,1,2,3,4,10,11,12,13,14,56]),(12,[0,1,2,3,4,10,11,12,13]),(13,[0,1,2,3,4,10,11,12,13]),(14,[0,1,2,3,4,10,11,12,13,14]),(15,[0,1,2,3,4,10,11,12,13,75]),(16,[0,1,2,3,4,10,11,12,13,80]),(17,[0,1,2,3,4,10,11,12,13,97]),(18,[0,2,3,4,10,11,15]),(19,[0,1,2,3,4,10,11]),(20,[0,1,2,3,4,12,16,17]),(21,[0,1,2,3,4,11,12,16]),(22,[0,1,2,3,4,11,12,16,18,19]),(23,[0,1,2,3,4,11,16,18,19,20]),(24,[0,1,2,3,4,11,16,18,19,20,125]),(25,[0,1,2,3,4,10,11,16]),(26,[0,2,3,4,10,11,16]),(27,[0,1,2,3,4,10,11]),(28,[0,1,2,3,4,10,11,16]),(29,[0,1,3,4,10,11,16]),(30,[0,1,2,3,4,10,11])],dec:=[69,72,83] }),
 (134,{ live:=[(0,[0]),(1,[2]),(2,[2])] }),
 (135,{ live:=[(0,[0,6]),(2,[19])] }),
 (142,{ live:=[(0,[0,1]),(1,[0,5]),(2,[4])] }),
 (143,{ live:=[(0,[0]),(1,[2])] }),
 (144,{ live:=[(0,[2,3,4]),(1,[2,3,4,7]),(2,[4]),(3,[4])] }),
 (145,{ live:=[(0,[0,1,2,7]),(1,[0,1,2,7,8]),(2,[0,1,2,4,7]),(3,[0,1,2,4,5,6,7]),(4,[0,1,2,7,30]),(5,[0,1,2,7])],dec:=[17,23],rd:=[(3,[5])] }),
 (146,{ live:=[(0,[0,1,2,3,8]),(1,[0,1,2,3,8,14]),(2,[0,1,2,3,8]),(3,[0,1,2,3,8,9]),(4,[0,1,2,3,8,9,34]),(5,[0,1,2,3,8,9]),(6,[0,1,2,3,8,9])],dec:=[21] }),
 (147,{ live:=[(0,[0,1,2,3,8]),(1,[0,1,2,3,8,9]),(2,[0,3,8,9,10]),(3,[0,3,8,9,10,11]),(4,[0,3,8,9,10,11,21]),(5,[0,3,8,9,10,11]),(6,[0,3,8,9,10,11]),(7,[0,3,8,9,12]),(8,[0,3,8,9,12,33]),(9,[0,3,8,9,12]),(10,[0,3,8,9,12]),(11,[0,3,8,9,12])] }),
 (148,{ live:=[(0,[0,1,8]),(1,[0,1,8,17]),(2,[0,1,8,9]),(3,[0,1,8,9,10]),(4,[0,1,8,9,10,11]),(5,[0,1,8,9,10,11,35]),(6,[0,1,8,9,10,11]),(7,[0,1,8,9,10,11,12]),(8,[0,1,8,9,10,11,12,45]),(9,[0,1,8,9,10,11,12]),(10,[0,1,8,9,10,11])] }),
 (149,{ live:=[(0,[0,1,2,3]),(1,[0,1,3,10]),(2,[0,1,3,10,11]),(3,[0,1,3,10,11,12]),(4,[0,1,3,10,11,12,13]),(5,[0,3,10,11,12,13,14]),(6,[0,3,10,11,12,13,14,34]),(7,[0,3,11,12,13,14,36]),(8,[0,3,11,12,13,14]),(9,[0,3,11,12,13,14]),(10,[0,3,11,12,13,14]),(11,[11,13]),(12,[13,55]),(13,[8,9]),(14,[13,55,57]),(15,[8,9]),(16,[13,60]),(17,[8,9])] }),
 (150,{ live:=[(0,[0,2,8]),(1,[0,8,9]),(2,[0,8,9,15]),(3,[0,8,9]),(4,[0,8,9]),(5,[0,8,9])] }),
 (151,{ live:=[(0,[0,1,2,3]),(1,[0,1,2,3,9]),(2,[0,1,2,3,9,10]),(3,[0,1,2,3,9,10,16]),(4,[0,1,2,3,9,10]),(5,[0,1,2,3,9,10,36]),(6,[0,1,2,3,9,10]),(7,[0,1,2,3,9,10,41]),(8,[8]),(9,[0,1,2,3,9,10,45]),(10,[8]),(11,[0,1,2,3,9,10]),(12,[0,1,2,3,9,10,65]),(13,[0,1,2,3,9,10,11]),(14,[0,1,2,3,9,10,11,69]),(15,[0,1,2,3,9,10,11]),(16,[0,1,2,3,9,10,11,84]),(17,[0,1,2,3,9,10,11]),(18,[0,1,2,3,9,10,104]),(19,[0,1,2,3,9,10,12]),(20,[0,1,2,3,9,10,12,109]),(21,[0,1,2,3,9,10,12]),(22,[0,1,2,3,9,10,12,124]),(23,[0,1,2,3,9,10,12]),(24,[8])],dec:=[22] }),
 (152,{ live:=[(0,[0,1,2,3,4]),(1,[0,1,2,4]),(2,[0,1,4,11,12]),(3,[0,1,4,11,12,47]),(4,[0,1,4,11,12]),(5,[0,1,4,11,12,65]),(6,[0,1,4,11,12]),(7,[0,1,4,11,12,70]),(8,[0,1,4,11,12]),(9,[0,1,4,11,12]),(10,[0,1,4,11,12]),(11,[10])],dec:=[34,53] }),
 (153,{ live:=[(0,[0,1,2,3,4]),(1,[0,1,2,4]),(2,[0,1,4,12,13]),(3,[0,1,4,12,13,47]),(4,[0,1,4,12,13]),(5,[0,1,4,12,13,66]),(6,[0,1,4,12,13]),(7,[0,1,4,12,13,71]),(8,[13]),(9,[10,11]),(10,[0,1,4,12,13]),(11,[0,1,4,12,13]),(12,[0,1,4,12,13]),(13,[0,1,4,12,13,120]),(14,[0,1,4,12,13]),(15,[0,1,4,12,13,139]),(16,[0,1,4,12,13]),(17,[0,1,4,12,13,144]),(18,[0,1,4,12,13]),(19,[0,1,4,12,13]),(20,[0,1,4,12,13]),(21,[13]),(22,[10,11])],dec:=[35,53,108,126] }),
 (154,{ live:=[(0,[0,2]),(1,[0,2,4]),(2,[0]),(3,[0,2]),(4,[0,2,8]),(5,[0,2]),(6,[0,2]),(7,[2])] }),
 (155,{ live:=[(0,[0,2]),(1,[0,2,4]),(2,[0]),(3,[0,2]),(4,[0,2,8]),(5,[0,2]),(6,[0,2]),(7,[0,2,14]),(8,[0,2]),(9,[0,2]),(10,[2])] }),
 (159,{ live:=[(0,[2,3]),(1,[5]),(2,[13,14]),(3,[13,14,15]),(4,[7,13,14]),(5,[8,13,14]),(6,[8,13,14,20]),(7,[4]),(8,[13,14]),(9,[4])],rd:=[(1,[5])] }),
 (160,{ live:=[(0,[0,2,3,4,10]),(1,[0,2,3,4,10,11]),(2,[0,2,3,4,10,11,18]),(3,[0,2,3,4,10,11,40]),(4,[0,2,3,4,10,11]),(5,[0,2,3,4,10,11,58]),(6,[0,2,3,4,11]),(7,[0,2,3,4,10])],dec:=[23] }),
 (161,{ live:=[(0,[0]),(1,[2])] }),
 (162,{ live:=[(0,[0]),(1,[0]),(2,[0]),(3,[0]),(4,[2])] }),
 (163,{ live:=[(0,[0,1,2,3]),(1,[8])] }),
 (164,{ live:=[(0,[0,1,2,3,4,5]),(1,[0,1,2,3,4,5]),(2,[0,1,2,4,5]),(3,[2]),(4,[12])] }),
 (166,{ live:=[(0,[0,1]),(1,[2])] }),
 (167,{ live:=[(0,[2,3,4]),(1,[2,3,4,7]),(2,[6]),(3,[12]),(4,[6]),(5,[6])] }),
 (168,{ live:=[(0,[0,1]),(1,[2])] }),
 (169,{ live:=[(0,[2,3,4]),(1,[2,3,4,7]),(2,[6]),(3,[12]),(4,[6]),(5,[6])] }),
 (170,{ live:=[(0,[2,3]),(1,[4])],dec:=[8] }),
 (171,{ live:=[(0,[0,1]),(1,[2])] }),
 (172,{ live:=[(0,[0,1]),(1,[0,1,5]),(2,[0,1,5,6]),(3,[0,1,6,11]),(4,[12]),(5,[4]),(6,[4]),(7,[0,1,13]),(8,[4]),(9,[0,1,16]),(10,[4]),(11,[19]),(12,[4]),(13,[4])] }),
 (173,{ live:=[(0,[0,1,2,3,4]),(1,[1,2,3,22]),(2,[1,2]),(3,[10,11]),(4,[10,11])] }),
 (175,{ live:=[(0,[0]),(1,[2])] })]
def qFg (k:FuncId):TH:=(get qEU k).getD {}
theorem qFb:qmv Tryz.prog [113]:=⟨qCX (fn:=Tryz.f113) (c:=Tryz.f113.body.getD .skip) (by kernel_rfl) (by kernel_rfl) (by kernel_rfl),trivial⟩
def qvL:Option Bool:=some true
theorem qzE:qzo Tryz.prog qFg [113] [quS,qvB] 400 30 11=some (.pv (.b true),[]):=by kernel_rfl
def qvO:Ent:=smF ⟨11,[],[],[],[]⟩ [] Bool (fun _=>qvL) cs1 fun _ z=>(xb z,[])
theorem qAA:zb Tryz.prog qvO:=qEO Tryz.prog (fun _=>rfl) qn (base:=[quS,qvB]) ⟨qE9,qFa,trivial⟩ qFb qzE
end Go.Rx
end
set_option maxRecDepth 100000
noncomputable section
namespace Go.Rx
open Go.Proofs
noncomputable def qoN:Code:=Tryz.f12.body.getD .skip
theorem qBT:FnF Tryz.prog 12 Tryz.f12 qoN:=⟨qn,by kernel_rfl,by kernel_rfl,by kernel_rfl⟩
def YD:TH:={ live:=[(0,[1]),(1,[1,13]),(2,[2]),(3,[1,3]),(4,[1,3,18]),(5,[1,3]),(6,[1,3,28]),(7,[2]),(8,[2])],dec:=[8] }
def qc9 (N:Nat):List Ent:=[]
theorem qbu (N:Nat):qT Tryz.prog (qc9 N):=trivial
abbrev Z8:=qb
abbrev jX:=Unit⊕(Int×Bool)
def Qe (f:Z8):jX→Ex×TSt
 | .inl y=>(.ret,⟨0,29,[],[(2,.bc false)],[],false,[]⟩)
 | .inr y=>(.exit 0,⟨0,29,[],[(1,.p 10 [] 0),(3,xi y.1),(18,xb y.2)],[(10,.cell false (.tv qF f))],false,[]⟩)
def qhg (N:Nat):List (Nat×qy):=[]
abbrev Qk:=Int
def qa3:SP:=⟨0,29,[],[(1,.k (.p 10 [] 0)),(3,.x (.i .i64))],[(10,.cell false (.x qF))],false,[]⟩
def qh0 (f:Z8) (v:Qk):TSt:=zw qa3 [dv qF f,dv (.i .i64) v]
def Z3 (N:Nat) (o_4:qb) (v:Qk):Tree (Qk⊕jX):=
 .cond (decide (v < (((qb.P o_4).length:Nat):Int))) (
 .bind (zh (qb.P o_4) v) fun e1=>
 .cond (decide (((300:Int)) < (((qa.Lit e1).length:Nat):Int))) (
 .ret (.inr (.inl ()))) <|
 .chk (qf (v + 1)) <|
 .ret (.inl (v + 1))) <|
 .ret (.inr (.inr ((v,decide (v < (((qb.P o_4).length:Nat):Int))))))
def qa2 (N n:Nat) (f:Z8) (v:Qk):Option jX:=zj (Z3 N f) some n v
theorem qg5 (N:Nat) (f:Z8) (n:Nat) (v:Qk) (y:jX) (h:qa2 N n f v=some y):LG Tryz.prog YD 12 (q0 qoN 4) (qh0 f v) (Qe f y):=
 zU qn (E:=qc9 N) (L:=qP (qhg N)) (st:=Qe f) (g:=some) (R:=Qe f) (qbu N) (qz (by kernel_rfl) trivial) (rg0 (by kernel_rfl)) (fun v=>by kernel_rfl) (ze (st:=Qe f) fun y=>by rcases y with _ | _<;>rfl) (js0 rfl) n v y h
def WW (N:Nat) (o_4:qb) (s3_4:Int):Option jX:=qa2 N N o_4 s3_4
def qaC (N:Nat):qy:=smL qa3 [qF,(.i .i64)] jX (fun x=>WW N x.1 x.2.1) (csS cs1) fun x=>Qe x.1
theorem qf9 (N:Nat):vW Tryz.prog YD 12 (q0 qoN 4) (qaC N):=ja fun x z h=>qg5 N x.1 N x.2.1 z h
def qms (z:Bool):TV×THp:=(xb z,[])
def ZY (N:Nat) (a0:qb):Tree (Bool):=
 .cond (decide (((80:Int)) < (((qb.P a0).length:Nat):Int))) (
 .ret false) <|
 .cond (decide (((300:Int)) < (((qb.V a0).length:Nat):Int))) (
 .ret false) <|
 .bind (WW N a0 0) fun z1=>
 .sum z1 (fun z2=>
 .ret false) fun z2=>
 .ret true
def Qa (N:Nat) (a0:qb):Option (Bool):=(ZY N a0).run some
def qkp (N:Nat):List (Nat×qy):=[(4,qaC N)]
def qdg (N:Nat):Ent:=smF ⟨12,[],[.x qF],[],[]⟩ [qF] (Bool) (fun x=>Qa N x.1) cs1 fun _=>qms
theorem qjP (N:Nat):zb Tryz.prog (qdg N):=
 q7 (H:=YD) (L:=qP (qkp N)) (ts:=[qF]) (T:=fun x=>ZY N x.1) 0 qBT (qbu N) (qz (by kernel_rfl) ⟨qf9 N,trivial⟩) (rg0 (by kernel_rfl)) fun x=>by kernel_rfl
noncomputable def qDs:Code:=Tryz.f59.body.getD .skip
theorem qBW:FnF Tryz.prog 59 Tryz.f59 qDs:=⟨qn,by kernel_rfl,by kernel_rfl,by kernel_rfl⟩
def qAO:TH:={ live:=[(0,[1,2]),(1,[1,2,3]),(2,[1,2,3,12]),(3,[1,2,3,12,13]),(4,[2,3]),(5,[1,2,3,12,21]),(6,[2,3]),(7,[1,2,3,35]),(8,[2,3]),(9,[2])] }
def qAM (N:Nat):List Ent:=[]
theorem qw5 (N:Nat):qT Tryz.prog (qAM N):=trivial
def qAw (z:qb):TV×THp:=(.tv qF z,[])
def qmr (a0:qb):Tree (qb):=
 .cond (decide ((qb.Kind a0)=((1:Int)))) (
 .ret (qb.mk (qb.Kind a0) (qb.ID a0) (qb.S a0) (qb.No a0) (qb.V a0) [] ((Vector.replicate 16 0)) 0 ((Vector.replicate 32 0)))) <|
 .cond (decide ((qb.Kind a0)=((2:Int)))) (
 .ret (qb.mk (qb.Kind a0) (qb.ID a0) (qb.S a0) (qb.No a0) [] [] (qb.zi a0) (qb.zk a0) (qb.D a0))) <|
 .cond (decide ((qb.Kind a0)=((3:Int)))) (
 .ret (qb.mk (qb.Kind a0) (qb.ID a0) (qb.S a0) (qb.No a0) [] (qb.P a0) ((Vector.replicate 16 0)) 0 (qb.D a0))) <|
 .ret (qb.mk (qb.Kind a0) (qb.ID a0) (qb.S a0) 0 [] [] ((Vector.replicate 16 0)) 0 ((Vector.replicate 32 0)))
def qmG (a0:qb):Option (qb):=(qmr a0).run some
def qA4:List (Nat×qy):=[]
def qsn:Ent:=smF ⟨59,[],[.x qF],[],[]⟩ [qF] (qb) (fun x=>qmG x.1) cs1 fun _=>qAw
theorem qyT:zb Tryz.prog (qsn):=
 q7 (H:=qAO) (L:=qP (qA4)) (ts:=[qF]) (T:=fun x=>qmr x.1) 0 qBW (qw5 0) (qz (by kernel_rfl) trivial) (rg0 (by kernel_rfl)) fun x=>by kernel_rfl
noncomputable def qod:Code:=Tryz.f91.body.getD .skip
theorem qDw:FnF Tryz.prog 91 Tryz.f91 qod:=⟨qn,by kernel_rfl,by kernel_rfl,by kernel_rfl⟩
def XO:TH:={ live:=[(0,[0,1]),(1,[0,1,10]),(2,[4]),(3,[0,1,12,13]),(4,[0,1,12,13,14]),(5,[0,1,5,12,13]),(6,[0,1,12,13,24]),(7,[4]),(8,[0,1,12,13]),(9,[4])] }
def qbN (N:Nat):List Ent:=[]
theorem Kw (N:Nat):qT Tryz.prog (qbN N):=trivial
abbrev Zg:=List qa×List qa×Int
abbrev jw:=Unit⊕(Int×Bool)
def vE (f:Zg):jw→Ex×TSt
 | .inl y=>(.ret,⟨0,26,[],[(4,.bc false)],[],false,[]⟩)
 | .inr y=>(.exit 0,⟨0,26,[],[(0,.tv (.sl 4 ql) f.1),(1,.tv (.sl 4 ql) f.2.1),(12,xi f.2.2),(13,xi y.1),(14,xb y.2)],[],false,[]⟩)
def qfe (N:Nat):List (Nat×qy):=[]
abbrev vA:=Int
def Kq:SP:=⟨0,26,[],[(0,.x (.sl 4 ql)),(1,.x (.sl 4 ql)),(12,.x (.i .i64)),(13,.x (.i .i64))],[],false,[]⟩
def qfh (f:Zg) (v:vA):TSt:=zw Kq [dv (.sl 4 ql) f.1,dv (.sl 4 ql) f.2.1,dv (.i .i64) f.2.2,dv (.i .i64) v]
def Zd (N:Nat) (s0_4:List qa) (s1_4:List qa) (s12_4:Int) (v:vA):Tree (vA⊕jw):=
 .cond (decide (v < s12_4)) (
 .bind (zh s0_4 v) fun e1=>
 .bind (zh s1_4 v) fun e2=>
 .cond (!(eqE ql e1 e2)) (
 .ret (.inr (.inl ()))) <|
 .chk (qf (v + 1)) <|
 .ret (.inl (v + 1))) <|
 .ret (.inr (.inr ((v,decide (v < s12_4)))))
def Kk (N n:Nat) (f:Zg) (v:vA):Option jw:=zj (Zd N f.1 f.2.1 f.2.2) some n v
theorem qfd (N:Nat) (f:Zg) (n:Nat) (v:vA) (y:jw) (h:Kk N n f v=some y):LG Tryz.prog XO 91 (q0 qod 4) (qfh f v) (vE f y):=
 zU qn (E:=qbN N) (L:=qP (qfe N)) (st:=vE f) (g:=some) (R:=vE f) (Kw N) (qz (by kernel_rfl) trivial) (rg0 (by kernel_rfl)) (fun v=>by kernel_rfl) (ze (st:=vE f) fun y=>by rcases y with _ | _<;>rfl) (js0 rfl) n v y h
def XA (N:Nat) (s0_4:List qa) (s1_4:List qa) (s12_4:Int) (s13_4:Int):Option jw:=Kk N N (s0_4,s1_4,s12_4) s13_4
def Ko (N:Nat):qy:=smL Kq [(.sl 4 ql),(.sl 4 ql),(.i .i64),(.i .i64)] jw (fun x=>XA N x.1 x.2.1 x.2.2.1 x.2.2.2.1) (csS cs1) fun x=>vE (x.1,x.2.1,x.2.2.1)
theorem qeH (N:Nat):vW Tryz.prog XO 91 (q0 qod 4) (Ko N):=ja fun x z h=>qfd N (x.1,x.2.1,x.2.2.1) N x.2.2.2.1 z h
def qi5 (z:Bool):TV×THp:=(xb z,[])
def XD (N:Nat) (a0:List qa) (a1:List qa):Tree (Bool):=
 .cond (!decide (((a0.length:Nat):Int)=((a1.length:Nat):Int))) (
 .ret false) <|
 .bind (XA N a0 a1 ((a0.length:Nat):Int) 0) fun z1=>
 .sum z1 (fun z2=>
 .ret false) fun z2=>
 .ret true
def Vn (N:Nat) (a0:List qa) (a1:List qa):Option (Bool):=(XD N a0 a1).run some
def qif (N:Nat):List (Nat×qy):=[(4,Ko N)]
def qbr (N:Nat):Ent:=smF ⟨91,[],[.x (.sl 4 ql),.x (.sl 4 ql)],[],[]⟩ [(.sl 4 ql),(.sl 4 ql)] (Bool) (fun x=>Vn N x.1 x.2.1) cs1 fun _=>qi5
theorem qhV (N:Nat):zb Tryz.prog (qbr N):=
 q7 (H:=XO) (L:=qP (qif N)) (ts:=[(.sl 4 ql),(.sl 4 ql)]) (T:=fun x=>XD N x.1 x.2.1) 0 qDw (Kw N) (qz (by kernel_rfl) ⟨qeH N,trivial⟩) (rg0 (by kernel_rfl)) fun x=>by kernel_rfl
noncomputable def qCL:Code:=Tryz.f63.body.getD .skip
theorem qCd:FnF Tryz.prog 63 Tryz.f63 qCL:=⟨qn,by kernel_rfl,by kernel_rfl,by kernel_rfl⟩
def qvs:TH:={ live:=[(0,[0,1]),(1,[4])] }
def qvZ (N:Nat):List Ent:=[qbr N]
theorem qqP (N:Nat):qT Tryz.prog (qvZ N):=⟨qhV N,trivial⟩
def quf (z:Bool):TV×THp:=(xb z,[])
def qeJ (N:Nat) (a0:List qa) (a1:List qa):Tree (Bool):=
 .bind (Vn N a0 a1) fun r1=>
 .ret r1
def qdR (N:Nat) (a0:List qa) (a1:List qa):Option (Bool):=(qeJ N a0 a1).run some
def qum (N:Nat):List (Nat×qy):=[]
def qlw (N:Nat):Ent:=smF ⟨63,[],[.x (.sl 4 ql),.x (.sl 4 ql)],[],[]⟩ [(.sl 4 ql),(.sl 4 ql)] (Bool) (fun x=>qdR N x.1 x.2.1) cs1 fun _=>quf
theorem qs7 (N:Nat):zb Tryz.prog (qlw N):=
 q7 (H:=qvs) (L:=qP (qum N)) (ts:=[(.sl 4 ql),(.sl 4 ql)]) (T:=fun x=>qeJ N x.1 x.2.1) 0 qCd (qqP N) (qz (by kernel_rfl) trivial) (rg0 (by kernel_rfl)) fun x=>by kernel_rfl
noncomputable def qDo:Code:=Tryz.f20.body.getD .skip
theorem qCQ:FnF Tryz.prog 20 Tryz.f20 qDo:=⟨qn,by kernel_rfl,by kernel_rfl,by kernel_rfl⟩
def qBc:TH:={ live:=[(0,[2,3]),(1,[2,3,5]),(2,[4])],dec:=[11,18,25,33,40,47,54,61] }
def qAD (N:Nat):List Ent:=[qlw N]
theorem qwq (N:Nat):qT Tryz.prog (qAD N):=⟨qs7 N,trivial⟩
def qAb (z:Bool):TV×THp:=(xb z,[])
def qlY (N:Nat) (a0:qb) (a1:qb):Tree (Bool):=
 .cond (eqE (.ba 16) (qb.ID a0) (qb.ID a1)) (
 .cond (eqE (.ba 16) (qb.zi a0) (qb.zi a1)) (
 .cond (decide ((qb.No a0)=(qb.No a1))) (
 .cond (decide ((qb.zk a0)=(qb.zk a1))) (
 .cond (decide ((qb.Kind a0)=(qb.Kind a1))) (
 .cond (eqE qB (qb.S a0) (qb.S a1)) (
 .cond (decide ((qb.V a0)=(qb.V a1))) (
 .cond (eqE (.ba 32) (qb.D a0) (qb.D a1)) (
 .bind (qdR N (qb.P a0) (qb.P a1)) fun r1=>
 .ret r1) <|
 .ret false) <|
 .ret false) <|
 .ret false) <|
 .ret false) <|
 .ret false) <|
 .ret false) <|
 .ret false) <|
 .ret false
def qhA (N:Nat) (a0:qb) (a1:qb):Option (Bool):=(qlY N a0 a1).run some
def qBo (N:Nat):List (Nat×qy):=[]
def qlC (N:Nat):Ent:=smF ⟨20,[],[.x qF,.x qF],[],[]⟩ [qF,qF] (Bool) (fun x=>qhA N x.1 x.2.1) cs1 fun _=>qAb
theorem qpm (N:Nat):zb Tryz.prog (qlC N):=
 q7 (H:=qBc) (L:=qP (qBo N)) (ts:=[qF,qF]) (T:=fun x=>qlY N x.1 x.2.1) 0 qCQ (qwq N) (qz (by kernel_rfl) trivial) (rg0 (by kernel_rfl)) fun x=>by kernel_rfl
noncomputable def qDX:Code:=Tryz.f60.body.getD .skip
theorem qDA:FnF Tryz.prog 60 Tryz.f60 qDX:=⟨qn,by kernel_rfl,by kernel_rfl,by kernel_rfl⟩
def qxc:TH:={ live:=[(0,[1]),(1,[2])],dec:=[6,10,15,20] }
def qxf (N:Nat):List Ent:=[]
theorem qsV (N:Nat):qT Tryz.prog (qxf N):=trivial
def qwk (z:Bool):TV×THp:=(xb z,[])
def qgx (a0:qd):Tree (Bool):=
 .cond (eqE qB a0 (qd.mk 0 0)) (
 .ret true) <|
 .cond (decide (((0:Int)) < (qd.N a0))) (
 .cond (decide ((qd.N a0)≤((1099511627776:Int)))) (
 .cond (decide (((0:Int))≤(qd.Rep a0))) (
 .ret (decide ((qd.Rep a0) < ((8:Int))))) <|
 .ret false) <|
 .ret false) <|
 .ret false
def Yw (a0:qd):Option (Bool):=(qgx a0).run some
def qwT:List (Nat×qy):=[]
def qcK:Ent:=smF ⟨60,[],[.x qB],[],[]⟩ [qB] (Bool) (fun x=>Yw x.1) cs1 fun _=>qwk
theorem qe9:zb Tryz.prog (qcK):=
 q7 (H:=qxc) (L:=qP (qwT)) (ts:=[qB]) (T:=fun x=>qgx x.1) 0 qDA (qsV 0) (qz (by kernel_rfl) trivial) (rg0 (by kernel_rfl)) fun x=>by kernel_rfl
noncomputable def qCq:Code:=Tryz.f61.body.getD .skip
theorem qEb:FnF Tryz.prog 61 Tryz.f61 qCq:=⟨qn,by kernel_rfl,by kernel_rfl,by kernel_rfl⟩
def qwb:TH:={ live:=[(0,[0]),(1,[2])],dec:=[5] }
def qw8 (N:Nat):List Ent:=[]
theorem qs4 (N:Nat):qT Tryz.prog (qw8 N):=trivial
def qwA (z:Bool):TV×THp:=(xb z,[])
def qgn (a0:Int):Tree (Bool):=
 .cond (decide (((0:Int))≤a0)) (
 .ret (decide (a0 < ((8:Int))))) <|
 .ret false
def qc7 (a0:Int):Option (Bool):=(qgn a0).run some
def qwi:List (Nat×qy):=[]
def qnA:Ent:=smF ⟨61,[],[.x (.i .i64)],[],[]⟩ [(.i .i64)] (Bool) (fun x=>qc7 x.1) cs1 fun _=>qwA
theorem qvc:zb Tryz.prog (qnA):=
 q7 (H:=qwb) (L:=qP (qwi)) (ts:=[(.i .i64)]) (T:=fun x=>qgn x.1) 0 qEb (qs4 0) (qz (by kernel_rfl) trivial) (rg0 (by kernel_rfl)) fun x=>by kernel_rfl
noncomputable def qz_:Code:=Tryz.f117.body.getD .skip
theorem qBk:FnF Tryz.prog 117 Tryz.f117 qz_:=⟨qn,by kernel_rfl,by kernel_rfl,by kernel_rfl⟩
def qyZ:TH:={ live:=[(0,[0,1,2]),(1,[6])],dec:=[10] }
def qyh (N:Nat):List Ent:=[]
theorem qvI (N:Nat):qT Tryz.prog (qyh N):=trivial
def qzI (z:Bool):TV×THp:=(xb z,[])
def qi1 (a0:Int) (a1:Int) (a2:Int):Tree (Bool):=
 .cond (decide (a1≤a0)) (
 .ret (decide (a0≤a2))) <|
 .ret false
def qcw (a0:Int) (a1:Int) (a2:Int):Option (Bool):=(qi1 a0 a1 a2).run some
def qyG:List (Nat×qy):=[]
def qpZ:Ent:=smF ⟨117,[],[.x (.i .i64),.x (.i .i64),.x (.i .i64)],[],[]⟩ [(.i .i64),(.i .i64),(.i .i64)] (Bool) (fun x=>qcw x.1 x.2.1 x.2.2.1) cs1 fun _=>qzI
theorem qwH:zb Tryz.prog (qpZ):=
 q7 (H:=qyZ) (L:=qP (qyG)) (ts:=[(.i .i64),(.i .i64),(.i .i64)]) (T:=fun x=>qi1 x.1 x.2.1 x.2.2.1) 0 qBk (qvI 0) (qz (by kernel_rfl) trivial) (rg0 (by kernel_rfl)) fun x=>by kernel_rfl
noncomputable def qCV:Code:=Tryz.f90.body.getD .skip
theorem qDt:FnF Tryz.prog 90 Tryz.f90 qCV:=⟨qn,by kernel_rfl,by kernel_rfl,by kernel_rfl⟩
def qwF:TH:={ live:=[(0,[1]),(1,[1,4]),(2,[2]),(3,[2])],dec:=[8,13,23] }
def qxa (N:Nat):List Ent:=[qpZ]
theorem qtu (N:Nat):qT Tryz.prog (qxa N):=⟨qwH,trivial⟩
def qwL (z:Bool):TV×THp:=(xb z,[])
def qgT (a0:qa):Tree (Bool):=
 .cond (qa.zg a0) (
 .bind (qcw (qa.zi a0) 0 200) fun r1=>
 .cond r1 (
 .bind (qcw (qa.Len a0) 1 200) fun r2=>
 .cond r2 (
 .ret (decide ((qa.Lit a0)=[]))) <|
 .ret false) <|
 .ret false) <|
 .cond (eqE ql a0 (qa.mk false 0 0 (qa.Lit a0))) (
 .bind (qcw (((qa.Lit a0).length:Nat):Int) 1 200) fun r1=>
 .ret r1) <|
 .ret false
def qfM (a0:qa):Option (Bool):=(qgT a0).run some
def qwv:List (Nat×qy):=[]
def qnK:Ent:=smF ⟨90,[],[.x ql],[],[]⟩ [ql] (Bool) (fun x=>qfM x.1) cs1 fun _=>qwL
theorem qv5:zb Tryz.prog (qnK):=
 q7 (H:=qwF) (L:=qP (qwv)) (ts:=[ql]) (T:=fun x=>qgT x.1) 0 qDt (qtu 0) (qz (by kernel_rfl) trivial) (rg0 (by kernel_rfl)) fun x=>by kernel_rfl
noncomputable def qo5:Code:=Tryz.f62.body.getD .skip
theorem qCf:FnF Tryz.prog 62 Tryz.f62 qo5:=⟨qn,by kernel_rfl,by kernel_rfl,by kernel_rfl⟩
def qgC:TH:={ live:=[(0,[0]),(1,[0,3]),(2,[0,3,6,7,8]),(3,[0,3,6,7,8,9]),(4,[0,3,5,6,7,8]),(5,[0,3,5,6,7,8,14]),(6,[2]),(7,[0,3,6,7,8]),(8,[0,3,6,7,8]),(9,[2])],dec:=[27] }
def qnh (N:Nat):List Ent:=[qnK]
theorem qjH (N:Nat):qT Tryz.prog (qnh N):=⟨qv5,trivial⟩
abbrev Kf:=List qa×List qa×Int
abbrev JF:=Unit⊕(Int×Int×Bool)
def Xd (f:Kf):JF→Ex×TSt
 | .inl y=>(.ret,⟨0,31,[],[(2,.bc false)],[],false,[]⟩)
 | .inr y=>(.exit 0,⟨0,31,[],[(0,.tv (.sl 4 ql) f.1),(3,xi y.1),(6,.tv (.sl 4 ql) f.2.1),(7,xi f.2.2),(8,xi y.2.1),(9,xb y.2.2)],[],false,[]⟩)
def qrF (N:Nat):List (Nat×qy):=[]
abbrev Xj:=Int×Int
def qhU:SP:=⟨0,31,[],[(0,.x (.sl 4 ql)),(3,.x (.i .i64)),(6,.x (.sl 4 ql)),(7,.x (.i .i64)),(8,.x (.i .i64))],[],false,[]⟩
def qrI (f:Kf) (v:Xj):TSt:=zw qhU [dv (.sl 4 ql) f.1,dv (.i .i64) v.1,dv (.sl 4 ql) f.2.1,dv (.i .i64) f.2.2,dv (.i .i64) v.2]
def Y1 (N:Nat) (s0_3:List qa) (s6_3:List qa) (s7_3:Int) (v:Xj):Tree (Xj⊕JF):=
 .cond (decide (v.2 < s7_3)) (
 .bind (zh s6_3 v.2) fun e1=>
 .bind (qfM e1) fun r2=>
 .cond (!r2) (
 .ret (.inr (.inl ()))) <|
 .chk (qf ((qa.Len e1) + (((qa.Lit e1).length:Nat):Int))) <|
 .chk (qf (v.1 + ((qa.Len e1) + (((qa.Lit e1).length:Nat):Int)))) <|
 .chk (qf (v.2 + 1)) <|
 .ret (.inl (v.1 + ((qa.Len e1) + (((qa.Lit e1).length:Nat):Int)),v.2 + 1))) <|
 .ret (.inr (.inr ((v.1,v.2,decide (v.2 < s7_3)))))
def qhs (N n:Nat) (f:Kf) (v:Xj):Option JF:=zj (Y1 N f.1 f.2.1 f.2.2) some n v
theorem qrj (N:Nat) (f:Kf) (n:Nat) (v:Xj) (y:JF) (h:qhs N n f v=some y):LG Tryz.prog qgC 62 (q0 qo5 3) (qrI f v) (Xd f y):=
 zU qn (E:=qnh N) (L:=qP (qrF N)) (st:=Xd f) (g:=some) (R:=Xd f) (qjH N) (qz (by kernel_rfl) trivial) (rg0 (by kernel_rfl)) (fun v=>by kernel_rfl) (ze (st:=Xd f) fun y=>by rcases y with _ | _<;>rfl) (js0 rfl) n v y h
def qel (N:Nat) (s0_3:List qa) (s6_3:List qa) (s7_3:Int) (s3_3:Int) (s8_3:Int):Option JF:=qhs N N (s0_3,s6_3,s7_3) (s3_3,s8_3)
def qhw (N:Nat):qy:=smL qhU [(.sl 4 ql),(.i .i64),(.sl 4 ql),(.i .i64),(.i .i64)] JF (fun x=>qel N x.1 x.2.2.1 x.2.2.2.1 x.2.1 x.2.2.2.2.1) (csS cs1) fun x=>Xd (x.1,x.2.2.1,x.2.2.2.1)
theorem qpV (N:Nat):vW Tryz.prog qgC 62 (q0 qo5 3) (qhw N):=ja fun x z h=>qrj N (x.1,x.2.2.1,x.2.2.2.1) N (x.2.1,x.2.2.2.2.1) z h
def qwt (z:Bool):TV×THp:=(xb z,[])
def qgK (N:Nat) (a0:List qa):Tree (Bool):=
 .bind (qel N a0 a0 ((a0.length:Nat):Int) 0 0) fun z1=>
 .sum z1 (fun z2=>
 .ret false) fun z2=>
 .cond (decide (((a0.length:Nat):Int)≤((60:Int)))) (
 .ret (decide (z2.1≤200))) <|
 .ret false
def qa0 (N:Nat) (a0:List qa):Option (Bool):=(qgK N a0).run some
def qwn (N:Nat):List (Nat×qy):=[(3,qhw N)]
def qcI (N:Nat):Ent:=smF ⟨62,[],[.x (.sl 4 ql)],[],[]⟩ [(.sl 4 ql)] (Bool) (fun x=>qa0 N x.1) cs1 fun _=>qwt
theorem qe_ (N:Nat):zb Tryz.prog (qcI N):=
 q7 (H:=qgC) (L:=qP (qwn N)) (ts:=[(.sl 4 ql)]) (T:=fun x=>qgK N x.1) 0 qCf (qjH N) (qz (by kernel_rfl) ⟨qpV N,trivial⟩) (rg0 (by kernel_rfl)) fun x=>by kernel_rfl
noncomputable def qBV:Code:=Tryz.f19.body.getD .skip
theorem qCN:FnF Tryz.prog 19 Tryz.f19 qBV:=⟨qn,by kernel_rfl,by kernel_rfl,by kernel_rfl⟩
def qBC:TH:={ live:=[(0,[1]),(1,[1,23]),(2,[2]),(3,[2])],dec:=[6,11,18,27,32,37,43] }
def qBU (N:Nat):List Ent:=[qsn,qlC N,qcK,qnA,qcI N]
theorem qy5 (N:Nat):qT Tryz.prog (qBU N):=⟨qyT,qpm N,qe9,qvc,qe_ N,trivial⟩
def qDv (z:Bool):TV×THp:=(xb z,[])
def qoy (N:Nat) (a0:qb):Tree (Bool):=
 .cond (decide ((qb.Kind a0) < ((0:Int)))) (
 .ret false) <|
 .cond (decide (((4:Int))≤(qb.Kind a0))) (
 .ret false) <|
 .bind (qmG a0) fun r1=>
 .bind (qhA N a0 r1) fun r2=>
 .cond (!r2) (
 .ret false) <|
 .cond (eqE qB (qb.S a0) (qd.mk 0 0)) (
 .ret false) <|
 .bind (Yw (qb.S a0)) fun r3=>
 .cond r3 (
 .bind (qc7 (qb.No a0)) fun r4=>
 .cond r4 (
 .bind (qc7 (qb.zk a0)) fun r5=>
 .cond r5 (
 .cond (decide ((((qb.V a0).length:Nat):Int)≤((200:Int)))) (
 .bind (qa0 N (qb.P a0)) fun r6=>
 .ret r6) <|
 .ret false) <|
 .ret false) <|
 .ret false) <|
 .ret false
def J_ (N:Nat) (a0:qb):Option (Bool):=(qoy N a0).run some
def qDu (N:Nat):List (Nat×qy):=[]
def qi9 (N:Nat):Ent:=smF ⟨19,[],[.x qF],[],[]⟩ [qF] (Bool) (fun x=>J_ N x.1) cs1 fun _=>qDv
theorem qlA (N:Nat):zb Tryz.prog (qi9 N):=
 q7 (H:=qBC) (L:=qP (qDu N)) (ts:=[qF]) (T:=fun x=>qoy N x.1) 0 qCN (qy5 N) (qz (by kernel_rfl) trivial) (rg0 (by kernel_rfl)) fun x=>by kernel_rfl
noncomputable def qlq:Code:=Tryz.f116.body.getD .skip
theorem qAz:FnF Tryz.prog 116 Tryz.f116 qlq:=⟨qn,by kernel_rfl,by kernel_rfl,by kernel_rfl⟩
def qdD:TH:={ live:=[(0,[0]),(1,[0,3]),(2,[0,3]),(3,[0,3,7]),(4,[0,3]),(5,[0,3]),(6,[2])] }
def qjj (N:Nat):List Ent:=[]
theorem qfE (N:Nat):qT Tryz.prog (qjj N):=trivial
abbrev X6:=Unit
abbrev Zt:=Int×Int×Bool
def JP (f:X6) (y:Zt):Ex×TSt:=(.exit 0,⟨0,13,[],[(0,.tv (.i .u64) (y.1:Int)),(3,xi y.2.1),(7,xb y.2.2)],[],false,[]⟩)
def qou (N:Nat):List (Nat×qy):=[]
abbrev JI:=Int×Int
def qex:SP:=⟨0,13,[],[(0,.x (.i .u64)),(3,.x (.i .i64))],[],false,[]⟩
def qoK (f:X6) (v:JI):TSt:=zw qex [dv (.i .u64) v.1,dv (.i .i64) v.2]
def X9 (N:Nat) (v:JI):Tree (JI⊕Zt):=
 .cond (decide (((0:Int)) < v.1)) (
 .chk (qf (v.2 + 1)) <|
 .chk (0≤(7:Int)) <|
 .ret (.inl (Jk v.1 7,v.2 + 1))) <|
 .ret (.inr (v.1,v.2,decide (((0:Int)) < v.1)))
def qeU (N n:Nat) (f:X6) (v:JI):Option Zt:=zj (X9 N) some n v
theorem qnR (N:Nat) (f:X6) (n:Nat) (v:JI) (y:Zt) (h:qeU N n f v=some y):LG Tryz.prog qdD 116 (q0 qlq 3) (qoK f v) (JP f y):=
 zU qn (E:=qjj N) (L:=qP (qou N)) (st:=JP f) (g:=some) (R:=JP f) (qfE N) (qz (by kernel_rfl) trivial) (rg0 (by kernel_rfl)) (fun v=>by kernel_rfl) (ze (st:=JP f) fun y=>by rfl) (js0 rfl) n v y h
def qcq (N:Nat) (s0_3:Int) (s3_3:Int):Option Zt:=qeU N N () (s0_3,s3_3)
def qes (N:Nat):qy:=smL qex [(.i .u64),(.i .i64)] Zt (fun x=>qcq N x.1 x.2.1) cs1 fun x=>JP ()
theorem qm4 (N:Nat):vW Tryz.prog qdD 116 (q0 qlq 3) (qes N):=ja fun x z h=>qnR N () N (x.1,x.2.1) z h
def qsL (z:Int):TV×THp:=(xi z,[])
def qdA (N:Nat) (a0:Int):Tree (Int):=
 .chk (0≤(7:Int)) <|
 .bind (qcq N (Jk a0 7) 1) fun z1=>
 .ret z1.2.1
def K2 (N:Nat) (a0:Int):Option (Int):=(qdA N a0).run some
def qsQ (N:Nat):List (Nat×qy):=[(3,qes N)]
def qdz (N:Nat):Ent:=smF ⟨116,[],[.x (.i .u64)],[],[]⟩ [(.i .u64)] (Int) (fun x=>K2 N x.1) cs1 fun _=>qsL
theorem qh4 (N:Nat):zb Tryz.prog (qdz N):=
 q7 (H:=qdD) (L:=qP (qsQ N)) (ts:=[(.i .u64)]) (T:=fun x=>qdA N x.1) 0 qAz (qfE N) (qz (by kernel_rfl) ⟨qm4 N,trivial⟩) (rg0 (by kernel_rfl)) fun x=>by kernel_rfl
noncomputable def qeY:Code:=Tryz.f84.body.getD .skip
theorem qvd:FnF Tryz.prog 84 Tryz.f84 qeY:=⟨qn,by kernel_rfl,by kernel_rfl,by kernel_rfl⟩
def qio:TH:={ live:=[(0,[0]),(1,[0,3]),(2,[0,3,4]),(3,[0,3,4,10,11]),(4,[0,3,4,10,11,12]),(5,[0,3,4,5,10,11]),(6,[0,3,4,10,11]),(7,[0,3,4,10,11]),(8,[4]),(9,[2])],esc:=true }
def qp2 (N:Nat):List Ent:=[qdz N]
theorem qlv (N:Nat):qT Tryz.prog (qp2 N):=⟨qh4 N,trivial⟩
abbrev qam:=Int×Int×Nat×Int
abbrev JY:=List UInt8×Int×Bool
def Wp (f:qam) (y:JY):Ex×TSt:=(.exit 0,⟨1,35,[],[(0,.tv (.i .u64) f.1),(3,xi f.2.1),(4,.v 100090 f.2.2.1),(10,xi f.2.2.2),(11,xi y.2.1),(12,xb y.2.2)],[(100090,.vec false 1 .bl (y.1:List UInt8))],false,[]⟩)
def qsX (N:Nat):List (Nat×qy):=[]
abbrev Wf:=List UInt8×Int
def qjK:SP:=⟨1,35,[],[(0,.x (.i .u64)),(3,.x (.i .i64)),(4,.v 100090),(10,.x (.i .i64)),(11,.x (.i .i64))],[(100090,.vec false 1)],false,[]⟩
def qsP (f:qam) (v:Wf):TSt:=zw qjK [dv .bl v.1,dv (.i .u64) f.1,dv (.i .i64) f.2.1,dv .nat f.2.2.1,dv (.i .i64) f.2.2.2,dv (.i .i64) v.2]
def qak (N:Nat) (s0_4:Int) (s3_4:Int) (s4_4:Nat) (s10_4:Int) (v:Wf):Tree (Wf⊕JY):=
 .cond (decide (v.2 < s10_4)) (
 .chk (qf (s3_4 - 1)) <|
 .chk (qf ((s3_4 - 1) - v.2)) <|
 .chk (qf (((7:Int)) * v.2)) <|
 .chk (0≤(((7:Int)) * v.2)) <|
 let w1:Int:=Jk s0_4 (min (((7:Int)) * v.2).toNat 64)
 .chk (0≤((s3_4 - 1) - v.2)∧((s3_4 - 1) - v.2) < ((s4_4:Nat):Int)) <|
 .chk (qbc v.1.length s4_4 (((s3_4 - 1) - v.2).toNat)) <|
 .chk (inB (uOr .u8 (IntKind.u8.wrap w1) 128)) <|
 .chk (qf (v.2 + 1)) <|
 .ret (.inl (v.1.set (((s3_4 - 1) - v.2).toNat) (UInt8.ofNat (uOr .u8 (IntKind.u8.wrap w1) 128).toNat),v.2 + 1))) <|
 .ret (.inr (v.1,v.2,decide (v.2 < s10_4)))
def qjC (N n:Nat) (f:qam) (v:Wf):Option JY:=zj (qak N f.1 f.2.1 f.2.2.1 f.2.2.2) some n v
theorem qtb (N:Nat) (f:qam) (n:Nat) (v:Wf) (y:JY) (h:qjC N n f v=some y):LG Tryz.prog qio 84 (q0 qeY 4) (qsP f v) (Wp f y):=
 zU qn (E:=qp2 N) (L:=qP (qsX N)) (st:=Wp f) (g:=some) (R:=Wp f) (qlv N) (qz (by kernel_rfl) trivial) (rg0 (by kernel_rfl)) (fun v=>by kernel_rfl) (ze (st:=Wp f) fun y=>by rfl) (js0 rfl) n v y h
def qcJ (N:Nat) (s0_4:Int) (s3_4:Int) (s4_4:Nat) (s10_4:Int) (o_4:List UInt8) (s11_4:Int):Option JY:=qjC N N (s0_4,s3_4,s4_4,s10_4) (o_4,s11_4)
def qjo (N:Nat):qy:=smL qjK [.bl,(.i .u64),(.i .i64),.nat,(.i .i64),(.i .i64)] JY (fun x=>qcJ N x.2.1 x.2.2.1 x.2.2.2.1 x.2.2.2.2.1 x.1 x.2.2.2.2.2.1) cs1 fun x=>Wp (x.2.1,x.2.2.1,x.2.2.2.1,x.2.2.2.2.1)
theorem qqS (N:Nat):vW Tryz.prog qio 84 (q0 qeY 4) (qjo N):=ja fun x z h=>qtb N (x.2.1,x.2.2.1,x.2.2.2.1,x.2.2.2.2.1) N (x.1,x.2.2.2.2.2.1) z h
def qzL (z:List UInt8×Nat):TV×THp:=(.v 100090 z.2,[(100090,.vec false 1 .bl (z.1:List UInt8))])
def qir (N:Nat) (a0:Int):Tree (List UInt8×Nat):=
 .bind (K2 N a0) fun r1=>
 .chk (qbd r1 r1 1) <|
 .bind (qcJ N a0 r1 (((List.replicate r1.toNat 0:List UInt8)).length) r1 ((List.replicate r1.toNat 0:List UInt8)) 0) fun z2=>
 .chk (qf (r1 - 1)) <|
 .chk (0≤(r1 - 1)∧(r1 - 1) < ((((List.replicate r1.toNat 0:List UInt8)).length:Nat):Int)) <|
 .bind (qe7 z2.1 (((List.replicate r1.toNat 0:List UInt8)).length) ((r1 - 1).toNat)) fun e3=>
 let w4:Int:=vL .u8 ((e3.toNat:Nat):Int) 128
 .chk (0≤(r1 - 1)∧(r1 - 1) < ((((List.replicate r1.toNat 0:List UInt8)).length:Nat):Int)) <|
 .chk (qbc z2.1.length (((List.replicate r1.toNat 0:List UInt8)).length) ((r1 - 1).toNat)) <|
 .chk (inB w4) <|
 .ret (z2.1.set ((r1 - 1).toNat) (UInt8.ofNat w4.toNat),((List.replicate r1.toNat 0:List UInt8)).length)
def YO (N:Nat) (a0:Int):Option (List UInt8×Nat):=(qir N a0).run some
def qys (N:Nat):List (Nat×qy):=[(4,qjo N)]
def qiM (N:Nat):Ent:=smF ⟨84,[],[.x (.i .u64)],[],[]⟩ [(.i .u64)] (List UInt8×Nat) (fun x=>YO N x.1) cs1 fun _=>qzL
theorem qnk (N:Nat):zb Tryz.prog (qiM N):=
 q7 (H:=qio) (L:=qP (qys N)) (ts:=[(.i .u64)]) (T:=fun x=>qir N x.1) 0 qvd (qlv N) (qz (by kernel_rfl) ⟨qqS N,trivial⟩) (rg0 (by kernel_rfl)) fun x=>by kernel_rfl
noncomputable def qC7:Code:=Tryz.f33.body.getD .skip
theorem qB9:FnF Tryz.prog 33 Tryz.f33 qC7:=⟨qn,by kernel_rfl,by kernel_rfl,by kernel_rfl⟩
def qwR:TH:={ live:=[(0,[1]),(1,[1,6]),(2,[2,3]),(3,[2,3])],fresh:=[15] }
def qwg (N:Nat):List Ent:=[qcK,qiM N]
theorem qs5 (N:Nat):qT Tryz.prog (qwg N):=⟨qe9,qnk N,trivial⟩
def qv6 (z:List UInt8×Bool):TV×THp:=(.tup [.tv .bl (z.1:List UInt8),xb z.2],[])
def qgj (N:Nat) (a0:qd):Tree (List UInt8×Bool):=
 .bind (Yw a0) fun r1=>
 .cond (!r1) (
 .ret ([],false)) <|
 .chk (0≤(3:Int)) <|
 let w2:Int:=WU .u64 (IntKind.u64.wrap (qd.N a0)) 3
 let w3:Int:=uOr .u64 w2 (IntKind.u64.wrap (qd.Rep a0))
 .bind (YO N w3) fun r4=>
 .chk (r4.1.length=r4.2) <|
 .ret (r4.1,true)
def qdf (N:Nat) (a0:qd):Option (List UInt8×Bool):=(qgj N a0).run some
def qwC (N:Nat):List (Nat×qy):=[]
def qnP (N:Nat):Ent:=smF ⟨33,[],[.x qB],[],[]⟩ [qB] (List UInt8×Bool) (fun x=>qdf N x.1) cs1 fun _=>qv6
theorem qt8 (N:Nat):zb Tryz.prog (qnP N):=
 q7 (H:=qwR) (L:=qP (qwC N)) (ts:=[qB]) (T:=fun x=>qgj N x.1) 0 qB9 (qs5 N) (qz (by kernel_rfl) trivial) (rg0 (by kernel_rfl)) fun x=>by kernel_rfl
noncomputable def qD0:Code:=Tryz.f85.body.getD .skip
theorem qEe:FnF Tryz.prog 85 Tryz.f85 qD0:=⟨qn,by kernel_rfl,by kernel_rfl,by kernel_rfl⟩
def ql2:TH:={ live:=[(0,[0,1]),(1,[0,1,6]),(2,[0,1]),(3,[0,1]),(4,[0,1,16]),(5,[0]),(6,[4])],esc:=true,nil:=[(5,[⟨.sl 0,900000850,.bl⟩])] }
def qk1 (N:Nat):List Ent:=[]
theorem qiF (N:Nat):qT Tryz.prog (qk1 N):=trivial
def qmk:Unit⊕Unit→TV×THp
 | .inl z=>(.v 900000850 0,[(900000850,.vec false 1 .bl ([]:List UInt8))])
 | .inr z=>(.nils,[])
def Yg (a0:Int):Tree (Unit⊕Unit):=
 .cond (decide (a0 < ((0:Int)))) (
 .no) <|
 .chk (qf a0) <|
 .cond (decide (((0:Int)) < a0)) (
 .chk (0 < a0∧a0.toNat * 1≤qN) <|
 .ret (.inl ())) <|
 .ret (.inr ())
def XN (a0:Int):Option (Unit⊕Unit):=(Yg a0).run some
def qlQ:List (Nat×qy):=[]
def qda:Ent:=smF ⟨85,[],[.k .nils,.x (.i .i64)],[],[]⟩ [(.i .i64)] (Unit⊕Unit) (fun x=>XN x.1) (csS cs1) fun _=>qmk
theorem qj6:zb Tryz.prog (qda):=
 q7 (H:=ql2) (L:=qP (qlQ)) (ts:=[(.i .i64)]) (T:=fun x=>Yg x.1) 0 qEe (qiF 0) (qz (by kernel_rfl) trivial) (rg0 (by kernel_rfl)) fun x=>by kernel_rfl
noncomputable def qeE:Code:=Tryz.f34.body.getD .skip
theorem qDy:FnF Tryz.prog 34 Tryz.f34 qeE:=⟨qn,by kernel_rfl,by kernel_rfl,by kernel_rfl⟩
def QK:TH:={ live:=[(0,[0]),(1,[0,3]),(2,[0,3,9,10,11]),(3,[0,3,9,10,11,12]),(4,[0,3,5,9,10,11]),(5,[0,3,9,10,11]),(6,[0,3,9,10,11,20]),(7,[0,3,9,10,11]),(8,[0,3,9,10,11]),(9,[0,6]),(10,[6,25,26,27]),(11,[6,25,26,27,28]),(12,[6,8,25,26,27]),(13,[6,25,26,27]),(14,[6,25,26,27]),(15,[2])],raw:=[85],fresh:=[24],nil:=[(9,[⟨.sl 6,900000850,.bl⟩])] }
def XJ (N:Nat):List Ent:=[qda]
theorem VH (N:Nat):qT Tryz.prog (XJ N):=⟨qj6,trivial⟩
abbrev Zb:=List (List UInt8)×List (List UInt8)×Int
abbrev jy:=Int×Int×Bool
def vD (f:Zb) (y:jy):Ex×TSt:=(.exit 0,⟨0,36,[],[(0,.tv (.sl 1 .bl) f.1),(3,xi y.1),(9,.tv (.sl 1 .bl) f.2.1),(10,xi f.2.2),(11,xi y.2.1),(12,xb y.2.2)],[],false,[]⟩)
def qff (N:Nat):List (Nat×qy):=[]
abbrev vC:=Int×Int
def Kp:SP:=⟨0,36,[],[(0,.x (.sl 1 .bl)),(3,.x (.i .i64)),(9,.x (.sl 1 .bl)),(10,.x (.i .i64)),(11,.x (.i .i64))],[],false,[]⟩
def qfr (f:Zb) (v:vC):TSt:=zw Kp [dv (.sl 1 .bl) f.1,dv (.i .i64) v.1,dv (.sl 1 .bl) f.2.1,dv (.i .i64) f.2.2,dv (.i .i64) v.2]
def Zj (N:Nat) (s0_3:List (List UInt8)) (s9_3:List (List UInt8)) (s10_3:Int) (v:vC):Tree (vC⊕jy):=
 .cond (decide (v.2 < s10_3)) (
 .bind (zh s9_3 v.2) fun e1=>
 .chk (qf (v.1 + ((e1.length:Nat):Int))) <|
 .cond (decide ((v.1 + ((e1.length:Nat):Int)) < 0)) (
 .no) <|
 .chk (qf (v.2 + 1)) <|
 .ret (.inl (v.1 + ((e1.length:Nat):Int),v.2 + 1))) <|
 .ret (.inr (v.1,v.2,decide (v.2 < s10_3)))
def Kj (N n:Nat) (f:Zb) (v:vC):Option jy:=zj (Zj N f.1 f.2.1 f.2.2) some n v
theorem qfb (N:Nat) (f:Zb) (n:Nat) (v:vC) (y:jy) (h:Kj N n f v=some y):LG Tryz.prog QK 34 (q0 qeE 3) (qfr f v) (vD f y):=
 zU qn (E:=XJ N) (L:=qP (qff N)) (st:=vD f) (g:=some) (R:=vD f) (VH N) (qz (by kernel_rfl) trivial) (rg0 (by kernel_rfl)) (fun v=>by kernel_rfl) (ze (st:=vD f) fun y=>by rfl) (js0 rfl) n v y h
def Xx (N:Nat) (s0_3:List (List UInt8)) (s9_3:List (List UInt8)) (s10_3:Int) (s3_3:Int) (s11_3:Int):Option jy:=Kj N N (s0_3,s9_3,s10_3) (s3_3,s11_3)
def Kl (N:Nat):qy:=smL Kp [(.sl 1 .bl),(.i .i64),(.sl 1 .bl),(.i .i64),(.i .i64)] jy (fun x=>Xx N x.1 x.2.2.1 x.2.2.2.1 x.2.1 x.2.2.2.2.1) cs1 fun x=>vD (x.1,x.2.2.1,x.2.2.2.1)
theorem qet (N:Nat):vW Tryz.prog QK 34 (q0 qeE 3) (Kl N):=ja fun x z h=>qfb N (x.1,x.2.2.1,x.2.2.2.1) N (x.2.1,x.2.2.2.2.1) z h
abbrev Q1:=List (List UInt8)×Int
abbrev jq:=List UInt8×Int×Bool
def ve (f:Q1) (y:jq):Ex×TSt:=(.exit 2,⟨0,36,[],[(6,.v 900000850 y.1.length),(25,.tv (.sl 1 .bl) f.1),(26,xi f.2),(27,xi y.2.1),(28,xb y.2.2)],[(900000850,.vec false 1 .bl (y.1:List UInt8))],false,[]⟩)
def qev (N:Nat):List (Nat×qy):=[]
abbrev vb:=List UInt8×Int
def Yk:SP:=⟨0,36,[],[(6,.vs 900000850),(25,.x (.sl 1 .bl)),(26,.x (.i .i64)),(27,.x (.i .i64))],[(900000850,.vec false 1)],false,[]⟩
def qe1 (f:Q1) (v:vb):TSt:=zw Yk [dv .bl v.1,dv (.sl 1 .bl) f.1,dv (.i .i64) f.2,dv (.i .i64) v.2]
def QX (N:Nat) (s25_11:List (List UInt8)) (s26_11:Int) (v:vb):Tree (vb⊕jq):=
 .cond (decide (v.2 < s26_11)) (
 .bind (zh s25_11 v.2) fun e1=>
 .chk (vq v.1.length v.1.length ((v.1++e1).length) 1) <|
 .chk (qf (v.2 + 1)) <|
 .ret (.inl (v.1++e1,v.2 + 1))) <|
 .ret (.inr (v.1,v.2,decide (v.2 < s26_11)))
def YB (N n:Nat) (f:Q1) (v:vb):Option jq:=zj (QX N f.1 f.2) some n v
theorem qe3 (N:Nat) (f:Q1) (n:Nat) (v:vb) (y:jq) (h:YB N n f v=some y):LG Tryz.prog QK 34 (q0 qeE 11) (qe1 f v) (ve f y):=
 zU qn (E:=XJ N) (L:=qP (qev N)) (st:=ve f) (g:=some) (R:=ve f) (VH N) (qz (by kernel_rfl) trivial) (rg0 (by kernel_rfl)) (fun v=>by kernel_rfl) (ze (st:=ve f) fun y=>by rfl) (js0 rfl) n v y h
def vT (N:Nat) (s25_11:List (List UInt8)) (s26_11:Int) (o_11:List UInt8) (s27_11:Int):Option jq:=YB N N (s25_11,s26_11) (o_11,s27_11)
def YL (N:Nat):qy:=smL Yk [.bl,(.sl 1 .bl),(.i .i64),(.i .i64)] jq (fun x=>vT N x.2.1 x.2.2.1 x.1 x.2.2.2.1) cs1 fun x=>ve (x.2.1,x.2.2.1)
theorem qd1 (N:Nat):vW Tryz.prog QK 34 (q0 qeE 11) (YL N):=ja fun x z h=>qe3 N (x.2.1,x.2.2.1) N (x.1,x.2.2.2.1) z h
def qiu (z:List UInt8):TV×THp:=(.tv .bl z,[])
def XI (N:Nat) (a0:List (List UInt8)):Tree (List UInt8):=
 .bind (Xx N a0 a0 ((a0.length:Nat):Int) 0 0) fun z1=>
 .bind (XN z1.1) fun r2=>
 .sum r2 (fun r3=>
 .bind (jh [(([]:List UInt8).length,0)] (vT N a0 ((a0.length:Nat):Int) [] 0)) fun z4=>
 .chk (z4.1.length=z4.1.length) <|
 .ret z4.1) fun r3=>
 .bind (jh [(([]:List UInt8).length,0)] (vT N a0 ((a0.length:Nat):Int) [] 0)) fun z4=>
 .chk (z4.1.length=z4.1.length) <|
 .ret z4.1
def zF (N:Nat) (a0:List (List UInt8)):Option (List UInt8):=(XI N a0).run some
def qid (N:Nat):List (Nat×qy):=[(3,Kl N),(11,YL N)]
def XW (N:Nat):Ent:=smF ⟨34,[],[.x (.sl 1 .bl)],[],[]⟩ [(.sl 1 .bl)] (List UInt8) (fun x=>zF N x.1) cs1 fun _=>qiu
theorem qa_ (N:Nat):zb Tryz.prog (XW N):=
 q7 (H:=QK) (L:=qP (qid N)) (ts:=[(.sl 1 .bl)]) (T:=fun x=>XI N x.1) 0 qDy (VH N) (qz (by kernel_rfl) ⟨qet N,qd1 N,trivial⟩) (rg0 (by kernel_rfl)) fun x=>by kernel_rfl
noncomputable def qDU:Code:=Tryz.f35.body.getD .skip
theorem qCy:FnF Tryz.prog 35 Tryz.f35 qDU:=⟨qn,by kernel_rfl,by kernel_rfl,by kernel_rfl⟩
def qwS:TH:={ live:=[(0,[0]),(1,[2])],fresh:=[6] }
def qwE (N:Nat):List Ent:=[qiM N]
theorem qtg (N:Nat):qT Tryz.prog (qwE N):=⟨qnk N,trivial⟩
def qxi (z:List UInt8):TV×THp:=(.tv .bl z,[])
def qgD (N:Nat) (a0:List UInt8):Tree (List UInt8):=
 let w1:Int:=IntKind.u64.wrap ((a0.length:Nat):Int)
 .bind (YO N w1) fun r2=>
 .chk (vq r2.1.length r2.2 ((r2.1++a0).length) 1) <|
 .chk ((r2.1++a0).length=(r2.1++a0).length) <|
 .ret (r2.1++a0)
def qc3 (N:Nat) (a0:List UInt8):Option (List UInt8):=(qgD N a0).run some
def qwy (N:Nat):List (Nat×qy):=[]
def qgV (N:Nat):Ent:=smF ⟨35,[],[.x .s],[],[]⟩ [.s] (List UInt8) (fun x=>qc3 N x.1) cs1 fun _=>qxi
theorem ql3 (N:Nat):zb Tryz.prog (qgV N):=
 q7 (H:=qwS) (L:=qP (qwy N)) (ts:=[.s]) (T:=fun x=>qgD N x.1) 0 qCy (qtg N) (qz (by kernel_rfl) trivial) (rg0 (by kernel_rfl)) fun x=>by kernel_rfl
def qeh:TH:={ live:=[(0,[0]),(1,[0,3]),(2,[0,3,4]),(3,[0,3,4,10,11]),(4,[0,3,4,10,11,12]),(5,[0,3,4,5,10,11]),(6,[0,3,4,10,11]),(7,[0,3,4,10,11]),(8,[4]),(9,[2])] }
def qmn (N:Nat):List Ent:=[qdz N]
theorem qhi (N:Nat):qT Tryz.prog (qmn N):=⟨qh4 N,trivial⟩
abbrev W0:=Int×Int×Nat×Int
abbrev Z5:=List UInt8×Int×Bool
def Vm (f:W0) (y:Z5):Ex×TSt:=(.exit 0,⟨0,35,[],[(0,.tv (.i .u64) f.1),(3,xi f.2.1),(4,.v 90 f.2.2.1),(10,xi f.2.2.2),(11,xi y.2.1),(12,xb y.2.2)],[(90,.vec false 1 .bl (y.1:List UInt8))],false,[]⟩)
def qp6 (N:Nat):List (Nat×qy):=[]
abbrev Vo:=List UInt8×Int
def qfy:SP:=⟨0,35,[],[(0,.x (.i .u64)),(3,.x (.i .i64)),(4,.v 90),(10,.x (.i .i64)),(11,.x (.i .i64))],[(90,.vec false 1)],false,[]⟩
def qpA (f:W0) (v:Vo):TSt:=zw qfy [dv .bl v.1,dv (.i .u64) f.1,dv (.i .i64) f.2.1,dv .nat f.2.2.1,dv (.i .i64) f.2.2.2,dv (.i .i64) v.2]
def qpg (N:Nat) (s0_4:Int) (s3_4:Int) (s4_4:Nat) (s10_4:Int) (v:Vo):Tree (Vo⊕Z5):=
 .cond (decide (v.2 < s10_4)) (
 .chk (qf (s3_4 - 1)) <|
 .chk (qf ((s3_4 - 1) - v.2)) <|
 .chk (qf (((7:Int)) * v.2)) <|
 .chk (0≤(((7:Int)) * v.2)) <|
 let w1:Int:=Jk s0_4 (min (((7:Int)) * v.2).toNat 64)
 .chk (0≤((s3_4 - 1) - v.2)∧((s3_4 - 1) - v.2) < ((s4_4:Nat):Int)) <|
 .chk (qbc v.1.length s4_4 (((s3_4 - 1) - v.2).toNat)) <|
 .chk (inB (uOr .u8 (IntKind.u8.wrap w1) 128)) <|
 .chk (qf (v.2 + 1)) <|
 .ret (.inl (v.1.set (((s3_4 - 1) - v.2).toNat) (UInt8.ofNat (uOr .u8 (IntKind.u8.wrap w1) 128).toNat),v.2 + 1))) <|
 .ret (.inr (v.1,v.2,decide (v.2 < s10_4)))
def qfO (N n:Nat) (f:W0) (v:Vo):Option Z5:=zj (qpg N f.1 f.2.1 f.2.2.1 f.2.2.2) some n v
theorem qpU (N:Nat) (f:W0) (n:Nat) (v:Vo) (y:Z5) (h:qfO N n f v=some y):LG Tryz.prog qeh 84 (q0 qeY 4) (qpA f v) (Vm f y):=
 zU qn (E:=qmn N) (L:=qP (qp6 N)) (st:=Vm f) (g:=some) (R:=Vm f) (qhi N) (qz (by kernel_rfl) trivial) (rg0 (by kernel_rfl)) (fun v=>by kernel_rfl) (ze (st:=Vm f) fun y=>by rfl) (js0 rfl) n v y h
def qdC (N:Nat) (s0_4:Int) (s3_4:Int) (s4_4:Nat) (s10_4:Int) (o_4:List UInt8) (s11_4:Int):Option Z5:=qfO N N (s0_4,s3_4,s4_4,s10_4) (o_4,s11_4)
def qfJ (N:Nat):qy:=smL qfy [.bl,(.i .u64),(.i .i64),.nat,(.i .i64),(.i .i64)] Z5 (fun x=>qdC N x.2.1 x.2.2.1 x.2.2.2.1 x.2.2.2.2.1 x.1 x.2.2.2.2.2.1) cs1 fun x=>Vm (x.2.1,x.2.2.1,x.2.2.2.1,x.2.2.2.2.1)
theorem qoM (N:Nat):vW Tryz.prog qeh 84 (q0 qeY 4) (qfJ N):=ja fun x z h=>qpU N (x.2.1,x.2.2.1,x.2.2.2.1,x.2.2.2.2.1) N (x.1,x.2.2.2.2.2.1) z h
def qvu (z:List UInt8):TV×THp:=(.tv .bl z,[])
def qeO (N:Nat) (a0:Int):Tree (List UInt8):=
 .bind (K2 N a0) fun r1=>
 .chk (qbd r1 r1 1) <|
 .bind (qdC N a0 r1 (((List.replicate r1.toNat 0:List UInt8)).length) r1 ((List.replicate r1.toNat 0:List UInt8)) 0) fun z2=>
 .chk (qf (r1 - 1)) <|
 .chk (0≤(r1 - 1)∧(r1 - 1) < ((((List.replicate r1.toNat 0:List UInt8)).length:Nat):Int)) <|
 .bind (qe7 z2.1 (((List.replicate r1.toNat 0:List UInt8)).length) ((r1 - 1).toNat)) fun e3=>
 let w4:Int:=vL .u8 ((e3.toNat:Nat):Int) 128
 .chk (0≤(r1 - 1)∧(r1 - 1) < ((((List.replicate r1.toNat 0:List UInt8)).length:Nat):Int)) <|
 .chk (qbc z2.1.length (((List.replicate r1.toNat 0:List UInt8)).length) ((r1 - 1).toNat)) <|
 .chk (inB w4) <|
 .chk ((z2.1.set ((r1 - 1).toNat) (UInt8.ofNat w4.toNat)).length=((List.replicate r1.toNat 0:List UInt8)).length) <|
 .ret (z2.1.set ((r1 - 1).toNat) (UInt8.ofNat w4.toNat))
def Jt (N:Nat) (a0:Int):Option (List UInt8):=(qeO N a0).run some
def qt9 (N:Nat):List (Nat×qy):=[(4,qfJ N)]
def qmg (N:Nat):Ent:=smF ⟨84,[],[.x (.i .u64)],[],[]⟩ [(.i .u64)] (List UInt8) (fun x=>Jt N x.1) cs1 fun _=>qvu
theorem qtq (N:Nat):zb Tryz.prog (qmg N):=
 q7 (H:=qeh) (L:=qP (qt9 N)) (ts:=[(.i .u64)]) (T:=fun x=>qeO N x.1) 0 qvd (qhi N) (qz (by kernel_rfl) ⟨qoM N,trivial⟩) (rg0 (by kernel_rfl)) fun x=>by kernel_rfl
noncomputable def qoU:Code:=Tryz.f36.body.getD .skip
theorem qEf:FnF Tryz.prog 36 Tryz.f36 qoU:=⟨qn,by kernel_rfl,by kernel_rfl,by kernel_rfl⟩
def qgb:TH:={ live:=[(0,[0]),(1,[0,9]),(2,[2,3]),(3,[0,4]),(4,[4,14,15,16]),(5,[4,14,15,16,17]),(6,[4,6,14,15,16]),(7,[4,6,14,15,16,21]),(8,[4,14,15,16]),(9,[4,14,15,16]),(10,[4,14,15,16]),(11,[2,3])] }
def qne (N:Nat):List Ent:=[qcI N,qmg N,XW N,qgV N]
theorem qjy (N:Nat):qT Tryz.prog (qne N):=⟨qe_ N,qtq N,qa_ N,ql3 N,trivial⟩
abbrev Y5:=List qa×Int
abbrev JG:=List UInt8×Int×Bool
def V_ (f:Y5) (y:JG):Ex×TSt:=(.exit 0,⟨0,43,[],[(4,.tv .bl (y.1:List UInt8)),(14,.tv (.sl 4 ql) f.1),(15,xi f.2),(16,xi y.2.1),(17,xb y.2.2)],[],false,[]⟩)
def qrt (N:Nat):List (Nat×qy):=[]
abbrev Xr:=List UInt8×Int
def qho:SP:=⟨0,43,[],[(4,.x .bl),(14,.x (.sl 4 ql)),(15,.x (.i .i64)),(16,.x (.i .i64))],[],false,[]⟩
def qq_ (f:Y5) (v:Xr):TSt:=zw qho [dv .bl v.1,dv (.sl 4 ql) f.1,dv (.i .i64) f.2,dv (.i .i64) v.2]
def V8 (N:Nat) (s14_5:List qa) (s15_5:Int) (v:Xr):Tree (Xr⊕JG):=
 .cond (decide (v.2 < s15_5)) (
 .bind (zh s14_5 v.2) fun e1=>
 .cond (qa.zg e1) (
 .bind (Jt N (IntKind.u64.wrap (qa.zi e1))) fun r2=>
 .bind (Jt N (IntKind.u64.wrap (qa.Len e1))) fun r3=>
 .bind (zF N [v.1,[(UInt8.ofNat 1)],r2,r3]) fun r4=>
 .chk (qf (v.2 + 1)) <|
 .ret (.inl (r4,v.2 + 1))) <|
 .bind (qc3 N (qa.Lit e1)) fun r2=>
 .bind (zF N [v.1,[(UInt8.ofNat 0)],r2]) fun r3=>
 .chk (qf (v.2 + 1)) <|
 .ret (.inl (r3,v.2 + 1))) <|
 .ret (.inr (v.1,v.2,decide (v.2 < s15_5)))
def qhu (N n:Nat) (f:Y5) (v:Xr):Option JG:=zj (V8 N f.1 f.2) some n v
theorem qrK (N:Nat) (f:Y5) (n:Nat) (v:Xr) (y:JG) (h:qhu N n f v=some y):LG Tryz.prog qgb 36 (q0 qoU 5) (qq_ f v) (V_ f y):=
 zU qn (E:=qne N) (L:=qP (qrt N)) (st:=V_ f) (g:=some) (R:=V_ f) (qjy N) (qz (by kernel_rfl) trivial) (rg0 (by kernel_rfl)) (fun v=>by kernel_rfl) (ze (st:=V_ f) fun y=>by rfl) (js0 rfl) n v y h
def qbk (N:Nat) (s14_5:List qa) (s15_5:Int) (s4_5:List UInt8) (s16_5:Int):Option JG:=qhu N N (s14_5,s15_5) (s4_5,s16_5)
def qhC (N:Nat):qy:=smL qho [.bl,(.sl 4 ql),(.i .i64),(.i .i64)] JG (fun x=>qbk N x.2.1 x.2.2.1 x.1 x.2.2.2.1) cs1 fun x=>V_ (x.2.1,x.2.2.1)
theorem qpq (N:Nat):vW Tryz.prog qgb 36 (q0 qoU 5) (qhC N):=ja fun x z h=>qrK N (x.2.1,x.2.2.1) N (x.1,x.2.2.2.1) z h
def qwO (z:List UInt8×Bool):TV×THp:=(.tup [.tv .bl (z.1:List UInt8),xb z.2],[])
def qf8 (N:Nat) (a0:List qa):Tree (List UInt8×Bool):=
 .bind (qa0 N a0) fun r1=>
 .cond (!r1) (
 .ret ([],false)) <|
 let w2:Int:=IntKind.u64.wrap ((a0.length:Nat):Int)
 .bind (Jt N w2) fun r3=>
 .bind (qbk N a0 ((a0.length:Nat):Int) r3 0) fun z4=>
 .ret (z4.1,true)
def qc0 (N:Nat) (a0:List qa):Option (List UInt8×Bool):=(qf8 N a0).run some
def qw4 (N:Nat):List (Nat×qy):=[(5,qhC N)]
def qnm (N:Nat):Ent:=smF ⟨36,[],[.x (.sl 4 ql)],[],[]⟩ [(.sl 4 ql)] (List UInt8×Bool) (fun x=>qc0 N x.1) cs1 fun _=>qwO
theorem qtV (N:Nat):zb Tryz.prog (qnm N):=
 q7 (H:=qgb) (L:=qP (qw4 N)) (ts:=[(.sl 4 ql)]) (T:=fun x=>qf8 N x.1) 0 qEf (qjy N) (qz (by kernel_rfl) ⟨qpq N,trivial⟩) (rg0 (by kernel_rfl)) fun x=>by kernel_rfl
noncomputable def qDe:Code:=Tryz.f13.body.getD .skip
theorem qBN:FnF Tryz.prog 13 Tryz.f13 qDe:=⟨qn,by kernel_rfl,by kernel_rfl,by kernel_rfl⟩
def qDE:TH:={ live:=[(0,[1]),(1,[1,12]),(2,[2,3]),(3,[1,4]),(4,[1,6]),(5,[1,6,7]),(6,[1,6,7,32]),(7,[1,6,7,32,33]),(8,[6]),(9,[1,6,7,32,43]),(10,[6]),(11,[1,6,7,58]),(12,[1,6,7,8]),(13,[6]),(14,[2,3])],rd:=[(0,[1])] }
def qBK (N:Nat):List Ent:=[qi9 N,qnP N,XW N,qgV N,qnm N]
theorem qy8 (N:Nat):qT Tryz.prog (qBK N):=⟨qlA N,qt8 N,qa_ N,ql3 N,qtV N,trivial⟩
def qD3 (z:List UInt8×Bool):TV×THp:=(.tup [.tv .bl (z.1:List UInt8),xb z.2],[])
def qoz (N:Nat) (a0:qb):Tree (List UInt8×Bool):=
 .bind (J_ N a0) fun r1=>
 .cond (!r1) (
 .ret ([],false)) <|
 .bind (qdf N (qb.S a0)) fun r2=>
 .chk (inB (IntKind.u8.wrap (qb.Kind a0))) <|
 .bind (zF N [[UInt8.ofNat (IntKind.u8.wrap (qb.Kind a0)).toNat],(qb.ID a0).toList,r2.1]) fun r3=>
 .cond (decide ((qb.Kind a0)=((1:Int)))) (
 .chk (inB (IntKind.u8.wrap (qb.No a0))) <|
 .bind (qc3 N (qb.V a0)) fun r4=>
 .bind (zF N [r3,[UInt8.ofNat (IntKind.u8.wrap (qb.No a0)).toNat],r4]) fun r5=>
 .ret (r5,true)) <|
 .cond (decide ((qb.Kind a0)=((2:Int)))) (
 .chk (inB (IntKind.u8.wrap (qb.No a0))) <|
 .chk (inB (IntKind.u8.wrap (qb.zk a0))) <|
 .bind (zF N [r3,[UInt8.ofNat (IntKind.u8.wrap (qb.No a0)).toNat],(qb.zi a0).toList,[UInt8.ofNat (IntKind.u8.wrap (qb.zk a0)).toNat],(qb.D a0).toList]) fun r4=>
 .ret (r4,true)) <|
 .cond (decide ((qb.Kind a0)=((3:Int)))) (
 .bind (qc0 N (qb.P a0)) fun r4=>
 .chk (inB (IntKind.u8.wrap (qb.No a0))) <|
 .bind (zF N [r3,[UInt8.ofNat (IntKind.u8.wrap (qb.No a0)).toNat],r4.1,(qb.D a0).toList]) fun r5=>
 .ret (r5,true)) <|
 .ret (r3,true)
def qlg (N:Nat) (a0:qb):Option (List UInt8×Bool):=(qoz N a0).run some
def qDx (N:Nat):List (Nat×qy):=[]
def qoA (N:Nat):Ent:=smF ⟨13,[],[.x qF],[],[]⟩ [qF] (List UInt8×Bool) (fun x=>qlg N x.1) cs1 fun _=>qD3
theorem qr1 (N:Nat):zb Tryz.prog (qoA N):=
 q7 (H:=qDE) (L:=qP (qDx N)) (ts:=[qF]) (T:=fun x=>qoz N x.1) 0 qBN (qy8 N) (qz (by kernel_rfl) trivial) (rg0 (by kernel_rfl)) fun x=>by kernel_rfl
noncomputable def qCv:Code:=Tryz.f56.body.getD .skip
theorem qCS:FnF Tryz.prog 56 Tryz.f56 qCv:=⟨qn,by kernel_rfl,by kernel_rfl,by kernel_rfl⟩
def qme:TH:={ live:=[(0,[1]),(1,[1,5]),(2,[2]),(3,[2])],dec:=[12,17,22] }
def qkD (N:Nat):List Ent:=[]
theorem qiL (N:Nat):qT Tryz.prog (qkD N):=trivial
def qlN (z:Bool):TV×THp:=(xb z,[])
def YK (a0:qd):Tree (Bool):=
 .cond (decide ((qd.N a0)=((0:Int)))) (
 .ret (decide ((qd.Rep a0)=((0:Int))))) <|
 .cond (decide (((1:Int))≤(qd.N a0))) (
 .cond (decide ((qd.N a0)≤((1099511627776:Int)))) (
 .cond (decide (((0:Int))≤(qd.Rep a0))) (
 .ret (decide ((qd.Rep a0) < ((8:Int))))) <|
 .ret false) <|
 .ret false) <|
 .ret false
def v_ (a0:qd):Option (Bool):=(YK a0).run some
def qlS:List (Nat×qy):=[]
def J9:Ent:=smF ⟨56,[],[.x qB],[],[]⟩ [qB] (Bool) (fun x=>v_ x.1) cs1 fun _=>qlN
theorem WH:zb Tryz.prog (J9):=
 q7 (H:=qme) (L:=qP (qlS)) (ts:=[qB]) (T:=fun x=>YK x.1) 0 qCS (qiL 0) (qz (by kernel_rfl) trivial) (rg0 (by kernel_rfl)) fun x=>by kernel_rfl
noncomputable def qCW:Code:=Tryz.f57.body.getD .skip
theorem qCT:FnF Tryz.prog 57 Tryz.f57 qCW:=⟨qn,by kernel_rfl,by kernel_rfl,by kernel_rfl⟩
def qkf:TH:={ live:=[(0,[1,2]),(1,[1,2,3]),(2,[1,2,3,13]),(3,[1,2,3]),(4,[1,2,3,19]),(5,[1,2,3]),(6,[1,2,3,25]),(7,[1,2,3]),(8,[1,2,3]),(9,[1,2,3]),(10,[1,2,3,37]),(11,[1,2,3]),(12,[2,3]),(13,[2])] }
def qjZ (N:Nat):List Ent:=[]
theorem qha (N:Nat):qT Tryz.prog (qjZ N):=trivial
def qj8 (z:qb):TV×THp:=(.tv qF z,[])
def WA (a0:qb):Tree (qb):=
 .cond (!decide ((qb.Kind a0)=((0:Int)))) (
 .cond (decide ((qb.Kind a0)=((1:Int)))) (
 .cond (decide ((qb.Kind a0)=((2:Int)))) (
 .cond (decide ((qb.Kind a0)=((3:Int)))) (
 .ret a0) <|
 .ret (qb.mk (qb.Kind a0) (qb.ID a0) (qb.S a0) (qb.No a0) (qb.V a0) [] (qb.zi a0) (qb.zk a0) (qb.D a0))) <|
 .cond (decide ((qb.Kind a0)=((3:Int)))) (
 .ret (qb.mk (qb.Kind a0) (qb.ID a0) (qb.S a0) (qb.No a0) (qb.V a0) (qb.P a0) ((Vector.replicate 16 0)) 0 (qb.D a0))) <|
 .ret (qb.mk (qb.Kind a0) (qb.ID a0) (qb.S a0) (qb.No a0) (qb.V a0) [] ((Vector.replicate 16 0)) 0 ((Vector.replicate 32 0)))) <|
 .cond (decide ((qb.Kind a0)=((2:Int)))) (
 .cond (decide ((qb.Kind a0)=((3:Int)))) (
 .ret (qb.mk (qb.Kind a0) (qb.ID a0) (qb.S a0) (qb.No a0) [] (qb.P a0) (qb.zi a0) (qb.zk a0) (qb.D a0))) <|
 .ret (qb.mk (qb.Kind a0) (qb.ID a0) (qb.S a0) (qb.No a0) [] [] (qb.zi a0) (qb.zk a0) (qb.D a0))) <|
 .cond (decide ((qb.Kind a0)=((3:Int)))) (
 .ret (qb.mk (qb.Kind a0) (qb.ID a0) (qb.S a0) (qb.No a0) [] (qb.P a0) ((Vector.replicate 16 0)) 0 (qb.D a0))) <|
 .ret (qb.mk (qb.Kind a0) (qb.ID a0) (qb.S a0) (qb.No a0) [] [] ((Vector.replicate 16 0)) 0 ((Vector.replicate 32 0)))) <|
 .cond (decide ((qb.Kind a0)=((1:Int)))) (
 .cond (decide ((qb.Kind a0)=((2:Int)))) (
 .cond (decide ((qb.Kind a0)=((3:Int)))) (
 .ret (qb.mk (qb.Kind a0) (qb.ID a0) (qb.S a0) 0 (qb.V a0) (qb.P a0) (qb.zi a0) (qb.zk a0) (qb.D a0))) <|
 .ret (qb.mk (qb.Kind a0) (qb.ID a0) (qb.S a0) 0 (qb.V a0) [] (qb.zi a0) (qb.zk a0) (qb.D a0))) <|
 .cond (decide ((qb.Kind a0)=((3:Int)))) (
 .ret (qb.mk (qb.Kind a0) (qb.ID a0) (qb.S a0) 0 (qb.V a0) (qb.P a0) ((Vector.replicate 16 0)) 0 (qb.D a0))) <|
 .ret (qb.mk (qb.Kind a0) (qb.ID a0) (qb.S a0) 0 (qb.V a0) [] ((Vector.replicate 16 0)) 0 ((Vector.replicate 32 0)))) <|
 .cond (decide ((qb.Kind a0)=((2:Int)))) (
 .cond (decide ((qb.Kind a0)=((3:Int)))) (
 .ret (qb.mk (qb.Kind a0) (qb.ID a0) (qb.S a0) 0 [] (qb.P a0) (qb.zi a0) (qb.zk a0) (qb.D a0))) <|
 .ret (qb.mk (qb.Kind a0) (qb.ID a0) (qb.S a0) 0 [] [] (qb.zi a0) (qb.zk a0) (qb.D a0))) <|
 .cond (decide ((qb.Kind a0)=((3:Int)))) (
 .ret (qb.mk (qb.Kind a0) (qb.ID a0) (qb.S a0) 0 [] (qb.P a0) ((Vector.replicate 16 0)) 0 (qb.D a0))) <|
 .ret (qb.mk (qb.Kind a0) (qb.ID a0) (qb.S a0) 0 [] [] ((Vector.replicate 16 0)) 0 ((Vector.replicate 32 0)))
def V4 (a0:qb):Option (qb):=(WA a0).run some
def qkh:List (Nat×qy):=[]
def qca:Ent:=smF ⟨57,[],[.x qF],[],[]⟩ [qF] (qb) (fun x=>V4 x.1) cs1 fun _=>qj8
theorem qiT:zb Tryz.prog (qca):=
 q7 (H:=qkf) (L:=qP (qkh)) (ts:=[qF]) (T:=fun x=>WA x.1) 0 qCT (qha 0) (qz (by kernel_rfl) trivial) (rg0 (by kernel_rfl)) fun x=>by kernel_rfl
noncomputable def qoT:Code:=Tryz.f55.body.getD .skip
theorem qCb:FnF Tryz.prog 55 Tryz.f55 qoT:=⟨qn,by kernel_rfl,by kernel_rfl,by kernel_rfl⟩
def WR:TH:={ live:=[(0,[0,1]),(1,[0,1,10]),(2,[4]),(3,[0,1,5]),(4,[0,1,5,14]),(5,[0,1,5]),(6,[0,1,5,25]),(7,[4]),(8,[4])] }
def qb_ (N:Nat):List Ent:=[]
theorem qaB (N:Nat):qT Tryz.prog (qb_ N):=trivial
abbrev ZV:=List qa×List qa
abbrev jH:=Unit⊕(Int×Bool)
def vR (f:ZV):jH→Ex×TSt
 | .inl y=>(.ret,⟨0,26,[],[(4,.bc false)],[],false,[]⟩)
 | .inr y=>(.exit 0,⟨0,26,[],[(0,.tv (.sl 4 ql) f.1),(1,.tv (.sl 4 ql) f.2),(5,xi y.1),(14,xb y.2)],[],false,[]⟩)
def qf5 (N:Nat):List (Nat×qy):=[]
abbrev vU:=Int
def KN:SP:=⟨0,26,[],[(0,.x (.sl 4 ql)),(1,.x (.sl 4 ql)),(5,.x (.i .i64))],[],false,[]⟩
def qgc (f:ZV) (v:vU):TSt:=zw KN [dv (.sl 4 ql) f.1,dv (.sl 4 ql) f.2,dv (.i .i64) v]
def ZS (N:Nat) (s0_4:List qa) (s1_4:List qa) (v:vU):Tree (vU⊕jH):=
 .cond (decide (v < ((s0_4.length:Nat):Int))) (
 .bind (zh s0_4 v) fun e1=>
 .bind (zh s1_4 v) fun e2=>
 .cond (!(eqE ql e1 e2)) (
 .ret (.inr (.inl ()))) <|
 .chk (qf (v + 1)) <|
 .ret (.inl (v + 1))) <|
 .ret (.inr (.inr ((v,decide (v < ((s0_4.length:Nat):Int))))))
def Ky (N n:Nat) (f:ZV) (v:vU):Option jH:=zj (ZS N f.1 f.2) some n v
theorem qgs (N:Nat) (f:ZV) (n:Nat) (v:vU) (y:jH) (h:Ky N n f v=some y):LG Tryz.prog WR 55 (q0 qoT 4) (qgc f v) (vR f y):=
 zU qn (E:=qb_ N) (L:=qP (qf5 N)) (st:=vR f) (g:=some) (R:=vR f) (qaB N) (qz (by kernel_rfl) trivial) (rg0 (by kernel_rfl)) (fun v=>by kernel_rfl) (ze (st:=vR f) fun y=>by rcases y with _ | _<;>rfl) (js0 rfl) n v y h
def XQ (N:Nat) (s0_4:List qa) (s1_4:List qa) (s5_4:Int):Option jH:=Ky N N (s0_4,s1_4) s5_4
def KP (N:Nat):qy:=smL KN [(.sl 4 ql),(.sl 4 ql),(.i .i64)] jH (fun x=>XQ N x.1 x.2.1 x.2.2.1) (csS cs1) fun x=>vR (x.1,x.2.1)
theorem qfa (N:Nat):vW Tryz.prog WR 55 (q0 qoT 4) (KP N):=ja fun x z h=>qgs N (x.1,x.2.1) N x.2.2.1 z h
def qjU (z:Bool):TV×THp:=(xb z,[])
def WM (N:Nat) (a0:List qa) (a1:List qa):Tree (Bool):=
 .cond (!decide (((a0.length:Nat):Int)=((a1.length:Nat):Int))) (
 .ret false) <|
 .bind (XQ N a0 a1 0) fun z1=>
 .sum z1 (fun z2=>
 .ret false) fun z2=>
 .ret true
def V5 (N:Nat) (a0:List qa) (a1:List qa):Option (Bool):=(WM N a0 a1).run some
def qj5 (N:Nat):List (Nat×qy):=[(4,KP N)]
def qb5 (N:Nat):Ent:=smF ⟨55,[],[.x (.sl 4 ql),.x (.sl 4 ql)],[],[]⟩ [(.sl 4 ql),(.sl 4 ql)] (Bool) (fun x=>V5 N x.1 x.2.1) cs1 fun _=>qjU
theorem qiC (N:Nat):zb Tryz.prog (qb5 N):=
 q7 (H:=WR) (L:=qP (qj5 N)) (ts:=[(.sl 4 ql),(.sl 4 ql)]) (T:=fun x=>WM N x.1 x.2.1) 0 qCb (qaB N) (qz (by kernel_rfl) ⟨qfa N,trivial⟩) (rg0 (by kernel_rfl)) fun x=>by kernel_rfl
noncomputable def qC5:Code:=Tryz.f17.body.getD .skip
theorem qD_:FnF Tryz.prog 17 Tryz.f17 qC5:=⟨qn,by kernel_rfl,by kernel_rfl,by kernel_rfl⟩
def qjT:TH:={ live:=[(0,[2,3]),(1,[2,3,5]),(2,[4])],dec:=[12,19,26,33,40,47,54,61] }
def qjW (N:Nat):List Ent:=[qb5 N]
theorem qhM (N:Nat):qT Tryz.prog (qjW N):=⟨qiC N,trivial⟩
def qke (z:Bool):TV×THp:=(xb z,[])
def WO (N:Nat) (a0:qb) (a1:qb):Tree (Bool):=
 .bind (V5 N (qb.P a0) (qb.P a1)) fun r1=>
 .cond r1 (
 .cond (decide ((qb.Kind a0)=(qb.Kind a1))) (
 .cond (eqE (.ba 16) (qb.ID a0) (qb.ID a1)) (
 .cond (eqE qB (qb.S a0) (qb.S a1)) (
 .cond (decide ((qb.No a0)=(qb.No a1))) (
 .cond (decide ((qb.V a0)=(qb.V a1))) (
 .cond (eqE (.ba 16) (qb.zi a0) (qb.zi a1)) (
 .cond (decide ((qb.zk a0)=(qb.zk a1))) (
 .ret (eqE (.ba 32) (qb.D a0) (qb.D a1))) <|
 .ret false) <|
 .ret false) <|
 .ret false) <|
 .ret false) <|
 .ret false) <|
 .ret false) <|
 .ret false) <|
 .ret false
def Q6 (N:Nat) (a0:qb) (a1:qb):Option (Bool):=(WO N a0 a1).run some
def qj9 (N:Nat):List (Nat×qy):=[]
def WT (N:Nat):Ent:=smF ⟨17,[],[.x qF,.x qF],[],[]⟩ [qF,qF] (Bool) (fun x=>Q6 N x.1 x.2.1) cs1 fun _=>qke
theorem qbZ (N:Nat):zb Tryz.prog (WT N):=
 q7 (H:=qjT) (L:=qP (qj9 N)) (ts:=[qF,qF]) (T:=fun x=>WO N x.1 x.2.1) 0 qD_ (qhM N) (qz (by kernel_rfl) trivial) (rg0 (by kernel_rfl)) fun x=>by kernel_rfl
noncomputable def qnZ:Code:=Tryz.f58.body.getD .skip
theorem qCa:FnF Tryz.prog 58 Tryz.f58 qnZ:=⟨qn,by kernel_rfl,by kernel_rfl,by kernel_rfl⟩
def Yt:TH:={ live:=[(0,[0]),(1,[0,3]),(2,[0,3,4]),(3,[0,3,4,11]),(4,[0,3,4]),(5,[0,3,4,5]),(6,[0,3,4,5,6]),(7,[0,3,4,5,6,7]),(8,[0,3,4,5,75]),(9,[2]),(10,[0,3,4]),(11,[2])],dec:=[21,26,31,36,44,49,55,63,67,71,87] }
def qcY (N:Nat):List Ent:=[]
theorem qbS (N:Nat):qT Tryz.prog (qcY N):=trivial
abbrev Z1:=List qa
abbrev zG:=Unit⊕(Int×Int×Bool)
def Qq (f:Z1):zG→Ex×TSt
 | .inl y=>(.ret,⟨0,91,[],[(2,.bc false)],[],false,[]⟩)
 | .inr y=>(.exit 0,⟨0,91,[],[(0,.tv (.sl 4 ql) f),(3,xi y.1),(4,xi y.2.1),(11,xb y.2.2)],[],false,[]⟩)
def qhv (N:Nat):List (Nat×qy):=[]
abbrev Qi:=Int×Int
def qaP:SP:=⟨0,91,[],[(0,.x (.sl 4 ql)),(3,.x (.i .i64)),(4,.x (.i .i64))],[],false,[]⟩
def qhe (f:Z1) (v:Qi):TSt:=zw qaP [dv (.sl 4 ql) f,dv (.i .i64) v.1,dv (.i .i64) v.2]
def Qf (N:Nat) (s0_3:List qa) (v:Qi):Tree (Qi⊕zG):=
 .cond (decide (v.2 < ((s0_3.length:Nat):Int))) (
 .bind (zh s0_3 v.2) fun e1=>
 .cond (decide (((0:Int))≤(qa.zi e1))) (
 .cond (decide ((qa.zi e1)≤((200:Int)))) (
 .cond (decide (((1:Int))≤(qa.Len e1))) (
 .cond (decide ((qa.Len e1)≤((200:Int)))) (
 .cond (decide ((qa.zi e1)=((0:Int)))) (
 .cond (decide ((qa.Len e1)=((0:Int)))) (
 .cond (decide (((1:Int))≤(((qa.Lit e1).length:Nat):Int))) (
 .cond (qa.zg e1) (
 .cond (!(decide ((qa.Lit e1)=[]))) (
 .ret (.inr (.inl ()))) <|
 .cond (!(qa.zg e1)) (
 .cond (!(decide ((((qa.Lit e1).length:Nat):Int)≤((200:Int))))) (
 .ret (.inr (.inl ()))) <|
 .chk (qf (v.1 + (qa.Len e1))) <|
 .chk (qf ((v.1 + (qa.Len e1)) + (((qa.Lit e1).length:Nat):Int))) <|
 .chk (qf (v.2 + 1)) <|
 .ret (.inl ((v.1 + (qa.Len e1)) + (((qa.Lit e1).length:Nat):Int),v.2 + 1))) <|
 .chk (qf (v.1 + (qa.Len e1))) <|
 .chk (qf ((v.1 + (qa.Len e1)) + (((qa.Lit e1).length:Nat):Int))) <|
 .chk (qf (v.2 + 1)) <|
 .ret (.inl ((v.1 + (qa.Len e1)) + (((qa.Lit e1).length:Nat):Int),v.2 + 1))) <|
 .cond (!(qa.zg e1)) (
 .cond (!(decide ((((qa.Lit e1).length:Nat):Int)≤((200:Int))))) (
 .ret (.inr (.inl ()))) <|
 .chk (qf (v.1 + (qa.Len e1))) <|
 .chk (qf ((v.1 + (qa.Len e1)) + (((qa.Lit e1).length:Nat):Int))) <|
 .chk (qf (v.2 + 1)) <|
 .ret (.inl ((v.1 + (qa.Len e1)) + (((qa.Lit e1).length:Nat):Int),v.2 + 1))) <|
 .chk (qf (v.1 + (qa.Len e1))) <|
 .chk (qf ((v.1 + (qa.Len e1)) + (((qa.Lit e1).length:Nat):Int))) <|
 .chk (qf (v.2 + 1)) <|
 .ret (.inl ((v.1 + (qa.Len e1)) + (((qa.Lit e1).length:Nat):Int),v.2 + 1))) <|
 .cond (qa.zg e1) (
 .cond (!(decide ((qa.Lit e1)=[]))) (
 .ret (.inr (.inl ()))) <|
 .cond (!(qa.zg e1)) (
 .ret (.inr (.inl ()))) <|
 .chk (qf (v.1 + (qa.Len e1))) <|
 .chk (qf ((v.1 + (qa.Len e1)) + (((qa.Lit e1).length:Nat):Int))) <|
 .chk (qf (v.2 + 1)) <|
 .ret (.inl ((v.1 + (qa.Len e1)) + (((qa.Lit e1).length:Nat):Int),v.2 + 1))) <|
 .cond (!(qa.zg e1)) (
 .ret (.inr (.inl ()))) <|
 .chk (qf (v.1 + (qa.Len e1))) <|
 .chk (qf ((v.1 + (qa.Len e1)) + (((qa.Lit e1).length:Nat):Int))) <|
 .chk (qf (v.2 + 1)) <|
 .ret (.inl ((v.1 + (qa.Len e1)) + (((qa.Lit e1).length:Nat):Int),v.2 + 1))) <|
 .cond (qa.zg e1) (
 .cond (!(decide ((qa.Lit e1)=[]))) (
 .ret (.inr (.inl ()))) <|
 .cond (!(qa.zg e1)) (
 .ret (.inr (.inl ()))) <|
 .chk (qf (v.1 + (qa.Len e1))) <|
 .chk (qf ((v.1 + (qa.Len e1)) + (((qa.Lit e1).length:Nat):Int))) <|
 .chk (qf (v.2 + 1)) <|
 .ret (.inl ((v.1 + (qa.Len e1)) + (((qa.Lit e1).length:Nat):Int),v.2 + 1))) <|
 .cond (!(qa.zg e1)) (
 .ret (.inr (.inl ()))) <|
 .chk (qf (v.1 + (qa.Len e1))) <|
 .chk (qf ((v.1 + (qa.Len e1)) + (((qa.Lit e1).length:Nat):Int))) <|
 .chk (qf (v.2 + 1)) <|
 .ret (.inl ((v.1 + (qa.Len e1)) + (((qa.Lit e1).length:Nat):Int),v.2 + 1))) <|
 .cond (qa.zg e1) (
 .cond (!(decide ((qa.Lit e1)=[]))) (
 .ret (.inr (.inl ()))) <|
 .cond (!(qa.zg e1)) (
 .ret (.inr (.inl ()))) <|
 .chk (qf (v.1 + (qa.Len e1))) <|
 .chk (qf ((v.1 + (qa.Len e1)) + (((qa.Lit e1).length:Nat):Int))) <|
 .chk (qf (v.2 + 1)) <|
 .ret (.inl ((v.1 + (qa.Len e1)) + (((qa.Lit e1).length:Nat):Int),v.2 + 1))) <|
 .cond (!(qa.zg e1)) (
 .ret (.inr (.inl ()))) <|
 .chk (qf (v.1 + (qa.Len e1))) <|
 .chk (qf ((v.1 + (qa.Len e1)) + (((qa.Lit e1).length:Nat):Int))) <|
 .chk (qf (v.2 + 1)) <|
 .ret (.inl ((v.1 + (qa.Len e1)) + (((qa.Lit e1).length:Nat):Int),v.2 + 1))) <|
 .cond (decide ((qa.zi e1)=((0:Int)))) (
 .cond (decide ((qa.Len e1)=((0:Int)))) (
 .cond (decide (((1:Int))≤(((qa.Lit e1).length:Nat):Int))) (
 .cond (qa.zg e1) (
 .ret (.inr (.inl ()))) <|
 .cond (!(qa.zg e1)) (
 .cond (!(decide ((((qa.Lit e1).length:Nat):Int)≤((200:Int))))) (
 .ret (.inr (.inl ()))) <|
 .chk (qf (v.1 + (qa.Len e1))) <|
 .chk (qf ((v.1 + (qa.Len e1)) + (((qa.Lit e1).length:Nat):Int))) <|
 .chk (qf (v.2 + 1)) <|
 .ret (.inl ((v.1 + (qa.Len e1)) + (((qa.Lit e1).length:Nat):Int),v.2 + 1))) <|
 .chk (qf (v.1 + (qa.Len e1))) <|
 .chk (qf ((v.1 + (qa.Len e1)) + (((qa.Lit e1).length:Nat):Int))) <|
 .chk (qf (v.2 + 1)) <|
 .ret (.inl ((v.1 + (qa.Len e1)) + (((qa.Lit e1).length:Nat):Int),v.2 + 1))) <|
 .cond (qa.zg e1) (
 .ret (.inr (.inl ()))) <|
 .cond (!(qa.zg e1)) (
 .ret (.inr (.inl ()))) <|
 .chk (qf (v.1 + (qa.Len e1))) <|
 .chk (qf ((v.1 + (qa.Len e1)) + (((qa.Lit e1).length:Nat):Int))) <|
 .chk (qf (v.2 + 1)) <|
 .ret (.inl ((v.1 + (qa.Len e1)) + (((qa.Lit e1).length:Nat):Int),v.2 + 1))) <|
 .cond (qa.zg e1) (
 .ret (.inr (.inl ()))) <|
 .cond (!(qa.zg e1)) (
 .ret (.inr (.inl ()))) <|
 .chk (qf (v.1 + (qa.Len e1))) <|
 .chk (qf ((v.1 + (qa.Len e1)) + (((qa.Lit e1).length:Nat):Int))) <|
 .chk (qf (v.2 + 1)) <|
 .ret (.inl ((v.1 + (qa.Len e1)) + (((qa.Lit e1).length:Nat):Int),v.2 + 1))) <|
 .cond (qa.zg e1) (
 .ret (.inr (.inl ()))) <|
 .cond (!(qa.zg e1)) (
 .ret (.inr (.inl ()))) <|
 .chk (qf (v.1 + (qa.Len e1))) <|
 .chk (qf ((v.1 + (qa.Len e1)) + (((qa.Lit e1).length:Nat):Int))) <|
 .chk (qf (v.2 + 1)) <|
 .ret (.inl ((v.1 + (qa.Len e1)) + (((qa.Lit e1).length:Nat):Int),v.2 + 1))) <|
 .cond (decide ((qa.zi e1)=((0:Int)))) (
 .cond (decide ((qa.Len e1)=((0:Int)))) (
 .cond (decide (((1:Int))≤(((qa.Lit e1).length:Nat):Int))) (
 .cond (qa.zg e1) (
 .ret (.inr (.inl ()))) <|
 .cond (!(qa.zg e1)) (
 .cond (!(decide ((((qa.Lit e1).length:Nat):Int)≤((200:Int))))) (
 .ret (.inr (.inl ()))) <|
 .chk (qf (v.1 + (qa.Len e1))) <|
 .chk (qf ((v.1 + (qa.Len e1)) + (((qa.Lit e1).length:Nat):Int))) <|
 .chk (qf (v.2 + 1)) <|
 .ret (.inl ((v.1 + (qa.Len e1)) + (((qa.Lit e1).length:Nat):Int),v.2 + 1))) <|
 .chk (qf (v.1 + (qa.Len e1))) <|
 .chk (qf ((v.1 + (qa.Len e1)) + (((qa.Lit e1).length:Nat):Int))) <|
 .chk (qf (v.2 + 1)) <|
 .ret (.inl ((v.1 + (qa.Len e1)) + (((qa.Lit e1).length:Nat):Int),v.2 + 1))) <|
 .cond (qa.zg e1) (
 .ret (.inr (.inl ()))) <|
 .cond (!(qa.zg e1)) (
 .ret (.inr (.inl ()))) <|
 .chk (qf (v.1 + (qa.Len e1))) <|
 .chk (qf ((v.1 + (qa.Len e1)) + (((qa.Lit e1).length:Nat):Int))) <|
 .chk (qf (v.2 + 1)) <|
 .ret (.inl ((v.1 + (qa.Len e1)) + (((qa.Lit e1).length:Nat):Int),v.2 + 1))) <|
 .cond (qa.zg e1) (
 .ret (.inr (.inl ()))) <|
 .cond (!(qa.zg e1)) (
 .ret (.inr (.inl ()))) <|
 .chk (qf (v.1 + (qa.Len e1))) <|
 .chk (qf ((v.1 + (qa.Len e1)) + (((qa.Lit e1).length:Nat):Int))) <|
 .chk (qf (v.2 + 1)) <|
 .ret (.inl ((v.1 + (qa.Len e1)) + (((qa.Lit e1).length:Nat):Int),v.2 + 1))) <|
 .cond (qa.zg e1) (
 .ret (.inr (.inl ()))) <|
 .cond (!(qa.zg e1)) (
 .ret (.inr (.inl ()))) <|
 .chk (qf (v.1 + (qa.Len e1))) <|
 .chk (qf ((v.1 + (qa.Len e1)) + (((qa.Lit e1).length:Nat):Int))) <|
 .chk (qf (v.2 + 1)) <|
 .ret (.inl ((v.1 + (qa.Len e1)) + (((qa.Lit e1).length:Nat):Int),v.2 + 1))) <|
 .cond (decide ((qa.zi e1)=((0:Int)))) (
 .cond (decide ((qa.Len e1)=((0:Int)))) (
 .cond (decide (((1:Int))≤(((qa.Lit e1).length:Nat):Int))) (
 .cond (qa.zg e1) (
 .ret (.inr (.inl ()))) <|
 .cond (!(qa.zg e1)) (
 .cond (!(decide ((((qa.Lit e1).length:Nat):Int)≤((200:Int))))) (
 .ret (.inr (.inl ()))) <|
 .chk (qf (v.1 + (qa.Len e1))) <|
 .chk (qf ((v.1 + (qa.Len e1)) + (((qa.Lit e1).length:Nat):Int))) <|
 .chk (qf (v.2 + 1)) <|
 .ret (.inl ((v.1 + (qa.Len e1)) + (((qa.Lit e1).length:Nat):Int),v.2 + 1))) <|
 .chk (qf (v.1 + (qa.Len e1))) <|
 .chk (qf ((v.1 + (qa.Len e1)) + (((qa.Lit e1).length:Nat):Int))) <|
 .chk (qf (v.2 + 1)) <|
 .ret (.inl ((v.1 + (qa.Len e1)) + (((qa.Lit e1).length:Nat):Int),v.2 + 1))) <|
 .cond (qa.zg e1) (
 .ret (.inr (.inl ()))) <|
 .cond (!(qa.zg e1)) (
 .ret (.inr (.inl ()))) <|
 .chk (qf (v.1 + (qa.Len e1))) <|
 .chk (qf ((v.1 + (qa.Len e1)) + (((qa.Lit e1).length:Nat):Int))) <|
 .chk (qf (v.2 + 1)) <|
 .ret (.inl ((v.1 + (qa.Len e1)) + (((qa.Lit e1).length:Nat):Int),v.2 + 1))) <|
 .cond (qa.zg e1) (
 .ret (.inr (.inl ()))) <|
 .cond (!(qa.zg e1)) (
 .ret (.inr (.inl ()))) <|
 .chk (qf (v.1 + (qa.Len e1))) <|
 .chk (qf ((v.1 + (qa.Len e1)) + (((qa.Lit e1).length:Nat):Int))) <|
 .chk (qf (v.2 + 1)) <|
 .ret (.inl ((v.1 + (qa.Len e1)) + (((qa.Lit e1).length:Nat):Int),v.2 + 1))) <|
 .cond (qa.zg e1) (
 .ret (.inr (.inl ()))) <|
 .cond (!(qa.zg e1)) (
 .ret (.inr (.inl ()))) <|
 .chk (qf (v.1 + (qa.Len e1))) <|
 .chk (qf ((v.1 + (qa.Len e1)) + (((qa.Lit e1).length:Nat):Int))) <|
 .chk (qf (v.2 + 1)) <|
 .ret (.inl ((v.1 + (qa.Len e1)) + (((qa.Lit e1).length:Nat):Int),v.2 + 1))) <|
 .cond (decide ((qa.zi e1)=((0:Int)))) (
 .cond (decide ((qa.Len e1)=((0:Int)))) (
 .cond (decide (((1:Int))≤(((qa.Lit e1).length:Nat):Int))) (
 .cond (qa.zg e1) (
 .ret (.inr (.inl ()))) <|
 .cond (!(qa.zg e1)) (
 .cond (!(decide ((((qa.Lit e1).length:Nat):Int)≤((200:Int))))) (
 .ret (.inr (.inl ()))) <|
 .chk (qf (v.1 + (qa.Len e1))) <|
 .chk (qf ((v.1 + (qa.Len e1)) + (((qa.Lit e1).length:Nat):Int))) <|
 .chk (qf (v.2 + 1)) <|
 .ret (.inl ((v.1 + (qa.Len e1)) + (((qa.Lit e1).length:Nat):Int),v.2 + 1))) <|
 .chk (qf (v.1 + (qa.Len e1))) <|
 .chk (qf ((v.1 + (qa.Len e1)) + (((qa.Lit e1).length:Nat):Int))) <|
 .chk (qf (v.2 + 1)) <|
 .ret (.inl ((v.1 + (qa.Len e1)) + (((qa.Lit e1).length:Nat):Int),v.2 + 1))) <|
 .cond (qa.zg e1) (
 .ret (.inr (.inl ()))) <|
 .cond (!(qa.zg e1)) (
 .ret (.inr (.inl ()))) <|
 .chk (qf (v.1 + (qa.Len e1))) <|
 .chk (qf ((v.1 + (qa.Len e1)) + (((qa.Lit e1).length:Nat):Int))) <|
 .chk (qf (v.2 + 1)) <|
 .ret (.inl ((v.1 + (qa.Len e1)) + (((qa.Lit e1).length:Nat):Int),v.2 + 1))) <|
 .cond (qa.zg e1) (
 .ret (.inr (.inl ()))) <|
 .cond (!(qa.zg e1)) (
 .ret (.inr (.inl ()))) <|
 .chk (qf (v.1 + (qa.Len e1))) <|
 .chk (qf ((v.1 + (qa.Len e1)) + (((qa.Lit e1).length:Nat):Int))) <|
 .chk (qf (v.2 + 1)) <|
 .ret (.inl ((v.1 + (qa.Len e1)) + (((qa.Lit e1).length:Nat):Int),v.2 + 1))) <|
 .cond (qa.zg e1) (
 .ret (.inr (.inl ()))) <|
 .cond (!(qa.zg e1)) (
 .ret (.inr (.inl ()))) <|
 .chk (qf (v.1 + (qa.Len e1))) <|
 .chk (qf ((v.1 + (qa.Len e1)) + (((qa.Lit e1).length:Nat):Int))) <|
 .chk (qf (v.2 + 1)) <|
 .ret (.inl ((v.1 + (qa.Len e1)) + (((qa.Lit e1).length:Nat):Int),v.2 + 1))) <|
 .ret (.inr (.inr ((v.1,v.2,decide (v.2 < ((s0_3.length:Nat):Int))))))
def qaY (N n:Nat) (f:Z1) (v:Qi):Option zG:=zj (Qf N f) some n v
theorem qhW (N:Nat) (f:Z1) (n:Nat) (v:Qi) (y:zG) (h:qaY N n f v=some y):LG Tryz.prog Yt 58 (q0 qnZ 3) (qhe f v) (Qq f y):=
 zU qn (E:=qcY N) (L:=qP (qhv N)) (st:=Qq f) (g:=some) (R:=Qq f) (qbS N) (qz (by kernel_rfl) trivial) (rg0 (by kernel_rfl)) (fun v=>by kernel_rfl) (ze (st:=Qq f) fun y=>by rcases y with _ | _<;>rfl) (js0 rfl) n v y h
def WN (N:Nat) (s0_3:List qa) (s3_3:Int) (s4_3:Int):Option zG:=qaY N N s0_3 (s3_3,s4_3)
def qaR (N:Nat):qy:=smL qaP [(.sl 4 ql),(.i .i64),(.i .i64)] zG (fun x=>WN N x.1 x.2.1 x.2.2.1) (csS cs1) fun x=>Qq x.1
theorem qgB (N:Nat):vW Tryz.prog Yt 58 (q0 qnZ 3) (qaR N):=ja fun x z h=>qhW N x.1 N (x.2.1,x.2.2.1) z h
def qkx (z:Bool):TV×THp:=(xb z,[])
def Y0 (N:Nat) (a0:List qa):Tree (Bool):=
 .bind (WN N a0 0 0) fun z1=>
 .sum z1 (fun z2=>
 .ret false) fun z2=>
 .cond (decide (((a0.length:Nat):Int)≤((60:Int)))) (
 .ret (decide (z2.1≤200))) <|
 .ret false
def Zs (N:Nat) (a0:List qa):Option (Bool):=(Y0 N a0).run some
def ql0 (N:Nat):List (Nat×qy):=[(3,qaR N)]
def J6 (N:Nat):Ent:=smF ⟨58,[],[.x (.sl 4 ql)],[],[]⟩ [(.sl 4 ql)] (Bool) (fun x=>Zs N x.1) cs1 fun _=>qkx
theorem WJ (N:Nat):zb Tryz.prog (J6 N):=
 q7 (H:=Yt) (L:=qP (ql0 N)) (ts:=[(.sl 4 ql)]) (T:=fun x=>Y0 N x.1) 0 qCa (qbS N) (qz (by kernel_rfl) ⟨qgB N,trivial⟩) (rg0 (by kernel_rfl)) fun x=>by kernel_rfl
noncomputable def qCx:Code:=Tryz.f18.body.getD .skip
theorem qBE:FnF Tryz.prog 18 Tryz.f18 qCx:=⟨qn,by kernel_rfl,by kernel_rfl,by kernel_rfl⟩
def qkI:TH:={ live:=[(0,[1]),(1,[1,3]),(2,[1,3,4]),(3,[1,3,4,5]),(4,[2])],dec:=[17,20,23,29,34,39,44,49,54,59] }
def qlD (N:Nat):List Ent:=[J9,qca,WT N,J6 N]
theorem qjg (N:Nat):qT Tryz.prog (qlD N):=⟨WH,qiT,qbZ N,WJ N,trivial⟩
def qlU (z:Bool):TV×THp:=(xb z,[])
def YX (N:Nat) (a0:qb):Tree (Bool):=
 .bind (v_ (qb.S a0)) fun r1=>
 .bind (V4 a0) fun r2=>
 .bind (Q6 N a0 r2) fun r3=>
 .bind (Zs N (qb.P a0)) fun r4=>
 .cond r1 (
 .cond r3 (
 .cond r4 (
 .cond (decide (((0:Int)) < (qd.N (qb.S a0)))) (
 .cond (decide (((0:Int))≤(qb.Kind a0))) (
 .cond (decide ((qb.Kind a0) < ((4:Int)))) (
 .cond (decide (((0:Int))≤(qb.No a0))) (
 .cond (decide ((qb.No a0) < ((8:Int)))) (
 .cond (decide (((0:Int))≤(qb.zk a0))) (
 .cond (decide ((qb.zk a0) < ((8:Int)))) (
 .ret (decide ((((qb.V a0).length:Nat):Int)≤((200:Int))))) <|
 .ret false) <|
 .ret false) <|
 .ret false) <|
 .ret false) <|
 .ret false) <|
 .ret false) <|
 .ret false) <|
 .ret false) <|
 .ret false) <|
 .ret false
def zq (N:Nat) (a0:qb):Option (Bool):=(YX N a0).run some
def qlI (N:Nat):List (Nat×qy):=[]
def Va (N:Nat):Ent:=smF ⟨18,[],[.x qF],[],[]⟩ [qF] (Bool) (fun x=>zq N x.1) cs1 fun _=>qlU
theorem WQ (N:Nat):zb Tryz.prog (Va N):=
 q7 (H:=qkI) (L:=qP (qlI N)) (ts:=[qF]) (T:=fun x=>YX N x.1) 0 qBE (qjg N) (qz (by kernel_rfl) trivial) (rg0 (by kernel_rfl)) fun x=>by kernel_rfl
noncomputable def qn8:Code:=Tryz.f37.body.getD .skip
theorem qC0:FnF Tryz.prog 37 Tryz.f37 qn8:=⟨qn,by kernel_rfl,by kernel_rfl,by kernel_rfl⟩
def Ku:TH:={ live:=[(0,[1]),(1,[1,3]),(2,[1,3,4]),(3,[1,3,4,6]),(4,[1,3,4]),(5,[1,3,4]),(6,[2])],nil:=[(1,[⟨.sl 3,35,.bl⟩])] }
def qdF (N:Nat):List Ent:=[]
theorem qb6 (N:Nat):qT Tryz.prog (qdF N):=trivial
abbrev Jq:=Vector UInt8 16
abbrev vv:=List UInt8×Int×Bool
def QO (f:Jq) (y:vv):Ex×TSt:=(.exit 0,⟨0,16,[],[(1,.p 10 [] 0),(3,.v 35 y.1.length),(4,xi y.2.1),(6,xb y.2.2)],[(10,.cell false (.tv (.ba 16) f)),(35,.vec false 1 .bl (y.1:List UInt8))],false,[]⟩)
def qia (N:Nat):List (Nat×qy):=[]
abbrev QQ:=List UInt8×Int
def qbA:SP:=⟨0,16,[],[(1,.k (.p 10 [] 0)),(3,.vs 35),(4,.x (.i .i64))],[(10,.cell false (.x (.ba 16))),(35,.vec false 1)],false,[]⟩
def qiV (f:Jq) (v:QQ):TSt:=zw qbA [dv .bl v.1,dv (.ba 16) f,dv (.i .i64) v.2]
def QR (N:Nat) (o_3_2:Vector UInt8 16) (v:QQ):Tree (QQ⊕vv):=
 .cond (decide (v.2 < ((16:Int)))) (
 .chk (0≤v.2∧v.2 < ((16:Nat):Int)) <|
 .chk (v.2.toNat < 16) <|
 .chk (inB (((o_3_2.toList.getD v.2.toNat 0).toNat:Nat):Int)) <|
 .chk (vq v.1.length v.1.length ((v.1++[UInt8.ofNat (((o_3_2.toList.getD v.2.toNat 0).toNat:Nat):Int).toNat]).length) 1) <|
 .chk (qf (v.2 + 1)) <|
 .ret (.inl (v.1++[UInt8.ofNat (((o_3_2.toList.getD v.2.toNat 0).toNat:Nat):Int).toNat],v.2 + 1))) <|
 .ret (.inr (v.1,v.2,decide (v.2 < ((16:Int)))))
def qbQ (N n:Nat) (f:Jq) (v:QQ):Option vv:=zj (QR N f) some n v
theorem qiU (N:Nat) (f:Jq) (n:Nat) (v:QQ) (y:vv) (h:qbQ N n f v=some y):LG Tryz.prog Ku 37 (q0 qn8 3) (qiV f v) (QO f y):=
 zU qn (E:=qdF N) (L:=qP (qia N)) (st:=QO f) (g:=some) (R:=QO f) (qb6 N) (qz (by kernel_rfl) trivial) (rg0 (by kernel_rfl)) (fun v=>by kernel_rfl) (ze (st:=QO f) fun y=>by rfl) (js0 rfl) n v y h
def Vg (N:Nat) (o_3_2:Vector UInt8 16) (o_3:List UInt8) (s4_3:Int):Option vv:=qbQ N N o_3_2 (o_3,s4_3)
def qbL (N:Nat):qy:=smL qbA [.bl,(.ba 16),(.i .i64)] vv (fun x=>Vg N x.2.1 x.1 x.2.2.1) cs1 fun x=>QO x.2.1
theorem qg7 (N:Nat):vW Tryz.prog Ku 37 (q0 qn8 3) (qbL N):=ja fun x z h=>qiU N x.2.1 N (x.1,x.2.2.1) z h
def qna (z:List UInt8):TV×THp:=(.tv .bl z,[])
def Kt (N:Nat) (a0:Vector UInt8 16):Tree (List UInt8):=
 .bind (jh [(([]:List UInt8).length,0)] (Vg N a0 [] 0)) fun z1=>
 .chk (z1.1.length=z1.1.length) <|
 .ret z1.1
def Vk (N:Nat) (a0:Vector UInt8 16):Option (List UInt8):=(Kt N a0).run some
def qnb (N:Nat):List (Nat×qy):=[(3,qbL N)]
def qdI (N:Nat):Ent:=smF ⟨37,[],[.x (.ba 16)],[],[]⟩ [(.ba 16)] (List UInt8) (fun x=>Vk N x.1) cs1 fun _=>qna
theorem ql7 (N:Nat):zb Tryz.prog (qdI N):=
 q7 (H:=Ku) (L:=qP (qnb N)) (ts:=[(.ba 16)]) (T:=fun x=>Kt N x.1) 0 qC0 (qb6 N) (qz (by kernel_rfl) ⟨qg7 N,trivial⟩) (rg0 (by kernel_rfl)) fun x=>by kernel_rfl
noncomputable def qeZ:Code:=Tryz.f86.body.getD .skip
theorem que:FnF Tryz.prog 86 Tryz.f86 qeZ:=⟨qn,by kernel_rfl,by kernel_rfl,by kernel_rfl⟩
def Ys:TH:={ live:=[(0,[0]),(1,[0,3]),(2,[0,3,9]),(3,[0,3]),(4,[0,3]),(5,[2])],vecs:=[7,16],esc:=true,mv:=[(4,[(3,100160,100070)])] }
def qc1 (N:Nat):List Ent:=[]
theorem qbR (N:Nat):qT Tryz.prog (qc1 N):=trivial
abbrev Z7:=Unit
abbrev jT:=List UInt8×Int×Bool
def Qy (f:Z7) (y:jT):Ex×TSt:=(.exit 0,⟨1,20,[],[(0,.tv (.i .u64) (y.2.1:Int)),(3,.v 100070 y.1.length),(9,xb y.2.2)],[(100070,.vec false 1 .bl (y.1:List UInt8))],false,[]⟩)
def qg9 (N:Nat):List (Nat×qy):=[]
abbrev Qw:=List UInt8×Int
def qaH:SP:=⟨1,20,[],[(0,.x (.i .u64)),(3,.vs 100070)],[(100070,.vec false 1)],false,[]⟩
def qhN (f:Z7) (v:Qw):TSt:=zw qaH [dv .bl v.1,dv (.i .u64) v.2]
def Jc (N:Nat) (v:Qw):Tree (Qw⊕jT):=
 .cond (decide (((128:Int))≤v.2)) (
 .chk ((128:Int)≠0) <|
 .chk ((128:Int)≠0) <|
 let w1:Int:=IntKind.u8.wrap ((IntKind.u64.wrap (v.2.tdiv 128)).tmod 128)
 .chk (inB (Q_ .u8 w1 128)) <|
 .chk (v.1.length=v.1.length) <|
 .chk (vq ((([UInt8.ofNat (Q_ .u8 w1 128).toNat]:List UInt8)).length) 1 (((([UInt8.ofNat (Q_ .u8 w1 128).toNat]:List UInt8))++v.1).length) 1) <|
 .ret (.inl ((([UInt8.ofNat (Q_ .u8 w1 128).toNat]:List UInt8))++v.1,IntKind.u64.wrap (v.2.tdiv 128)))) <|
 .ret (.inr (v.1,v.2,decide (((128:Int))≤v.2)))
def qaN (N n:Nat) (f:Z7) (v:Qw):Option jT:=zj (Jc N) some n v
theorem qh7 (N:Nat) (f:Z7) (n:Nat) (v:Qw) (y:jT) (h:qaN N n f v=some y):LG Tryz.prog Ys 86 (q0 qeZ 2) (qhN f v) (Qy f y):=
 zU qn (E:=qc1 N) (L:=qP (qg9 N)) (st:=Qy f) (g:=some) (R:=Qy f) (qbR N) (qz (by kernel_rfl) trivial) (rg0 (by kernel_rfl)) (fun v=>by kernel_rfl) (ze (st:=Qy f) fun y=>by rfl) (js0 rfl) n v y h
def vK (N:Nat) (o_2:List UInt8) (s0_2:Int):Option jT:=qaN N N () (o_2,s0_2)
def qaF (N:Nat):qy:=smL qaH [.bl,(.i .u64)] jT (fun x=>vK N x.1 x.2.1) cs1 fun x=>Qy ()
theorem qfY (N:Nat):vW Tryz.prog Ys 86 (q0 qeZ 2) (qaF N):=ja fun x z h=>qh7 N () N (x.1,x.2.1) z h
def qlV (z:List UInt8):TV×THp:=(.v 100070 z.length,[(100070,.vec false 1 .bl z)])
def Yj (N:Nat) (a0:Int):Tree (List UInt8):=
 .chk ((128:Int)≠0) <|
 .chk (inB (IntKind.u8.wrap (a0.tmod 128))) <|
 .bind (jh [(([UInt8.ofNat (IntKind.u8.wrap (a0.tmod 128)).toNat]:List UInt8).length,1)] (vK N [UInt8.ofNat (IntKind.u8.wrap (a0.tmod 128)).toNat] a0)) fun z1=>
 .ret z1.1
def zf (N:Nat) (a0:Int):Option (List UInt8):=(Yj N a0).run some
def qlk (N:Nat):List (Nat×qy):=[(2,qaF N)]
def J4 (N:Nat):Ent:=smF ⟨86,[],[.x (.i .u64)],[],[]⟩ [(.i .u64)] (List UInt8) (fun x=>zf N x.1) cs1 fun _=>qlV
theorem WG (N:Nat):zb Tryz.prog (J4 N):=
 q7 (H:=Ys) (L:=qP (qlk N)) (ts:=[(.i .u64)]) (T:=fun x=>Yj N x.1) 0 que (qbR N) (qz (by kernel_rfl) ⟨qfY N,trivial⟩) (rg0 (by kernel_rfl)) fun x=>by kernel_rfl
noncomputable def qB0:Code:=Tryz.f38.body.getD .skip
theorem qBI:FnF Tryz.prog 38 Tryz.f38 qB0:=⟨qn,by kernel_rfl,by kernel_rfl,by kernel_rfl⟩
def qk_:TH:={ live:=[(0,[1]),(1,[1,4]),(2,[1,8]),(3,[2,3]),(4,[2,3])],fresh:=[16] }
def qkA (N:Nat):List Ent:=[J9,J4 N]
theorem qiB (N:Nat):qT Tryz.prog (qkA N):=⟨WH,WG N,trivial⟩
def qln (z:List UInt8×Bool):TV×THp:=(.tup [.tv .bl (z.1:List UInt8),xb z.2],[])
def YF (N:Nat) (a0:qd):Tree (List UInt8×Bool):=
 .bind (v_ a0) fun r1=>
 .cond (!r1) (
 .ret ([],false)) <|
 .chk (qf (((8:Int)) * (qd.N a0))) <|
 .chk (qf ((((8:Int)) * (qd.N a0)) + (qd.Rep a0))) <|
 let w2:Int:=IntKind.u64.wrap ((((8:Int)) * (qd.N a0)) + (qd.Rep a0))
 .bind (zf N w2) fun r3=>
 .chk (r3.length=r3.length) <|
 .ret (r3,true)
def XX (N:Nat) (a0:qd):Option (List UInt8×Bool):=(YF N a0).run some
def qlF (N:Nat):List (Nat×qy):=[]
def qc_ (N:Nat):Ent:=smF ⟨38,[],[.x qB],[],[]⟩ [qB] (List UInt8×Bool) (fun x=>XX N x.1) cs1 fun _=>qln
theorem qkm (N:Nat):zb Tryz.prog (qc_ N):=
 q7 (H:=qk_) (L:=qP (qlF N)) (ts:=[qB]) (T:=fun x=>YF N x.1) 0 qBI (qiB N) (qz (by kernel_rfl) trivial) (rg0 (by kernel_rfl)) fun x=>by kernel_rfl
noncomputable def qDg:Code:=Tryz.f39.body.getD .skip
theorem qCG:FnF Tryz.prog 39 Tryz.f39 qDg:=⟨qn,by kernel_rfl,by kernel_rfl,by kernel_rfl⟩
def qjX:TH:={ live:=[(0,[0]),(1,[2])],fresh:=[6] }
def qkc (N:Nat):List Ent:=[J4 N]
theorem qhn (N:Nat):qT Tryz.prog (qkc N):=⟨WG N,trivial⟩
def qjY (z:List UInt8):TV×THp:=(.tv .bl z,[])
def WV (N:Nat) (a0:List UInt8):Tree (List UInt8):=
 let w1:Int:=IntKind.u64.wrap ((a0.length:Nat):Int)
 .bind (zf N w1) fun r2=>
 .chk (vq r2.length r2.length ((r2++a0).length) 1) <|
 .chk ((r2++a0).length=(r2++a0).length) <|
 .ret (r2++a0)
def Q5 (N:Nat) (a0:List UInt8):Option (List UInt8):=(WV N a0).run some
def qj0 (N:Nat):List (Nat×qy):=[]
def WK (N:Nat):Ent:=smF ⟨39,[],[.x .s],[],[]⟩ [.s] (List UInt8) (fun x=>Q5 N x.1) cs1 fun _=>qjY
theorem qbi (N:Nat):zb Tryz.prog (WK N):=
 q7 (H:=qjX) (L:=qP (qj0 N)) (ts:=[.s]) (T:=fun x=>WV N x.1) 0 qCG (qhn N) (qz (by kernel_rfl) trivial) (rg0 (by kernel_rfl)) fun x=>by kernel_rfl
noncomputable def qog:Code:=Tryz.f40.body.getD .skip
theorem qCZ:FnF Tryz.prog 40 Tryz.f40 qog:=⟨qn,by kernel_rfl,by kernel_rfl,by kernel_rfl⟩
def Yy:TH:={ live:=[(0,[0]),(1,[0,4]),(2,[0,10]),(3,[2,3]),(4,[0,5]),(5,[0,5,6]),(6,[0,5,6,18]),(7,[0,5,6]),(8,[0,5,6,25]),(9,[0,5,6]),(10,[0,5,6]),(11,[0,5,6]),(12,[0,5,6]),(13,[0,5,6]),(14,[2,3])],fresh:=[14] }
def qc4 (N:Nat):List Ent:=[J6 N,J4 N,WK N]
theorem qbx (N:Nat):qT Tryz.prog (qc4 N):=⟨WJ N,WG N,qbi N,trivial⟩
abbrev Z2:=List qa
abbrev jW:=List UInt8×Int×Bool
def Qv (f:Z2) (y:jW):Ex×TSt:=(.exit 0,⟨0,59,[],[(0,.tv (.sl 4 ql) f),(5,.v 100070 y.1.length),(6,xi y.2.1),(18,xb y.2.2)],[(100070,.vec false 1 .bl (y.1:List UInt8))],false,[]⟩)
def qhJ (N:Nat):List (Nat×qy):=[]
abbrev Qh:=List UInt8×Int
def qa4:SP:=⟨0,59,[],[(0,.x (.sl 4 ql)),(5,.vs 100070),(6,.x (.i .i64))],[(100070,.vec false 1)],false,[]⟩
def qhk (f:Z2) (v:Qh):TSt:=zw qa4 [dv .bl v.1,dv (.sl 4 ql) f,dv (.i .i64) v.2]
def Qs (N:Nat) (s0_6:List qa) (v:Qh):Tree (Qh⊕jW):=
 .cond (decide (v.2 < ((s0_6.length:Nat):Int))) (
 .bind (zh s0_6 v.2) fun e1=>
 .cond (qa.zg e1) (
 .chk (vq v.1.length v.1.length ((v.1++[(UInt8.ofNat 1)]).length) 1) <|
 .bind (zh s0_6 v.2) fun e2=>
 .bind (zf N (IntKind.u64.wrap (qa.zi e2))) fun r3=>
 .chk (r3.length=r3.length) <|
 .chk (vq ((v.1++[(UInt8.ofNat 1)]).length) ((v.1++[(UInt8.ofNat 1)]).length) (((v.1++[(UInt8.ofNat 1)])++r3).length) 1) <|
 .bind (zh s0_6 v.2) fun e4=>
 .bind (zf N (IntKind.u64.wrap (qa.Len e4))) fun r5=>
 .chk (r5.length=r5.length) <|
 .chk (vq (((v.1++[(UInt8.ofNat 1)])++r3).length) (((v.1++[(UInt8.ofNat 1)])++r3).length) ((((v.1++[(UInt8.ofNat 1)])++r3)++r5).length) 1) <|
 .chk (qf (v.2 + 1)) <|
 .ret (.inl (((v.1++[(UInt8.ofNat 1)])++r3)++r5,v.2 + 1))) <|
 .chk (vq v.1.length v.1.length ((v.1++[(UInt8.ofNat 0)]).length) 1) <|
 .bind (zh s0_6 v.2) fun e2=>
 .bind (Q5 N (qa.Lit e2)) fun r3=>
 .chk (vq ((v.1++[(UInt8.ofNat 0)]).length) ((v.1++[(UInt8.ofNat 0)]).length) (((v.1++[(UInt8.ofNat 0)])++r3).length) 1) <|
 .chk (qf (v.2 + 1)) <|
 .ret (.inl ((v.1++[(UInt8.ofNat 0)])++r3,v.2 + 1))) <|
 .ret (.inr (v.1,v.2,decide (v.2 < ((s0_6.length:Nat):Int))))
def qa7 (N n:Nat) (f:Z2) (v:Qh):Option jW:=zj (Qs N f) some n v
theorem qg8 (N:Nat) (f:Z2) (n:Nat) (v:Qh) (y:jW) (h:qa7 N n f v=some y):LG Tryz.prog Yy 40 (q0 qog 6) (qhk f v) (Qv f y):=
 zU qn (E:=qc4 N) (L:=qP (qhJ N)) (st:=Qv f) (g:=some) (R:=Qv f) (qbx N) (qz (by kernel_rfl) trivial) (rg0 (by kernel_rfl)) (fun v=>by kernel_rfl) (ze (st:=Qv f) fun y=>by rfl) (js0 rfl) n v y h
def JU (N:Nat) (s0_6:List qa) (o_6:List UInt8) (s6_6:Int):Option jW:=qa7 N N s0_6 (o_6,s6_6)
def qa1 (N:Nat):qy:=smL qa4 [.bl,(.sl 4 ql),(.i .i64)] jW (fun x=>JU N x.2.1 x.1 x.2.2.1) cs1 fun x=>Qv x.2.1
theorem qf6 (N:Nat):vW Tryz.prog Yy 40 (q0 qog 6) (qa1 N):=ja fun x z h=>qg8 N x.2.1 N (x.1,x.2.2.1) z h
def qls (z:List UInt8×Bool):TV×THp:=(.tup [.tv .bl (z.1:List UInt8),xb z.2],[])
def YA (N:Nat) (a0:List qa):Tree (List UInt8×Bool):=
 .bind (Zs N a0) fun r1=>
 .cond (!r1) (
 .ret ([],false)) <|
 let w2:Int:=IntKind.u64.wrap ((a0.length:Nat):Int)
 .bind (zf N w2) fun r3=>
 .bind (jh [(r3.length,r3.length)] (JU N a0 r3 0)) fun z4=>
 .chk (z4.1.length=z4.1.length) <|
 .ret (z4.1,true)
def XT (N:Nat) (a0:List qa):Option (List UInt8×Bool):=(YA N a0).run some
def qli (N:Nat):List (Nat×qy):=[(6,qa1 N)]
def qcW (N:Nat):Ent:=smF ⟨40,[],[.x (.sl 4 ql)],[],[]⟩ [(.sl 4 ql)] (List UInt8×Bool) (fun x=>XT N x.1) cs1 fun _=>qls
theorem qka (N:Nat):zb Tryz.prog (qcW N):=
 q7 (H:=Yy) (L:=qP (qli N)) (ts:=[(.sl 4 ql)]) (T:=fun x=>YA N x.1) 0 qCZ (qbx N) (qz (by kernel_rfl) ⟨qf6 N,trivial⟩) (rg0 (by kernel_rfl)) fun x=>by kernel_rfl
noncomputable def qnS:Code:=Tryz.f41.body.getD .skip
theorem qD1:FnF Tryz.prog 41 Tryz.f41 qnS:=⟨qn,by kernel_rfl,by kernel_rfl,by kernel_rfl⟩
def Xk:TH:={ live:=[(0,[1]),(1,[1,3]),(2,[1,3,4]),(3,[1,3,4,6]),(4,[1,3,4]),(5,[1,3,4]),(6,[2])],nil:=[(1,[⟨.sl 3,35,.bl⟩])] }
def qaD (N:Nat):List Ent:=[]
theorem Kn (N:Nat):qT Tryz.prog (qaD N):=trivial
abbrev QJ:=Vector UInt8 32
abbrev js:=List UInt8×Int×Bool
def vg (f:QJ) (y:js):Ex×TSt:=(.exit 0,⟨0,16,[],[(1,.p 10 [] 0),(3,.v 35 y.1.length),(4,xi y.2.1),(6,xb y.2.2)],[(10,.cell false (.tv (.ba 32) f)),(35,.vec false 1 .bl (y.1:List UInt8))],false,[]⟩)
def qeL (N:Nat):List (Nat×qy):=[]
abbrev j_:=List UInt8×Int
def W_:SP:=⟨0,16,[],[(1,.k (.p 10 [] 0)),(3,.vs 35),(4,.x (.i .i64))],[(10,.cell false (.x (.ba 32))),(35,.vec false 1)],false,[]⟩
def qeo (f:QJ) (v:j_):TSt:=zw W_ [dv .bl v.1,dv (.ba 32) f,dv (.i .i64) v.2]
def vd (N:Nat) (o_3_2:Vector UInt8 32) (v:j_):Tree (j_⊕js):=
 .cond (decide (v.2 < ((32:Int)))) (
 .chk (0≤v.2∧v.2 < ((32:Nat):Int)) <|
 .chk (v.2.toNat < 32) <|
 .chk (inB (((o_3_2.toList.getD v.2.toNat 0).toNat:Nat):Int)) <|
 .chk (vq v.1.length v.1.length ((v.1++[UInt8.ofNat (((o_3_2.toList.getD v.2.toNat 0).toNat:Nat):Int).toNat]).length) 1) <|
 .chk (qf (v.2 + 1)) <|
 .ret (.inl (v.1++[UInt8.ofNat (((o_3_2.toList.getD v.2.toNat 0).toNat:Nat):Int).toNat],v.2 + 1))) <|
 .ret (.inr (v.1,v.2,decide (v.2 < ((32:Int)))))
def Yb (N n:Nat) (f:QJ) (v:j_):Option js:=zj (vd N f) some n v
theorem qew (N:Nat) (f:QJ) (n:Nat) (v:j_) (y:js) (h:Yb N n f v=some y):LG Tryz.prog Xk 41 (q0 qnS 3) (qeo f v) (vg f y):=
 zU qn (E:=qaD N) (L:=qP (qeL N)) (st:=vg f) (g:=some) (R:=vg f) (Kn N) (qz (by kernel_rfl) trivial) (rg0 (by kernel_rfl)) (fun v=>by kernel_rfl) (ze (st:=vg f) fun y=>by rfl) (js0 rfl) n v y h
def ZJ (N:Nat) (o_3_2:Vector UInt8 32) (o_3:List UInt8) (s4_3:Int):Option js:=Yb N N o_3_2 (o_3,s4_3)
def W8 (N:Nat):qy:=smL W_ [.bl,(.ba 32),(.i .i64)] js (fun x=>ZJ N x.2.1 x.1 x.2.2.1) cs1 fun x=>vg x.2.1
theorem qdM (N:Nat):vW Tryz.prog Xk 41 (q0 qnS 3) (W8 N):=ja fun x z h=>qew N x.2.1 N (x.1,x.2.2.1) z h
def qhX (z:List UInt8):TV×THp:=(.tv .bl z,[])
def Xu (N:Nat) (a0:Vector UInt8 32):Tree (List UInt8):=
 .bind (jh [(([]:List UInt8).length,0)] (ZJ N a0 [] 0)) fun z1=>
 .chk (z1.1.length=z1.1.length) <|
 .ret z1.1
def Zk (N:Nat) (a0:Vector UInt8 32):Option (List UInt8):=(Xu N a0).run some
def qg4 (N:Nat):List (Nat×qy):=[(3,W8 N)]
def qaI (N:Nat):Ent:=smF ⟨41,[],[.x (.ba 32)],[],[]⟩ [(.ba 32)] (List UInt8) (fun x=>Zk N x.1) cs1 fun _=>qhX
theorem qgh (N:Nat):zb Tryz.prog (qaI N):=
 q7 (H:=Xk) (L:=qP (qg4 N)) (ts:=[(.ba 32)]) (T:=fun x=>Xu N x.1) 0 qD1 (Kn N) (qz (by kernel_rfl) ⟨qdM N,trivial⟩) (rg0 (by kernel_rfl)) fun x=>by kernel_rfl
noncomputable def qcs:Code:=Tryz.f14.body.getD .skip
theorem qD2:FnF Tryz.prog 14 Tryz.f14 qcs:=⟨qn,by kernel_rfl,by kernel_rfl,by kernel_rfl⟩
def Qg:TH:={ live:=[(0,[1]),(1,[1,4]),(2,[1,13]),(3,[2,3]),(4,[1,5]),(5,[1,5,6]),(6,[1,5]),(7,[1,5,33]),(8,[1,5]),(9,[1,5,42]),(10,[1,5]),(11,[1,5,50]),(12,[1,5]),(13,[1,5]),(14,[1,5,64]),(15,[1,5,8]),(16,[1,5]),(17,[1,5,81]),(18,[5]),(19,[2,3])],vecs:=[17],dec:=[77],jn:=[1000008,1000010,1000012,1000015,1000018] }
def Qr (N:Nat):List Ent:=[Va N,qdI N,qc_ N,WK N,qcW N,qaI N]
theorem vo (N:Nat):qT Tryz.prog (Qr N):=⟨WQ N,ql7 N,qkm N,qbi N,qka N,qgh N,trivial⟩
abbrev Xt:List Ty:=[.bl,qF,.b]
abbrev Z4:=List UInt8
def qa6 (x:Xs Xt) (y:Z4):Ex×TSt:=(.normal,⟨0,88,[],[(1,.p 10 [] 0),(5,.v 170 y.length)],[(10,.cell false (.tv qF x.2.1)),(170,.vec false 1 .bl y)],false,[]⟩)
def qhL (N:Nat):List (Nat×qy):=[]
def qhG (N:Nat):List (Nat×qy):=[]
def qaK:SP:=⟨0,88,[],[(1,.k (.p 10 [] 0)),(5,.vs 170),(33,.x .b)],[(10,.cell false (.x qF)),(170,.vec false 1)],false,[]⟩
def V6 (N:Nat) (o_8:List UInt8) (o_8_2:qb) (s33_8:Bool):Tree Z4:=
 .cond s33_8 (
 .chk (inB (IntKind.u8.wrap (qb.No o_8_2))) <|
 .chk (vq o_8.length o_8.length ((o_8++[UInt8.ofNat (IntKind.u8.wrap (qb.No o_8_2)).toNat]).length) 1) <|
 .ret (o_8++[UInt8.ofNat (IntKind.u8.wrap (qb.No o_8_2)).toNat])) <|
 .ret o_8
def vN (N:Nat) (o_8:List UInt8) (o_8_2:qb) (s33_8:Bool):Option Z4:=(V6 N o_8 o_8_2 s33_8).run some
def qaE (N:Nat):qy:=smC qaK Xt Z4 (fun x=>vN N x.1 x.2.1 x.2.2.1) cs1 qa6
theorem qgl (N:Nat):qbP Tryz.prog Qg 14 (X7 qcs 1000008) (qaE N):=Yr fun x z h=>
 Yo qn (E:=Qr N) (L:=Vb (qhL N) (qhG N)) (hd:=fun x=>zw qaK (dsX Xt x)) (st:=qa6) (B:=fun x=>V6 N x.1 x.2.1 x.2.2.1) (vo N) (ZA (by kernel_rfl) trivial) (rg0 (by kernel_rfl)) (Zy trivial) (by kernel_rfl) [1,5] (fun x=>by kernel_rfl) x z h
abbrev VT:List Ty:=[.bl,qF,.b]
abbrev ZG:=List UInt8
def KT (x:Xs VT) (y:ZG):Ex×TSt:=(.normal,⟨0,88,[],[(1,.p 10 [] 0),(5,.v 170 y.length)],[(10,.cell false (.tv qF x.2.1)),(170,.vec false 1 .bl y)],false,[]⟩)
def qg0 (N:Nat):List (Nat×qy):=[]
def qgZ (N:Nat):List (Nat×qy):=[]
def K7:SP:=⟨0,88,[],[(1,.k (.p 10 [] 0)),(5,.vs 170),(42,.x .b)],[(10,.cell false (.x qF)),(170,.vec false 1)],false,[]⟩
def VG (N:Nat) (o_10:List UInt8) (o_10_2:qb) (s42_10:Bool):Tree ZG:=
 .cond s42_10 (
 .bind (Q5 N (qb.V o_10_2)) fun r1=>
 .chk (vq o_10.length o_10.length ((o_10++r1).length) 1) <|
 .ret (o_10++r1)) <|
 .ret o_10
def QT (N:Nat) (o_10:List UInt8) (o_10_2:qb) (s42_10:Bool):Option ZG:=(VG N o_10 o_10_2 s42_10).run some
def K6 (N:Nat):qy:=smC K7 VT ZG (fun x=>QT N x.1 x.2.1 x.2.2.1) cs1 KT
theorem qfi (N:Nat):qbP Tryz.prog Qg 14 (X7 qcs 1000010) (K6 N):=Yr fun x z h=>
 Yo qn (E:=Qr N) (L:=Vb (qg0 N) (qgZ N)) (hd:=fun x=>zw K7 (dsX VT x)) (st:=KT) (B:=fun x=>VG N x.1 x.2.1 x.2.2.1) (vo N) (ZA (by kernel_rfl) trivial) (rg0 (by kernel_rfl)) (Zy trivial) (by kernel_rfl) [1,5] (fun x=>by kernel_rfl) x z h
abbrev Vz:List Ty:=[.bl,qF,.b]
abbrev ZR:=List UInt8
def KL (x:Xs Vz) (y:ZR):Ex×TSt:=(.normal,⟨0,88,[],[(1,.p 10 [] 0),(5,.v 170 y.length)],[(10,.cell false (.tv qF x.2.1)),(170,.vec false 1 .bl y)],false,[]⟩)
def qgo (N:Nat):List (Nat×qy):=[]
def qgW (N:Nat):List (Nat×qy):=[]
def KC:SP:=⟨0,88,[],[(1,.k (.p 10 [] 0)),(5,.vs 170),(50,.x .b)],[(10,.cell false (.x qF)),(170,.vec false 1)],false,[]⟩
def Vt (N:Nat) (o_12:List UInt8) (o_12_2:qb) (s50_12:Bool):Tree ZR:=
 .cond s50_12 (
 .bind (Vk N (qb.zi o_12_2)) fun r1=>
 .chk (vq o_12.length o_12.length ((o_12++r1).length) 1) <|
 let w2:Int:=IntKind.u8.wrap (qb.zk o_12_2)
 .chk (inB w2) <|
 .chk (vq ((o_12++r1).length) ((o_12++r1).length) (((o_12++r1)++[UInt8.ofNat w2.toNat]).length) 1) <|
 .ret ((o_12++r1)++[UInt8.ofNat w2.toNat])) <|
 .ret o_12
def QM (N:Nat) (o_12:List UInt8) (o_12_2:qb) (s50_12:Bool):Option ZR:=(Vt N o_12 o_12_2 s50_12).run some
def K9 (N:Nat):qy:=smC KC Vz ZR (fun x=>QM N x.1 x.2.1 x.2.2.1) cs1 KL
theorem qfl (N:Nat):qbP Tryz.prog Qg 14 (X7 qcs 1000012) (K9 N):=Yr fun x z h=>
 Yo qn (E:=Qr N) (L:=Vb (qgo N) (qgW N)) (hd:=fun x=>zw KC (dsX Vz x)) (st:=KL) (B:=fun x=>Vt N x.1 x.2.1 x.2.2.1) (vo N) (ZA (by kernel_rfl) trivial) (rg0 (by kernel_rfl)) (Zy trivial) (by kernel_rfl) [1,5] (fun x=>by kernel_rfl) x z h
abbrev VC:List Ty:=[.bl,qF,.b]
abbrev ZC:=List UInt8
def KE (x:Xs VC) (y:ZC):Ex×TSt:=(.normal,⟨0,88,[],[(1,.p 10 [] 0),(5,.v 170 y.length)],[(10,.cell false (.tv qF x.2.1)),(170,.vec false 1 .bl y)],false,[]⟩)
def qgz (N:Nat):List (Nat×qy):=[]
def qgO (N:Nat):List (Nat×qy):=[]
def K0:SP:=⟨0,88,[],[(1,.k (.p 10 [] 0)),(5,.vs 170),(64,.x .b)],[(10,.cell false (.x qF)),(170,.vec false 1)],false,[]⟩
def Vy (N:Nat) (o_15:List UInt8) (o_15_2:qb) (s64_15:Bool):Tree ZC:=
 .cond s64_15 (
 .bind (XT N (qb.P o_15_2)) fun r1=>
 .chk (vq o_15.length o_15.length ((o_15++r1.1).length) 1) <|
 .ret (o_15++r1.1)) <|
 .ret o_15
def Q0 (N:Nat) (o_15:List UInt8) (o_15_2:qb) (s64_15:Bool):Option ZC:=(Vy N o_15 o_15_2 s64_15).run some
def K4 (N:Nat):qy:=smC K0 VC ZC (fun x=>Q0 N x.1 x.2.1 x.2.2.1) cs1 KE
theorem qfs (N:Nat):qbP Tryz.prog Qg 14 (X7 qcs 1000015) (K4 N):=Yr fun x z h=>
 Yo qn (E:=Qr N) (L:=Vb (qgz N) (qgO N)) (hd:=fun x=>zw K0 (dsX VC x)) (st:=KE) (B:=fun x=>Vy N x.1 x.2.1 x.2.2.1) (vo N) (ZA (by kernel_rfl) trivial) (rg0 (by kernel_rfl)) (Zy trivial) (by kernel_rfl) [1,5] (fun x=>by kernel_rfl) x z h
abbrev VJ:List Ty:=[.bl,qF,.b]
abbrev ZN:=List UInt8
def Kx (x:Xs VJ) (y:ZN):Ex×TSt:=(.normal,⟨0,88,[],[(5,.v 170 y.length)],[(170,.vec false 1 .bl y)],false,[]⟩)
def qf2 (N:Nat):List (Nat×qy):=[]
def qgw (N:Nat):List (Nat×qy):=[]
def Kz:SP:=⟨0,88,[],[(1,.k (.p 10 [] 0)),(5,.vs 170),(81,.x .b)],[(10,.cell false (.x qF)),(170,.vec false 1)],false,[]⟩
def VE (N:Nat) (o_18:List UInt8) (o_18_2:qb) (s81_18:Bool):Tree ZN:=
 .cond s81_18 (
 .bind (Zk N (qb.D o_18_2)) fun r1=>
 .chk (vq o_18.length o_18.length ((o_18++r1).length) 1) <|
 .ret (o_18++r1)) <|
 .ret o_18
def QN (N:Nat) (o_18:List UInt8) (o_18_2:qb) (s81_18:Bool):Option ZN:=(VE N o_18 o_18_2 s81_18).run some
def KM (N:Nat):qy:=smC Kz VJ ZN (fun x=>QN N x.1 x.2.1 x.2.2.1) cs1 Kx
theorem qfk (N:Nat):qbP Tryz.prog Qg 14 (X7 qcs 1000018) (KM N):=Yr fun x z h=>
 Yo qn (E:=Qr N) (L:=Vb (qf2 N) (qgw N)) (hd:=fun x=>zw Kz (dsX VJ x)) (st:=Kx) (B:=fun x=>VE N x.1 x.2.1 x.2.2.1) (vo N) (ZA (by kernel_rfl) trivial) (rg0 (by kernel_rfl)) (Zy trivial) (by kernel_rfl) [5] (fun x=>by kernel_rfl) x z h
def qkR (z:List UInt8×Bool):TV×THp:=(.tup [.tv .bl (z.1:List UInt8),xb z.2],[])
def Ye (N:Nat) (a0:qb):Tree (List UInt8×Bool):=
 .bind (zq N a0) fun r1=>
 .cond (!r1) (
 .ret ([],false)) <|
 .chk (inB (IntKind.u8.wrap (qb.Kind a0))) <|
 .bind (Vk N (qb.ID a0)) fun r2=>
 .chk (vq ((([UInt8.ofNat (IntKind.u8.wrap (qb.Kind a0)).toNat]:List UInt8)).length) 1 (((([UInt8.ofNat (IntKind.u8.wrap (qb.Kind a0)).toNat]:List UInt8))++r2).length) 1) <|
 .bind (XX N (qb.S a0)) fun r3=>
 .chk (vq (((([UInt8.ofNat (IntKind.u8.wrap (qb.Kind a0)).toNat]:List UInt8))++r2).length) (((([UInt8.ofNat (IntKind.u8.wrap (qb.Kind a0)).toNat]:List UInt8))++r2).length) ((((([UInt8.ofNat (IntKind.u8.wrap (qb.Kind a0)).toNat]:List UInt8))++r2)++r3.1).length) 1) <|
 .bind (jh [((((([UInt8.ofNat (IntKind.u8.wrap (qb.Kind a0)).toNat]:List UInt8))++r2)++r3.1).length,(((([UInt8.ofNat (IntKind.u8.wrap (qb.Kind a0)).toNat]:List UInt8))++r2)++r3.1).length)] (vN N (((([UInt8.ofNat (IntKind.u8.wrap (qb.Kind a0)).toNat]:List UInt8))++r2)++r3.1) a0 (!decide ((qb.Kind a0)=((0:Int)))))) fun j4=>
 .bind (jh [(j4.length,j4.length)] (QT N j4 a0 (decide ((qb.Kind a0)=((1:Int)))))) fun j5=>
 .bind (jh [(j5.length,j5.length)] (QM N j5 a0 (decide ((qb.Kind a0)=((2:Int)))))) fun j6=>
 .bind (jh [(j6.length,j6.length)] (Q0 N j6 a0 (decide ((qb.Kind a0)=((3:Int)))))) fun j7=>
 .cond (decide ((qb.Kind a0)=((2:Int)))) (
 .bind (Zk N (qb.D a0)) fun r8=>
 .chk (vq j7.length j7.length ((j7++r8).length) 1) <|
 .chk ((j7++r8).length=(j7++r8).length) <|
 .ret (j7++r8,true)) <|
 .bind (jh [(j7.length,j7.length)] (QN N j7 a0 (decide ((qb.Kind a0)=((3:Int)))))) fun j8=>
 .chk (j8.length=j8.length) <|
 .ret (j8,true)
def JH (N:Nat) (a0:qb):Option (List UInt8×Bool):=(Ye N a0).run some
def qkB (N:Nat):List (Nat×qy):=[]
def qkq (N:Nat):List (Nat×qy):=[(1000008,qaE N),(1000010,K6 N),(1000012,K9 N),(1000015,K4 N),(1000018,KM N)]
def Yc (N:Nat):Ent:=smF ⟨14,[],[.x qF],[],[]⟩ [qF] (List UInt8×Bool) (fun x=>JH N x.1) cs1 fun _=>qkR
theorem qb9 (N:Nat):zb Tryz.prog (Yc N):=
 q7 (H:=Qg) (L:=Vb (qkB N) (qkq N)) (ts:=[qF]) (T:=fun x=>Ye N x.1) (hS:=Zy ⟨⟨by kernel_rfl,qgl N⟩,⟨by kernel_rfl,qfi N⟩,⟨by kernel_rfl,qfl N⟩,⟨by kernel_rfl,qfs N⟩,⟨by kernel_rfl,qfk N⟩,trivial⟩) 0 qD2 (vo N) (ZA (by kernel_rfl) trivial) (rg0 (by kernel_rfl)) fun x=>by kernel_rfl
noncomputable def qDn:Code:=Tryz.f45.body.getD .skip
theorem qCw:FnF Tryz.prog 45 Tryz.f45 qDn:=⟨qn,by kernel_rfl,by kernel_rfl,by kernel_rfl⟩
def qo6:TH:={ live:=[(0,[0,1,2]),(1,[0,1]),(2,[0,1,31]),(3,[6]),(4,[0,1,7]),(5,[7]),(6,[6])],dec:=[13,17] }
def qoR (N:Nat):List Ent:=[]
theorem qkM (N:Nat):qT Tryz.prog (qoR N):=trivial
def qoQ (z:qj×List UInt8):TV×THp:=(.tv .bl (z.2:List UInt8),[(180,.cell false (.tv zN (z.1:qj)))])
def qas (a0:qj) (a1:Int) (a2:Bool):Tree (qj×List UInt8):=
 .cond (qj.bad a0) (
 .cond true (
 .chk (qbd a1 a1 1) <|
 .chk (((List.replicate a1.toNat 0:List UInt8)).length=((List.replicate a1.toNat 0:List UInt8)).length) <|
 .ret (qj.mk (qj.b a0) true,(List.replicate a1.toNat 0:List UInt8))) <|
 .chk (0≤(0:Int)∧(0:Int)≤a1∧a1≤(((qj.b a0).length:Nat):Int)) <|
 .chk (0≤a1∧a1≤(((qj.b a0).length:Nat):Int)) <|
 .ret (qj.mk ((qj.b a0).drop a1.toNat) true,((qj.b a0).take a1.toNat).drop 0)) <|
 .cond (!a2) (
 .cond true (
 .chk (qbd a1 a1 1) <|
 .chk (((List.replicate a1.toNat 0:List UInt8)).length=((List.replicate a1.toNat 0:List UInt8)).length) <|
 .ret (qj.mk (qj.b a0) true,(List.replicate a1.toNat 0:List UInt8))) <|
 .chk (0≤(0:Int)∧(0:Int)≤a1∧a1≤(((qj.b a0).length:Nat):Int)) <|
 .chk (0≤a1∧a1≤(((qj.b a0).length:Nat):Int)) <|
 .ret (qj.mk ((qj.b a0).drop a1.toNat) true,((qj.b a0).take a1.toNat).drop 0)) <|
 .cond (decide ((((qj.b a0).length:Nat):Int) < a1)) (
 .chk (qbd a1 a1 1) <|
 .chk (((List.replicate a1.toNat 0:List UInt8)).length=((List.replicate a1.toNat 0:List UInt8)).length) <|
 .ret (qj.mk (qj.b a0) (decide ((((qj.b a0).length:Nat):Int) < a1)),(List.replicate a1.toNat 0:List UInt8))) <|
 .chk (0≤(0:Int)∧(0:Int)≤a1∧a1≤(((qj.b a0).length:Nat):Int)) <|
 .chk (0≤a1∧a1≤(((qj.b a0).length:Nat):Int)) <|
 .ret (qj.mk ((qj.b a0).drop a1.toNat) (decide ((((qj.b a0).length:Nat):Int) < a1)),((qj.b a0).take a1.toNat).drop 0)
def z_ (a0:qj) (a1:Int) (a2:Bool):Option (qj×List UInt8):=(qas a0 a1 a2).run some
def qoB:List (Nat×qy):=[]
def JJ:Ent:=smF ⟨45,[],[.k (.p 180 [] 0),.x (.i .i64),.x .b],[],[(180,.cell false (.x zN))]⟩ [zN,(.i .i64),.b] (qj×List UInt8) (fun x=>z_ x.1 x.2.1 x.2.2.1) cs1 fun _=>qoQ
theorem VX:zb Tryz.prog (JJ):=
 q7 (H:=qo6) (L:=qP (qoB)) (ts:=[zN,(.i .i64),.b]) (T:=fun x=>qas x.1 x.2.1 x.2.2.1) 0 qCw (qkM 0) (qz (by kernel_rfl) trivial) (rg0 (by kernel_rfl)) fun x=>by kernel_rfl
noncomputable def qBL:Code:=Tryz.f42.body.getD .skip
theorem qC_:FnF Tryz.prog 42 Tryz.f42 qBL:=⟨qn,by kernel_rfl,by kernel_rfl,by kernel_rfl⟩
def qpa:TH:={ live:=[(0,[0]),(1,[2])] }
def qqB (N:Nat):List Ent:=[JJ]
theorem qm0 (N:Nat):qT Tryz.prog (qqB N):=⟨VX,trivial⟩
def qpE (z:qj×Int):TV×THp:=(xi z.2,[(180,.cell false (.tv zN (z.1:qj)))])
def qbw (a0:qj):Tree (qj×Int):=
 .bind (z_ a0 1 true) fun r1=>
 .bind (zh r1.2 0) fun e2=>
 .chk (qf ((e2.toNat:Nat):Int)) <|
 .ret (r1.1,((e2.toNat:Nat):Int))
def Jh (a0:qj):Option (qj×Int):=(qbw a0).run some
def qp_:List (Nat×qy):=[]
def qfS:Ent:=smF ⟨42,[],[.k (.p 180 [] 0)],[],[(180,.cell false (.x zN))]⟩ [zN] (qj×Int) (fun x=>Jh x.1) cs1 fun _=>qpE
theorem qn0:zb Tryz.prog (qfS):=
 q7 (H:=qpa) (L:=qP (qp_)) (ts:=[zN]) (T:=fun x=>qbw x.1) 0 qC_ (qm0 0) (qz (by kernel_rfl) trivial) (rg0 (by kernel_rfl)) fun x=>by kernel_rfl
noncomputable def qCI:Code:=Tryz.f43.body.getD .skip
theorem qCU:FnF Tryz.prog 43 Tryz.f43 qCI:=⟨qn,by kernel_rfl,by kernel_rfl,by kernel_rfl⟩
def qqO:TH:={ live:=[(0,[0,2]),(1,[2])] }
def qqN (N:Nat):List Ent:=[JJ]
theorem qoj (N:Nat):qT Tryz.prog (qqN N):=⟨VX,trivial⟩
def qq5 (z:qj×Vector UInt8 16):TV×THp:=(.tv (.ba 16) (z.2:Vector UInt8 16),[(180,.cell false (.tv zN (z.1:qj)))])
def qct (a0:qj):Tree (qj×Vector UInt8 16):=
 .bind (z_ a0 16 true) fun r1=>
 .chk (16≤r1.2.length∧16≠0) <|
 .ret (r1.1,jA 16 r1.2)
def Xb (a0:qj):Option (qj×Vector UInt8 16):=(qct a0).run some
def qrP:List (Nat×qy):=[]
def qhf:Ent:=smF ⟨43,[],[.k (.p 180 [] 0)],[],[(180,.cell false (.x zN))]⟩ [zN] (qj×Vector UInt8 16) (fun x=>Xb x.1) cs1 fun _=>qq5
theorem qpO:zb Tryz.prog (qhf):=
 q7 (H:=qqO) (L:=qP (qrP)) (ts:=[zN]) (T:=fun x=>qct x.1) 0 qCU (qoj 0) (qz (by kernel_rfl) trivial) (rg0 (by kernel_rfl)) fun x=>by kernel_rfl
noncomputable def qos:Code:=Tryz.f87.body.getD .skip
theorem qDC:FnF Tryz.prog 87 Tryz.f87 qos:=⟨qn,by kernel_rfl,by kernel_rfl,by kernel_rfl⟩
def qiD:TH:={ live:=[(0,[0]),(1,[0,5]),(2,[0,5,6]),(3,[5,6,9,10,11]),(4,[5,6,9,10,11,12]),(5,[5,6,7,8,9,10,11]),(6,[5,6,7,8,9,10,11,16]),(7,[5,6,7,8,9,10,11,16]),(8,[5,6,7,8,9,10,11,16]),(9,[5,6,7,8,9,10,11]),(10,[5,6,7,9,10,11,39]),(11,[5,6]),(12,[5,6,9,10,11]),(13,[5,6,44]),(14,[2,3,4]),(15,[2,3,4])],dec:=[21,28] }
def qqg (N:Nat):List Ent:=[]
theorem ql8 (N:Nat):qT Tryz.prog (qqg N):=trivial
abbrev qab:=List UInt8×Int
abbrev Q9:=(Int×Int×Int×Int×Bool)⊕(Int×Int×Bool)⊕(Int×Int)
def Wq (f:qab):Q9→Ex×TSt
 | .inl y=>(.exit 0,⟨0,47,[],[(5,.tv (.i .u64) (y.1:Int)),(6,.ic .i64 0),(7,xi y.2.1),(8,.tv (.i .u8) (y.2.2.1:Int)),(9,.tv .bl f.1),(10,xi f.2),(11,xi y.2.2.2.1),(16,xb y.2.2.2.2)],[],false,[]⟩)
 | .inr (.inl y)=>(.exit 0,⟨0,47,[],[(5,.tv (.i .u64) (y.1:Int)),(6,.ic .i64 0),(9,.tv .bl f.1),(10,xi f.2),(11,xi y.2.1),(12,xb y.2.2)],[],false,[]⟩)
 | .inr (.inr y)=>(.exit 0,⟨0,47,[],[(5,.tv (.i .u64) (y.1:Int)),(6,xi y.2)],[],false,[]⟩)
def qsO (N:Nat):List (Nat×qy):=[]
abbrev J0:=Int×Int
def qjl:SP:=⟨0,47,[],[(5,.x (.i .u64)),(6,.k (.ic .i64 0)),(9,.x .bl),(10,.x (.i .i64)),(11,.x (.i .i64))],[],false,[]⟩
def qsS (f:qab) (v:J0):TSt:=zw qjl [dv (.i .u64) v.1,dv .bl f.1,dv (.i .i64) f.2,dv (.i .i64) v.2]
def Q8 (N:Nat) (s9_4:List UInt8) (s10_4:Int) (v:J0):Tree (J0⊕Q9):=
 .cond (decide (v.2 < s10_4)) (
 .bind (zh s9_4 v.2) fun e1=>
 .cond (decide (v.2=((10:Int)))) (
 .cond (decide (v.2=((10:Int)))) (
 .ret (.inr (.inl (v.1,v.2,((e1.toNat:Nat):Int),v.2,decide (v.2=((10:Int))))))) <|
 .chk (0≤(7:Int)) <|
 let w2:Int:=vL .u8 ((e1.toNat:Nat):Int) 128
 let w3:Int:=uOr .u64 (WU .u64 v.1 7) (IntKind.u64.wrap w2)
 .cond (decide (((e1.toNat:Nat):Int) < ((128:Int)))) (
 .chk (qf (v.2 + 1)) <|
 .ret (.inr (.inr (.inr ((w3,v.2 + 1)))))) <|
 .chk (qf (v.2 + 1)) <|
 .ret (.inl (w3,v.2 + 1))) <|
 .cond (decide (v.2=((9:Int)))) (
 .chk (0≤(57:Int)) <|
 .cond (decide (0 < (Jk v.1 57))) (
 .cond (decide (0 < (Jk v.1 57))) (
 .ret (.inr (.inl (v.1,v.2,((e1.toNat:Nat):Int),v.2,decide (0 < (Jk v.1 57)))))) <|
 .chk (0≤(7:Int)) <|
 let w2:Int:=vL .u8 ((e1.toNat:Nat):Int) 128
 let w3:Int:=uOr .u64 (WU .u64 v.1 7) (IntKind.u64.wrap w2)
 .cond (decide (((e1.toNat:Nat):Int) < ((128:Int)))) (
 .chk (qf (v.2 + 1)) <|
 .ret (.inr (.inr (.inr ((w3,v.2 + 1)))))) <|
 .chk (qf (v.2 + 1)) <|
 .ret (.inl (w3,v.2 + 1))) <|
 .cond (decide (v.2=((0:Int)))) (
 .cond (decide (((e1.toNat:Nat):Int)=((128:Int)))) (
 .ret (.inr (.inl (v.1,v.2,((e1.toNat:Nat):Int),v.2,decide (((e1.toNat:Nat):Int)=((128:Int))))))) <|
 .chk (0≤(7:Int)) <|
 let w2:Int:=vL .u8 ((e1.toNat:Nat):Int) 128
 let w3:Int:=uOr .u64 (WU .u64 v.1 7) (IntKind.u64.wrap w2)
 .cond (decide (((e1.toNat:Nat):Int) < ((128:Int)))) (
 .chk (qf (v.2 + 1)) <|
 .ret (.inr (.inr (.inr ((w3,v.2 + 1)))))) <|
 .chk (qf (v.2 + 1)) <|
 .ret (.inl (w3,v.2 + 1))) <|
 .chk (0≤(7:Int)) <|
 let w2:Int:=vL .u8 ((e1.toNat:Nat):Int) 128
 let w3:Int:=uOr .u64 (WU .u64 v.1 7) (IntKind.u64.wrap w2)
 .cond (decide (((e1.toNat:Nat):Int) < ((128:Int)))) (
 .chk (qf (v.2 + 1)) <|
 .ret (.inr (.inr (.inr ((w3,v.2 + 1)))))) <|
 .chk (qf (v.2 + 1)) <|
 .ret (.inl (w3,v.2 + 1))) <|
 .cond (decide (v.2=((0:Int)))) (
 .cond (decide (((e1.toNat:Nat):Int)=((128:Int)))) (
 .ret (.inr (.inl (v.1,v.2,((e1.toNat:Nat):Int),v.2,decide (((e1.toNat:Nat):Int)=((128:Int))))))) <|
 .chk (0≤(7:Int)) <|
 let w2:Int:=vL .u8 ((e1.toNat:Nat):Int) 128
 let w3:Int:=uOr .u64 (WU .u64 v.1 7) (IntKind.u64.wrap w2)
 .cond (decide (((e1.toNat:Nat):Int) < ((128:Int)))) (
 .chk (qf (v.2 + 1)) <|
 .ret (.inr (.inr (.inr ((w3,v.2 + 1)))))) <|
 .chk (qf (v.2 + 1)) <|
 .ret (.inl (w3,v.2 + 1))) <|
 .chk (0≤(7:Int)) <|
 let w2:Int:=vL .u8 ((e1.toNat:Nat):Int) 128
 let w3:Int:=uOr .u64 (WU .u64 v.1 7) (IntKind.u64.wrap w2)
 .cond (decide (((e1.toNat:Nat):Int) < ((128:Int)))) (
 .chk (qf (v.2 + 1)) <|
 .ret (.inr (.inr (.inr ((w3,v.2 + 1)))))) <|
 .chk (qf (v.2 + 1)) <|
 .ret (.inl (w3,v.2 + 1))) <|
 .ret (.inr (.inr (.inl (v.1,v.2,decide (v.2 < s10_4)))))
def qjt (N n:Nat) (f:qab) (v:J0):Option Q9:=zj (Q8 N f.1 f.2) some n v
theorem qtp (N:Nat) (f:qab) (n:Nat) (v:J0) (y:Q9) (h:qjt N n f v=some y):LG Tryz.prog qiD 87 (q0 qos 4) (qsS f v) (Wq f y):=
 zU qn (E:=qqg N) (L:=qP (qsO N)) (st:=Wq f) (g:=some) (R:=Wq f) (ql8 N) (qz (by kernel_rfl) trivial) (rg0 (by kernel_rfl)) (fun v=>by kernel_rfl) (ze (st:=Wq f) fun y=>by rcases y with _ | _ | _<;>rfl) (js0 rfl) n v y h
def qgm (N:Nat) (s9_4:List UInt8) (s10_4:Int) (s5_4:Int) (s11_4:Int):Option Q9:=qjt N N (s9_4,s10_4) (s5_4,s11_4)
def qjr (N:Nat):qy:=smL qjl [(.i .u64),.bl,(.i .i64),(.i .i64)] Q9 (fun x=>qgm N x.2.1 x.2.2.1 x.1 x.2.2.2.1) (csS (csS cs1)) fun x=>Wq (x.2.1,x.2.2.1)
theorem qqR (N:Nat):vW Tryz.prog qiD 87 (q0 qos 4) (qjr N):=ja fun x z h=>qtp N (x.2.1,x.2.2.1) N (x.1,x.2.2.2.1) z h
def qzP (z:Int×Int×Bool):TV×THp:=(.tup [.tv (.i .u64) (z.1:Int),xi z.2.1,xb z.2.2],[])
def qiS (N:Nat) (a0:List UInt8):Tree (Int×Int×Bool):=
 .bind (qgm N a0 ((a0.length:Nat):Int) 0 0) fun z1=>
 .sum z1 (fun z2=>
 .ret (0,0,false)) fun z2=>
 .sum z2 (fun z3=>
 .ret (0,0,false)) fun z3=>
 .cond (decide (z3.2=0)) (
 .ret (0,0,false)) <|
 .ret (z3.1,z3.2,true)
def Yu (N:Nat) (a0:List UInt8):Option (Int×Int×Bool):=(qiS N a0).run some
def qyo (N:Nat):List (Nat×qy):=[(4,qjr N)]
def qbz (N:Nat):Ent:=smF ⟨87,[],[.x .bl],[],[]⟩ [.bl] (Int×Int×Bool) (fun x=>Yu N x.1) cs1 fun _=>qzP
theorem qcH (N:Nat):zb Tryz.prog (qbz N):=
 q7 (H:=qiD) (L:=qP (qyo N)) (ts:=[.bl]) (T:=fun x=>qiS N x.1) 0 qDC (ql8 N) (qz (by kernel_rfl) ⟨qqR N,trivial⟩) (rg0 (by kernel_rfl)) fun x=>by kernel_rfl
noncomputable def qDM:Code:=Tryz.f44.body.getD .skip
theorem qD7:FnF Tryz.prog 44 Tryz.f44 qDM:=⟨qn,by kernel_rfl,by kernel_rfl,by kernel_rfl⟩
def qwr:TH:={ live:=[(0,[0,2]),(1,[2,5,6,7]),(2,[2,6,7,8]),(3,[2,6,8,28]),(4,[2,3,4]),(5,[2,3,4])],dec:=[24] }
def qv9 (N:Nat):List Ent:=[qbz N,qcK]
theorem qsZ (N:Nat):qT Tryz.prog (qv9 N):=⟨qcH N,qe9,trivial⟩
def qwl (z:qd×Int×Bool):TV×THp:=(.tup [.tv qB (z.1:qd),xi z.2.1,xb z.2.2],[])
def qg1 (N:Nat) (a0:List UInt8):Tree (qd×Int×Bool):=
 .bind (Yu N a0) fun r1=>
 .chk (0≤(3:Int)) <|
 .chk (qf (Jk r1.1 3)) <|
 .chk (qf (qat .u64 r1.1 7)) <|
 .cond (!r1.2.2) (
 .ret (qd.mk 0 0,0,false)) <|
 .bind (Yw (qd.mk (Jk r1.1 3) (qat .u64 r1.1 7))) fun r2=>
 .cond (!r2) (
 .ret (qd.mk 0 0,0,false)) <|
 .ret (qd.mk (Jk r1.1 3) (qat .u64 r1.1 7),r1.2.1,true)
def qfR (N:Nat) (a0:List UInt8):Option (qd×Int×Bool):=(qg1 N a0).run some
def qw6 (N:Nat):List (Nat×qy):=[]
def qnr (N:Nat):Ent:=smF ⟨44,[],[.x .bl],[],[]⟩ [.bl] (qd×Int×Bool) (fun x=>qfR N x.1) cs1 fun _=>qwl
theorem qvE (N:Nat):zb Tryz.prog (qnr N):=
 q7 (H:=qwr) (L:=qP (qw6 N)) (ts:=[.bl]) (T:=fun x=>qg1 N x.1) 0 qD7 (qsZ N) (qz (by kernel_rfl) trivial) (rg0 (by kernel_rfl)) fun x=>by kernel_rfl
noncomputable def qDP:Code:=Tryz.f46.body.getD .skip
theorem qDB:FnF Tryz.prog 46 Tryz.f46 qDP:=⟨qn,by kernel_rfl,by kernel_rfl,by kernel_rfl⟩
def qxb:TH:={ live:=[(0,[0,1]),(1,[0,1,7,8,9]),(2,[1,7,8,9,10]),(3,[7,8,10,33]),(4,[4,5,6]),(5,[4,5,6])],dec:=[21,25] }
def qw3 (N:Nat):List Ent:=[qbz N]
theorem qti (N:Nat):qT Tryz.prog (qw3 N):=⟨qcH N,trivial⟩
def qwu (z:List UInt8×Int×Bool):TV×THp:=(.tup [.tv .s (z.1:List UInt8),xi z.2.1,xb z.2.2],[])
def qgN (N:Nat) (a0:List UInt8) (a1:Int):Tree (List UInt8×Int×Bool):=
 .bind (Yu N a0) fun r1=>
 .chk (0≤r1.2.1∧r1.2.1≤((a0.length:Nat):Int)) <|
 .cond r1.2.2 (
 .cond (decide (((0:Int))≤a1)) (
 let w2:Int:=IntKind.u64.wrap ((if (((a0.drop r1.2.1.toNat).length:Nat):Int) < a1 then (((a0.drop r1.2.1.toNat).length:Nat):Int) else a1))
 .cond (decide (r1.1≤w2)) (
 .chk (qf r1.1) <|
 .chk (0≤(0:Int)∧(0:Int)≤r1.1∧r1.1≤(((a0.drop r1.2.1.toNat).length:Nat):Int)) <|
 .chk (qf r1.1) <|
 .chk (qf (r1.2.1 + r1.1)) <|
 .ret (((a0.drop r1.2.1.toNat).take r1.1.toNat).drop 0,r1.2.1 + r1.1,true)) <|
 .ret ([],0,false)) <|
 .ret ([],0,false)) <|
 .ret ([],0,false)
def qaT (N:Nat) (a0:List UInt8) (a1:Int):Option (List UInt8×Int×Bool):=(qgN N a0 a1).run some
def qwx (N:Nat):List (Nat×qy):=[]
def qgL (N:Nat):Ent:=smF ⟨46,[],[.x .bl,.x (.i .i64)],[],[]⟩ [.bl,(.i .i64)] (List UInt8×Int×Bool) (fun x=>qaT N x.1 x.2.1) cs1 fun _=>qwu
theorem qkT (N:Nat):zb Tryz.prog (qgL N):=
 q7 (H:=qxb) (L:=qP (qwx N)) (ts:=[.bl,(.i .i64)]) (T:=fun x=>qgN N x.1 x.2.1) 0 qDB (qti N) (qz (by kernel_rfl) trivial) (rg0 (by kernel_rfl)) fun x=>by kernel_rfl
noncomputable def qC9:Code:=Tryz.f47.body.getD .skip
theorem qB3:FnF Tryz.prog 47 Tryz.f47 qC9:=⟨qn,by kernel_rfl,by kernel_rfl,by kernel_rfl⟩
def qks:TH:={ live:=[(0,[0,2]),(1,[2])] }
def qkz (N:Nat):List Ent:=[JJ]
theorem qja (N:Nat):qT Tryz.prog (qkz N):=⟨VX,trivial⟩
def qlW (z:qj×Vector UInt8 32):TV×THp:=(.tv (.ba 32) (z.2:Vector UInt8 32),[(180,.cell false (.tv zN (z.1:qj)))])
def Yz (a0:qj):Tree (qj×Vector UInt8 32):=
 .bind (z_ a0 32 true) fun r1=>
 .chk (32≤r1.2.length∧32≠0) <|
 .ret (r1.1,jA 32 r1.2)
def v8 (a0:qj):Option (qj×Vector UInt8 32):=(Yz a0).run some
def qkJ:List (Nat×qy):=[]
def qc6:Ent:=smF ⟨47,[],[.k (.p 180 [] 0)],[],[(180,.cell false (.x zN))]⟩ [zN] (qj×Vector UInt8 32) (fun x=>v8 x.1) cs1 fun _=>qlW
theorem qjV:zb Tryz.prog (qc6):=
 q7 (H:=qks) (L:=qP (qkJ)) (ts:=[zN]) (T:=fun x=>Yz x.1) 0 qB3 (qja 0) (qz (by kernel_rfl) trivial) (rg0 (by kernel_rfl)) fun x=>by kernel_rfl
noncomputable def qEa:Code:=Tryz.f88.body.getD .skip
theorem qC6:FnF Tryz.prog 88 Tryz.f88 qEa:=⟨qn,by kernel_rfl,by kernel_rfl,by kernel_rfl⟩
def qsN:TH:={ live:=[(0,[0,2]),(1,[0,2,5]),(2,[0,2,5,15]),(3,[2,3,4]),(4,[0,2,5,26]),(5,[2,6,7,8]),(6,[2,3,4]),(7,[0,2,5,9,10,11]),(8,[2,5,9,10,11,12,13,14]),(9,[2,5,9,10,12,13,72]),(10,[2,3,4]),(11,[2,3,4])],dec:=[19,61,65,69] }
def qs9 (N:Nat):List Ent:=[qgL N,qbz N]
theorem qqE (N:Nat):qT Tryz.prog (qs9 N):=⟨qkT N,qcH N,trivial⟩
def qta (z:qa×Int×Bool):TV×THp:=(.tup [.tv ql (z.1:qa),xi z.2.1,xb z.2.2],[])
def qdq (N:Nat) (a0:List UInt8):Tree (qa×Int×Bool):=
 .cond (decide (((a0.length:Nat):Int)=((0:Int)))) (
 .ret (qa.mk false 0 0 [],0,false)) <|
 .bind (zh a0 0) fun e1=>
 .cond (decide (((1:Int)) < ((e1.toNat:Nat):Int))) (
 .ret (qa.mk false 0 0 [],0,false)) <|
 .bind (zh a0 0) fun e2=>
 .cond (decide (((e2.toNat:Nat):Int)=((0:Int)))) (
 .chk (0≤(1:Int)∧(1:Int)≤((a0.length:Nat):Int)) <|
 .bind (qaT N (a0.drop 1) 200) fun r3=>
 .chk (qf (r3.2.1 + 1)) <|
 .ret (qa.mk false 0 0 r3.1,r3.2.1 + 1,r3.2.2)) <|
 .chk (0≤(1:Int)∧(1:Int)≤((a0.length:Nat):Int)) <|
 .bind (Yu N (a0.drop 1)) fun r3=>
 .chk (qf (((1:Int)) + r3.2.1)) <|
 .chk (0≤(((1:Int)) + r3.2.1)∧(((1:Int)) + r3.2.1)≤((a0.length:Nat):Int)) <|
 .bind (Yu N (a0.drop ((((1:Int)) + r3.2.1).toNat))) fun r4=>
 .cond (!r3.2.2) (
 .ret (qa.mk false 0 0 [],0,false)) <|
 .cond (!r4.2.2) (
 .ret (qa.mk false 0 0 [],0,false)) <|
 .cond (decide (200 < r3.1)) (
 .ret (qa.mk false 0 0 [],0,false)) <|
 .cond (decide (200 < r4.1)) (
 .ret (qa.mk false 0 0 [],0,false)) <|
 .chk (qf r3.1) <|
 .chk (qf r4.1) <|
 .chk (qf (((1:Int)) + r3.2.1)) <|
 .chk (qf ((((1:Int)) + r3.2.1) + r4.2.1)) <|
 .ret (qa.mk true r3.1 r4.1 [],(((1:Int)) + r3.2.1) + r4.2.1,true)
def KA (N:Nat) (a0:List UInt8):Option (qa×Int×Bool):=(qdq N a0).run some
def qtl (N:Nat):List (Nat×qy):=[]
def qjJ (N:Nat):Ent:=smF ⟨88,[],[.x .bl],[],[]⟩ [.bl] (qa×Int×Bool) (fun x=>KA N x.1) cs1 fun _=>qta
theorem qrs (N:Nat):zb Tryz.prog (qjJ N):=
 q7 (H:=qsN) (L:=qP (qtl N)) (ts:=[.bl]) (T:=fun x=>qdq N x.1) 0 qC6 (qqE N) (qz (by kernel_rfl) trivial) (rg0 (by kernel_rfl)) fun x=>by kernel_rfl
noncomputable def qoJ:Code:=Tryz.f48.body.getD .skip
theorem qCM:FnF Tryz.prog 48 Tryz.f48 qoJ:=⟨qn,by kernel_rfl,by kernel_rfl,by kernel_rfl⟩
def qgd:TH:={ live:=[(0,[0]),(1,[0,5,6,7]),(2,[0,5,6,23]),(3,[2,3,4]),(4,[0,5,6,8]),(5,[0,6,8,24,25]),(6,[0,6,8,24,25,26]),(7,[0,6,8,9,10,11,24,25]),(8,[0,6,8,9,10,24,25,36]),(9,[2,3,4]),(10,[0,6,8,10,24,25]),(11,[0,6,8,24,25]),(12,[0,6,8,24,25]),(13,[6,8,47]),(14,[2,3,4]),(15,[2,3,4])],dec:=[20],nil:=[(4,[⟨.sl 8,85,(.sl 4 ql)⟩])] }
def qnL (N:Nat):List Ent:=[qbz N,qjJ N,qcI N]
theorem qjG (N:Nat):qT Tryz.prog (qnL N):=⟨qcH N,qrs N,qe_ N,trivial⟩
abbrev Kc:=List UInt8×Int
abbrev Zw:=Unit⊕(List qa×Int×Int×Bool)
def Xa (f:Kc):Zw→Ex×TSt
 | .inl y=>(.ret,⟨0,50,[],[(2,.nils),(3,.ic .i64 0),(4,.bc false)],[],false,[]⟩)
 | .inr y=>(.exit 0,⟨0,50,[],[(0,.tv .bl f.1),(6,xi y.2.1),(8,.v 85 y.1.length),(24,.tv (.i .u64) f.2),(25,.tv (.i .u64) (y.2.2.1:Int)),(26,xb y.2.2.2)],[(85,.vec false 4 (.sl 4 ql) (y.1:List qa))],false,[]⟩)
def qrp (N:Nat):List (Nat×qy):=[]
abbrev Xw:=List qa×Int×Int
def qhE:SP:=⟨0,50,[],[(0,.x .bl),(6,.x (.i .i64)),(8,.vs 85),(24,.x (.i .u64)),(25,.x (.i .u64))],[(85,.vec false 4)],false,[]⟩
def qq1 (f:Kc) (v:Xw):TSt:=zw qhE [dv (.sl 4 ql) v.1,dv .bl f.1,dv (.i .i64) v.2.1,dv (.i .u64) f.2,dv (.i .u64) v.2.2]
def Xc (N:Nat) (s0_6:List UInt8) (s24_6:Int) (v:Xw):Tree (Xw⊕Zw):=
 .cond (decide (v.2.2 < s24_6)) (
 .chk (0≤v.2.1∧v.2.1≤((s0_6.length:Nat):Int)) <|
 .bind (KA N (s0_6.drop v.2.1.toNat)) fun r1=>
 .cond (!r1.2.2) (
 .ret (.inr (.inl ()))) <|
 .chk (vq v.1.length v.1.length ((v.1++[r1.1]).length) 40) <|
 .chk (qf (v.2.1 + r1.2.1)) <|
 .ret (.inl (v.1++[r1.1],v.2.1 + r1.2.1,Q_ .u64 v.2.2 1))) <|
 .ret (.inr (.inr ((v.1,v.2.1,v.2.2,decide (v.2.2 < s24_6)))))
def qhh (N n:Nat) (f:Kc) (v:Xw):Option Zw:=zj (Xc N f.1 f.2) some n v
theorem qq2 (N:Nat) (f:Kc) (n:Nat) (v:Xw) (y:Zw) (h:qhh N n f v=some y):LG Tryz.prog qgd 48 (q0 qoJ 6) (qq1 f v) (Xa f y):=
 zU qn (E:=qnL N) (L:=qP (qrp N)) (st:=Xa f) (g:=some) (R:=Xa f) (qjG N) (qz (by kernel_rfl) trivial) (rg0 (by kernel_rfl)) (fun v=>by kernel_rfl) (ze (st:=Xa f) fun y=>by rcases y with _ | _<;>rfl) (js0 rfl) n v y h
def qeR (N:Nat) (s0_6:List UInt8) (s24_6:Int) (o_6:List qa) (s6_6:Int) (s25_6:Int):Option Zw:=qhh N N (s0_6,s24_6) (o_6,s6_6,s25_6)
def qh2 (N:Nat):qy:=smL qhE [(.sl 4 ql),.bl,(.i .i64),(.i .u64),(.i .u64)] Zw (fun x=>qeR N x.2.1 x.2.2.2.1 x.1 x.2.2.1 x.2.2.2.2.1) (csS cs1) fun x=>Xa (x.2.1,x.2.2.2.1)
theorem qpk (N:Nat):vW Tryz.prog qgd 48 (q0 qoJ 6) (qh2 N):=ja fun x z h=>qq2 N (x.2.1,x.2.2.2.1) N (x.1,x.2.2.1,x.2.2.2.2.1) z h
def qww (z:List qa×Int×Bool):TV×THp:=(.tup [.tv (.sl 4 ql) (z.1:List qa),xi z.2.1,xb z.2.2],[])
def qgJ (N:Nat) (a0:List UInt8):Tree (List qa×Int×Bool):=
 .bind (Yu N a0) fun r1=>
 .cond (!r1.2.2) (
 .ret ([],0,false)) <|
 .cond (decide (60 < r1.1)) (
 .ret ([],0,false)) <|
 .bind (jh [(([]:List qa).length,0)] (qeR N a0 r1.1 [] r1.2.1 0)) fun z2=>
 .sum z2 (fun z3=>
 .ret ([],0,false)) fun z3=>
 .chk (z3.1.length=z3.1.length) <|
 .bind (qa0 N z3.1) fun r4=>
 .cond (!r4) (
 .ret ([],0,false)) <|
 .chk (z3.1.length=z3.1.length) <|
 .ret (z3.1,z3.2.1,true)
def qdk (N:Nat) (a0:List UInt8):Option (List qa×Int×Bool):=(qgJ N a0).run some
def qw7 (N:Nat):List (Nat×qy):=[(6,qh2 N)]
def qnq (N:Nat):Ent:=smF ⟨48,[],[.x .bl],[],[]⟩ [.bl] (List qa×Int×Bool) (fun x=>qdk N x.1) cs1 fun _=>qww
theorem qug (N:Nat):zb Tryz.prog (qnq N):=
 q7 (H:=qgd) (L:=qP (qw7 N)) (ts:=[.bl]) (T:=fun x=>qgJ N x.1) 0 qCM (qjG N) (qz (by kernel_rfl) ⟨qpk N,trivial⟩) (rg0 (by kernel_rfl)) fun x=>by kernel_rfl
noncomputable def qDI:Code:=Tryz.f15.body.getD .skip
theorem qBR:FnF Tryz.prog 15 Tryz.f15 qDI:=⟨qn,by kernel_rfl,by kernel_rfl,by kernel_rfl⟩
def qEc:TH:={ live:=[(0,[0,2]),(1,[0,2,5]),(2,[0,2,5,6]),(3,[0,2,5,6,7,8,9]),(4,[0,2,5,6,7]),(5,[0,2,5,6]),(6,[0,2,5,6,41]),(7,[0,2,5,6]),(8,[0,2,5,6,46]),(9,[0,2,5,6,46,47]),(10,[0,2,5,6,10,11,12]),(11,[0,2,5,6,10]),(12,[0,2,5,6]),(13,[0,2,5,6,46,64]),(14,[0,2,5,6]),(15,[0,2,5,6,75]),(16,[0,2,5,6,13,14,15]),(17,[0,2,5,6,13]),(18,[0,2,5,6]),(19,[0,2,5,6,103]),(20,[2,3,4]),(21,[2,3,4])],dec:=[99] }
def qCr (N:Nat):List Ent:=[qfS,qhf,qnr N,JJ,qgL N,qc6,qnq N,qi9 N]
theorem qyB (N:Nat):qT Tryz.prog (qCr N):=⟨qn0,qpO,qvE N,VX,qkT N,qjV,qug N,qlA N,trivial⟩
def qCk (z:qb×Int×Bool):TV×THp:=(.tup [.tv qF (z.1:qb),xi z.2.1,xb z.2.2],[])
def qoO (N:Nat) (a0:List UInt8):Tree (qb×Int×Bool):=
 .bind (Jh (qj.mk a0 false)) fun r1=>
 .bind (Xb r1.1) fun r2=>
 .bind (qfR N (qj.b r2.1)) fun r3=>
 .bind (z_ r2.1 r3.2.1 r3.2.2) fun r4=>
 .cond (!decide (r1.2=0)) (
 .bind (Jh r4.1) fun r5=>
 .cond (decide (r1.2=1)) (
 .bind (qaT N (qj.b r5.1) 200) fun r6=>
 .bind (z_ r5.1 r6.2.1 r6.2.2) fun r7=>
 .cond (qj.bad r7.1) (
 .ret (qb.mk 0 ((Vector.replicate 16 0)) (qd.mk 0 0) 0 [] [] ((Vector.replicate 16 0)) 0 ((Vector.replicate 32 0)),0,false)) <|
 .bind (J_ N (qb.mk r1.2 r2.2 r3.1 r5.2 r6.1 [] ((Vector.replicate 16 0)) 0 ((Vector.replicate 32 0)))) fun r8=>
 .cond (!r8) (
 .ret (qb.mk 0 ((Vector.replicate 16 0)) (qd.mk 0 0) 0 [] [] ((Vector.replicate 16 0)) 0 ((Vector.replicate 32 0)),0,false)) <|
 .chk (qf (((a0.length:Nat):Int) - (((qj.b r7.1).length:Nat):Int))) <|
 .ret (qb.mk r1.2 r2.2 r3.1 r5.2 r6.1 [] ((Vector.replicate 16 0)) 0 ((Vector.replicate 32 0)),((a0.length:Nat):Int) - (((qj.b r7.1).length:Nat):Int),true)) <|
 .cond (decide (r1.2=2)) (
 .bind (Xb r5.1) fun r6=>
 .bind (Jh r6.1) fun r7=>
 .bind (v8 r7.1) fun r8=>
 .cond (qj.bad r8.1) (
 .ret (qb.mk 0 ((Vector.replicate 16 0)) (qd.mk 0 0) 0 [] [] ((Vector.replicate 16 0)) 0 ((Vector.replicate 32 0)),0,false)) <|
 .bind (J_ N (qb.mk r1.2 r2.2 r3.1 r5.2 [] [] r6.2 r7.2 r8.2)) fun r9=>
 .cond (!r9) (
 .ret (qb.mk 0 ((Vector.replicate 16 0)) (qd.mk 0 0) 0 [] [] ((Vector.replicate 16 0)) 0 ((Vector.replicate 32 0)),0,false)) <|
 .chk (qf (((a0.length:Nat):Int) - (((qj.b r8.1).length:Nat):Int))) <|
 .ret (qb.mk r1.2 r2.2 r3.1 r5.2 [] [] r6.2 r7.2 r8.2,((a0.length:Nat):Int) - (((qj.b r8.1).length:Nat):Int),true)) <|
 .cond (decide (r1.2=3)) (
 .bind (qdk N (qj.b r5.1)) fun r6=>
 .bind (z_ r5.1 r6.2.1 r6.2.2) fun r7=>
 .bind (v8 r7.1) fun r8=>
 .cond (qj.bad r8.1) (
 .ret (qb.mk 0 ((Vector.replicate 16 0)) (qd.mk 0 0) 0 [] [] ((Vector.replicate 16 0)) 0 ((Vector.replicate 32 0)),0,false)) <|
 .bind (J_ N (qb.mk r1.2 r2.2 r3.1 r5.2 [] r6.1 ((Vector.replicate 16 0)) 0 r8.2)) fun r9=>
 .cond (!r9) (
 .ret (qb.mk 0 ((Vector.replicate 16 0)) (qd.mk 0 0) 0 [] [] ((Vector.replicate 16 0)) 0 ((Vector.replicate 32 0)),0,false)) <|
 .chk (qf (((a0.length:Nat):Int) - (((qj.b r8.1).length:Nat):Int))) <|
 .ret (qb.mk r1.2 r2.2 r3.1 r5.2 [] r6.1 ((Vector.replicate 16 0)) 0 r8.2,((a0.length:Nat):Int) - (((qj.b r8.1).length:Nat):Int),true)) <|
 .cond (qj.bad r5.1) (
 .ret (qb.mk 0 ((Vector.replicate 16 0)) (qd.mk 0 0) 0 [] [] ((Vector.replicate 16 0)) 0 ((Vector.replicate 32 0)),0,false)) <|
 .bind (J_ N (qb.mk r1.2 r2.2 r3.1 r5.2 [] [] ((Vector.replicate 16 0)) 0 ((Vector.replicate 32 0)))) fun r6=>
 .cond (!r6) (
 .ret (qb.mk 0 ((Vector.replicate 16 0)) (qd.mk 0 0) 0 [] [] ((Vector.replicate 16 0)) 0 ((Vector.replicate 32 0)),0,false)) <|
 .chk (qf (((a0.length:Nat):Int) - (((qj.b r5.1).length:Nat):Int))) <|
 .ret (qb.mk r1.2 r2.2 r3.1 r5.2 [] [] ((Vector.replicate 16 0)) 0 ((Vector.replicate 32 0)),((a0.length:Nat):Int) - (((qj.b r5.1).length:Nat):Int),true)) <|
 .cond (decide (r1.2=1)) (
 .bind (qaT N (qj.b r4.1) 200) fun r5=>
 .bind (z_ r4.1 r5.2.1 r5.2.2) fun r6=>
 .cond (qj.bad r6.1) (
 .ret (qb.mk 0 ((Vector.replicate 16 0)) (qd.mk 0 0) 0 [] [] ((Vector.replicate 16 0)) 0 ((Vector.replicate 32 0)),0,false)) <|
 .bind (J_ N (qb.mk r1.2 r2.2 r3.1 0 r5.1 [] ((Vector.replicate 16 0)) 0 ((Vector.replicate 32 0)))) fun r7=>
 .cond (!r7) (
 .ret (qb.mk 0 ((Vector.replicate 16 0)) (qd.mk 0 0) 0 [] [] ((Vector.replicate 16 0)) 0 ((Vector.replicate 32 0)),0,false)) <|
 .chk (qf (((a0.length:Nat):Int) - (((qj.b r6.1).length:Nat):Int))) <|
 .ret (qb.mk r1.2 r2.2 r3.1 0 r5.1 [] ((Vector.replicate 16 0)) 0 ((Vector.replicate 32 0)),((a0.length:Nat):Int) - (((qj.b r6.1).length:Nat):Int),true)) <|
 .cond (decide (r1.2=2)) (
 .bind (Xb r4.1) fun r5=>
 .bind (Jh r5.1) fun r6=>
 .bind (v8 r6.1) fun r7=>
 .cond (qj.bad r7.1) (
 .ret (qb.mk 0 ((Vector.replicate 16 0)) (qd.mk 0 0) 0 [] [] ((Vector.replicate 16 0)) 0 ((Vector.replicate 32 0)),0,false)) <|
 .bind (J_ N (qb.mk r1.2 r2.2 r3.1 0 [] [] r5.2 r6.2 r7.2)) fun r8=>
 .cond (!r8) (
 .ret (qb.mk 0 ((Vector.replicate 16 0)) (qd.mk 0 0) 0 [] [] ((Vector.replicate 16 0)) 0 ((Vector.replicate 32 0)),0,false)) <|
 .chk (qf (((a0.length:Nat):Int) - (((qj.b r7.1).length:Nat):Int))) <|
 .ret (qb.mk r1.2 r2.2 r3.1 0 [] [] r5.2 r6.2 r7.2,((a0.length:Nat):Int) - (((qj.b r7.1).length:Nat):Int),true)) <|
 .cond (decide (r1.2=3)) (
 .bind (qdk N (qj.b r4.1)) fun r5=>
 .bind (z_ r4.1 r5.2.1 r5.2.2) fun r6=>
 .bind (v8 r6.1) fun r7=>
 .cond (qj.bad r7.1) (
 .ret (qb.mk 0 ((Vector.replicate 16 0)) (qd.mk 0 0) 0 [] [] ((Vector.replicate 16 0)) 0 ((Vector.replicate 32 0)),0,false)) <|
 .bind (J_ N (qb.mk r1.2 r2.2 r3.1 0 [] r5.1 ((Vector.replicate 16 0)) 0 r7.2)) fun r8=>
 .cond (!r8) (
 .ret (qb.mk 0 ((Vector.replicate 16 0)) (qd.mk 0 0) 0 [] [] ((Vector.replicate 16 0)) 0 ((Vector.replicate 32 0)),0,false)) <|
 .chk (qf (((a0.length:Nat):Int) - (((qj.b r7.1).length:Nat):Int))) <|
 .ret (qb.mk r1.2 r2.2 r3.1 0 [] r5.1 ((Vector.replicate 16 0)) 0 r7.2,((a0.length:Nat):Int) - (((qj.b r7.1).length:Nat):Int),true)) <|
 .cond (qj.bad r4.1) (
 .ret (qb.mk 0 ((Vector.replicate 16 0)) (qd.mk 0 0) 0 [] [] ((Vector.replicate 16 0)) 0 ((Vector.replicate 32 0)),0,false)) <|
 .bind (J_ N (qb.mk r1.2 r2.2 r3.1 0 [] [] ((Vector.replicate 16 0)) 0 ((Vector.replicate 32 0)))) fun r5=>
 .cond (!r5) (
 .ret (qb.mk 0 ((Vector.replicate 16 0)) (qd.mk 0 0) 0 [] [] ((Vector.replicate 16 0)) 0 ((Vector.replicate 32 0)),0,false)) <|
 .chk (qf (((a0.length:Nat):Int) - (((qj.b r4.1).length:Nat):Int))) <|
 .ret (qb.mk r1.2 r2.2 r3.1 0 [] [] ((Vector.replicate 16 0)) 0 ((Vector.replicate 32 0)),((a0.length:Nat):Int) - (((qj.b r4.1).length:Nat):Int),true)
def qpc (N:Nat) (a0:List UInt8):Option (qb×Int×Bool):=(qoO N a0).run some
def qDS (N:Nat):List (Nat×qy):=[]
def quJ (N:Nat):Ent:=smF ⟨15,[],[.x .bl],[],[]⟩ [.bl] (qb×Int×Bool) (fun x=>qpc N x.1) cs1 fun _=>qCk
theorem qAS (N:Nat):zb Tryz.prog (quJ N):=
 q7 (H:=qEc) (L:=qP (qDS N)) (ts:=[.bl]) (T:=fun x=>qoO N x.1) 0 qBR (qyB N) (qz (by kernel_rfl) trivial) (rg0 (by kernel_rfl)) fun x=>by kernel_rfl
noncomputable def qB5:Code:=Tryz.f49.body.getD .skip
theorem qDl:FnF Tryz.prog 49 Tryz.f49 qB5:=⟨qn,by kernel_rfl,by kernel_rfl,by kernel_rfl⟩
def qez:TH:={ live:=[(0,[0,1]),(1,[0,1,18]),(2,[1]),(3,[4]),(4,[0,1,5]),(5,[5]),(6,[4])],dec:=[10] }
def qeM (N:Nat):List Ent:=[]
theorem qdp (N:Nat):qT Tryz.prog (qeM N):=trivial
def qeX (z:qc×List UInt8):TV×THp:=(.tv .bl (z.2:List UInt8),[(190,.cell false (.tv qt (z.1:qc)))])
def JL (a0:qc) (a1:Int):Tree (qc×List UInt8):=
 .cond (qc.bad a0) (
 .chk (qbd a1 a1 1) <|
 .chk (((List.replicate a1.toNat 0:List UInt8)).length=((List.replicate a1.toNat 0:List UInt8)).length) <|
 .ret (qc.mk (qc.b a0) true,(List.replicate a1.toNat 0:List UInt8))) <|
 .cond (decide ((((qc.b a0).length:Nat):Int) < a1)) (
 .chk (qbd a1 a1 1) <|
 .chk (((List.replicate a1.toNat 0:List UInt8)).length=((List.replicate a1.toNat 0:List UInt8)).length) <|
 .ret (qc.mk (qc.b a0) true,(List.replicate a1.toNat 0:List UInt8))) <|
 .chk (0≤(0:Int)∧(0:Int)≤a1∧a1≤(((qc.b a0).length:Nat):Int)) <|
 .chk (0≤a1∧a1≤(((qc.b a0).length:Nat):Int)) <|
 .ret (qc.mk ((qc.b a0).drop a1.toNat) (qc.bad a0),((qc.b a0).take a1.toNat).drop 0)
def qS (a0:qc) (a1:Int):Option (qc×List UInt8):=(JL a0 a1).run some
def qeq:List (Nat×qy):=[]
def QS:Ent:=smF ⟨49,[],[.k (.p 190 [] 0),.x (.i .i64)],[],[(190,.cell false (.x qt))]⟩ [qt,(.i .i64)] (qc×List UInt8) (fun x=>qS x.1 x.2.1) cs1 fun _=>qeX
theorem Js:zb Tryz.prog (QS):=
 q7 (H:=qez) (L:=qP (qeq)) (ts:=[qt,(.i .i64)]) (T:=fun x=>JL x.1 x.2.1) 0 qDl (qdp 0) (qz (by kernel_rfl) trivial) (rg0 (by kernel_rfl)) fun x=>by kernel_rfl
noncomputable def qop:Code:=Tryz.f50.body.getD .skip
theorem qCl:FnF Tryz.prog 50 Tryz.f50 qop:=⟨qn,by kernel_rfl,by kernel_rfl,by kernel_rfl⟩
def VF:TH:={ live:=[(0,[0,2]),(1,[0,2,3]),(2,[2,3,4]),(3,[2,3,4,5]),(4,[2,3,4,5,10]),(5,[2,3,4,5]),(6,[2,3,4,5]),(7,[2])] }
def Kv (N:Nat):List Ent:=[QS]
theorem Yf (N:Nat):qT Tryz.prog (Kv N):=⟨Js,trivial⟩
abbrev QC:=qc×Vector UInt8 16×List UInt8
abbrev jb:=Vector UInt8 16×Int×Bool
def jQ (f:QC) (y:jb):Ex×TSt:=(.exit 0,⟨1,20,[190],[(2,.p 100020 [] 0),(3,.p 100030 [] 0),(4,.tv .bl f.2.2),(5,xi y.2.1),(10,xb y.2.2)],[(190,.cell false (.tv qt f.1)),(100020,.cell false (.tv (.ba 16) f.2.1)),(100030,.cell false (.tv (.ba 16) (y.1:Vector UInt8 16)))],false,[]⟩)
def qdL (N:Nat):List (Nat×qy):=[]
abbrev jS:=Vector UInt8 16×Int
def WX:SP:=⟨1,20,[190],[(2,.k (.p 100020 [] 0)),(3,.k (.p 100030 [] 0)),(4,.x .bl),(5,.x (.i .i64))],[(190,.cell false (.x qt)),(100020,.cell false (.x (.ba 16))),(100030,.cell false (.x (.ba 16)))],false,[]⟩
def qdY (f:QC) (v:jS):TSt:=zw WX [dv qt f.1,dv (.ba 16) f.2.1,dv (.ba 16) v.1,dv .bl f.2.2,dv (.i .i64) v.2]
def jR (N:Nat) (o_4:qc) (o_4_2:Vector UInt8 16) (s4_4:List UInt8) (v:jS):Tree (jS⊕jb):=
 .cond (decide (v.2 < ((16:Int)))) (
 .bind (zh s4_4 v.2) fun e1=>
 .chk (0≤v.2∧v.2 < ((16:Nat):Int)) <|
 .chk (inB ((e1.toNat:Nat):Int)) <|
 .chk (v.2.toNat < 16) <|
 .chk (qf (v.2 + 1)) <|
 .ret (.inl (v.1.setIfInBounds v.2.toNat (UInt8.ofNat ((e1.toNat:Nat):Int).toNat),v.2 + 1))) <|
 .ret (.inr (v.1,v.2,decide (v.2 < ((16:Int)))))
def WY (N n:Nat) (f:QC) (v:jS):Option jb:=zj (jR N f.1 f.2.1 f.2.2) some n v
theorem qdU (N:Nat) (f:QC) (n:Nat) (v:jS) (y:jb) (h:WY N n f v=some y):LG Tryz.prog VF 50 (q0 qop 4) (qdY f v) (jQ f y):=
 zU qn (E:=Kv N) (L:=qP (qdL N)) (st:=jQ f) (g:=some) (R:=jQ f) (Yf N) (qz (by kernel_rfl) trivial) (rg0 (by kernel_rfl)) (fun v=>by kernel_rfl) (ze (st:=jQ f) fun y=>by rfl) (js0 rfl) n v y h
def Zh (N:Nat) (o_4:qc) (o_4_2:Vector UInt8 16) (s4_4:List UInt8) (o_4_3:Vector UInt8 16) (s5_4:Int):Option jb:=WY N N (o_4,o_4_2,s4_4) (o_4_3,s5_4)
def WZ (N:Nat):qy:=smL WX [qt,(.ba 16),(.ba 16),.bl,(.i .i64)] jb (fun x=>Zh N x.1 x.2.1 x.2.2.2.1 x.2.2.1 x.2.2.2.2.1) cs1 fun x=>jQ (x.1,x.2.1,x.2.2.2.1)
theorem qdy (N:Nat):vW Tryz.prog VF 50 (q0 qop 4) (WZ N):=ja fun x z h=>qdU N (x.1,x.2.1,x.2.2.2.1) N (x.2.2.1,x.2.2.2.2.1) z h
def qgt (z:qc×Vector UInt8 16):TV×THp:=(.tv (.ba 16) (z.2:Vector UInt8 16),[(190,.cell false (.tv qt (z.1:qc)))])
def Vx (N:Nat) (a0:qc):Tree (qc×Vector UInt8 16):=
 .bind (qS a0 16) fun r1=>
 .bind (Zh N r1.1 ((Vector.replicate 16 0)) r1.2 ((Vector.replicate 16 0)) 0) fun z2=>
 .ret (r1.1,z2.1)
def QY (N:Nat) (a0:qc):Option (qc×Vector UInt8 16):=(Vx N a0).run some
def qgX (N:Nat):List (Nat×qy):=[(4,WZ N)]
def KG (N:Nat):Ent:=smF ⟨50,[],[.k (.p 190 [] 0)],[],[(190,.cell false (.x qt))]⟩ [qt] (qc×Vector UInt8 16) (fun x=>QY N x.1) cs1 fun _=>qgt
theorem qfn (N:Nat):zb Tryz.prog (KG N):=
 q7 (H:=VF) (L:=qP (qgX N)) (ts:=[qt]) (T:=fun x=>Vx N x.1) 0 qCl (Yf N) (qz (by kernel_rfl) ⟨qdy N,trivial⟩) (rg0 (by kernel_rfl)) fun x=>by kernel_rfl
def XE:TH:={ live:=[(0,[0]),(1,[0,3]),(2,[0,3,9]),(3,[0,3]),(4,[0,3]),(5,[2])],vecs:=[7,16],mv:=[(4,[(3,160,70)])] }
def qbh (N:Nat):List Ent:=[]
theorem KZ (N:Nat):qT Tryz.prog (qbh N):=trivial
abbrev Zc:=Unit
abbrev jx:=List UInt8×Int×Bool
def vF (f:Zc) (y:jx):Ex×TSt:=(.exit 0,⟨0,20,[],[(0,.tv (.i .u64) (y.2.1:Int)),(3,.v 70 y.1.length),(9,xb y.2.2)],[(70,.vec false 1 .bl (y.1:List UInt8))],false,[]⟩)
def qfm (N:Nat):List (Nat×qy):=[]
abbrev vB:=List UInt8×Int
def Ks:SP:=⟨0,20,[],[(0,.x (.i .u64)),(3,.vs 70)],[(70,.vec false 1)],false,[]⟩
def qfq (f:Zc) (v:vB):TSt:=zw Ks [dv .bl v.1,dv (.i .u64) v.2]
def qfc (N:Nat) (v:vB):Tree (vB⊕jx):=
 .cond (decide (((128:Int))≤v.2)) (
 .chk ((128:Int)≠0) <|
 .chk ((128:Int)≠0) <|
 let w1:Int:=IntKind.u8.wrap ((IntKind.u64.wrap (v.2.tdiv 128)).tmod 128)
 .chk (inB (Q_ .u8 w1 128)) <|
 .chk (v.1.length=v.1.length) <|
 .chk (vq ((([UInt8.ofNat (Q_ .u8 w1 128).toNat]:List UInt8)).length) 1 (((([UInt8.ofNat (Q_ .u8 w1 128).toNat]:List UInt8))++v.1).length) 1) <|
 .ret (.inl ((([UInt8.ofNat (Q_ .u8 w1 128).toNat]:List UInt8))++v.1,IntKind.u64.wrap (v.2.tdiv 128)))) <|
 .ret (.inr (v.1,v.2,decide (((128:Int))≤v.2)))
def Km (N n:Nat) (f:Zc) (v:vB):Option jx:=zj (qfc N) some n v
theorem qfp (N:Nat) (f:Zc) (n:Nat) (v:vB) (y:jx) (h:Km N n f v=some y):LG Tryz.prog XE 86 (q0 qeZ 2) (qfq f v) (vF f y):=
 zU qn (E:=qbh N) (L:=qP (qfm N)) (st:=vF f) (g:=some) (R:=vF f) (KZ N) (qz (by kernel_rfl) trivial) (rg0 (by kernel_rfl)) (fun v=>by kernel_rfl) (ze (st:=vF f) fun y=>by rfl) (js0 rfl) n v y h
def Xp (N:Nat) (o_2:List UInt8) (s0_2:Int):Option jx:=Km N N () (o_2,s0_2)
def Kr (N:Nat):qy:=smL Ks [.bl,(.i .u64)] jx (fun x=>Xp N x.1 x.2.1) cs1 fun x=>vF ()
theorem qeA (N:Nat):vW Tryz.prog XE 86 (q0 qeZ 2) (Kr N):=ja fun x z h=>qfp N () N (x.1,x.2.1) z h
def qjf (z:List UInt8):TV×THp:=(.tv .bl z,[])
def X0 (N:Nat) (a0:Int):Tree (List UInt8):=
 .chk ((128:Int)≠0) <|
 .chk (inB (IntKind.u8.wrap (a0.tmod 128))) <|
 .bind (jh [(([UInt8.ofNat (IntKind.u8.wrap (a0.tmod 128)).toNat]:List UInt8).length,1)] (Xp N [UInt8.ofNat (IntKind.u8.wrap (a0.tmod 128)).toNat] a0)) fun z1=>
 .chk (z1.1.length=z1.1.length) <|
 .ret z1.1
def J8 (N:Nat) (a0:Int):Option (List UInt8):=(X0 N a0).run some
def qiy (N:Nat):List (Nat×qy):=[(2,Kr N)]
def qbD (N:Nat):Ent:=smF ⟨86,[],[.x (.i .u64)],[],[]⟩ [(.i .u64)] (List UInt8) (fun x=>J8 N x.1) cs1 fun _=>qjf
theorem qh_ (N:Nat):zb Tryz.prog (qbD N):=
 q7 (H:=XE) (L:=qP (qiy N)) (ts:=[(.i .u64)]) (T:=fun x=>X0 N x.1) 0 que (KZ N) (qz (by kernel_rfl) ⟨qeA N,trivial⟩) (rg0 (by kernel_rfl)) fun x=>by kernel_rfl
noncomputable def qoI:Code:=Tryz.f89.body.getD .skip
theorem qC1:FnF Tryz.prog 89 Tryz.f89 qoI:=⟨qn,by kernel_rfl,by kernel_rfl,by kernel_rfl⟩
def Yd:TH:={ live:=[(0,[0]),(1,[0,5]),(2,[0,5,6]),(3,[0,5,6,15]),(4,[0,5,6]),(5,[0,5,6]),(6,[0,5,6,31]),(7,[0,5,6,7]),(8,[5,6,41]),(9,[2,3,4]),(10,[2,3,4]),(11,[2,3,4])],dec:=[12] }
def qde (N:Nat):List Ent:=[qbD N]
theorem qbe (N:Nat):qT Tryz.prog (qde N):=⟨qh_ N,trivial⟩
abbrev Ja:=List UInt8
abbrev ji:=(Int×Int×Bool)⊕(Int×Int×Bool)
def Qx (f:Ja):ji→Ex×TSt
 | .inl y=>(.ret,⟨0,45,[],[(2,.tv (.i .u64) (y.1:Int)),(3,xi y.2.1),(4,xb y.2.2)],[],false,[]⟩)
 | .inr y=>(.exit 0,⟨0,45,[],[(0,.tv .bl f),(5,.tv (.i .u64) (y.1:Int)),(6,xi y.2.1),(15,xb y.2.2)],[],false,[]⟩)
def qh9 (N:Nat):List (Nat×qy):=[]
abbrev Qu:=Int×Int
def qaz:SP:=⟨0,45,[],[(0,.x .bl),(5,.x (.i .u64)),(6,.x (.i .i64))],[],false,[]⟩
def qhK (f:Ja) (v:Qu):TSt:=zw qaz [dv .bl f,dv (.i .u64) v.1,dv (.i .i64) v.2]
def jr (N:Nat) (s0_3:List UInt8) (v:Qu):Tree (Qu⊕ji):=
 .cond (decide (v.2 < ((s0_3.length:Nat):Int))) (
 .cond (decide (v.2 < ((10:Int)))) (
 .bind (zh s0_3 v.2) fun e1=>
 .chk ((128:Int)≠0) <|
 let w2:Int:=IntKind.u64.wrap (((e1.toNat:Nat):Int).tmod 128)
 let w3:Int:=Q_ .u64 (qDZ .u64 ((128:Int)) v.1) w2
 .bind (zh s0_3 v.2) fun e4=>
 .cond (decide (((e4.toNat:Nat):Int) < ((128:Int)))) (
 .bind (J8 N w3) fun r5=>
 .chk (qf (v.2 + 1)) <|
 .chk (0≤(0:Int)∧(0:Int)≤(v.2 + 1)∧(v.2 + 1)≤((s0_3.length:Nat):Int)) <|
 .cond (!decide (r5=((s0_3.take ((v.2 + 1).toNat)).drop 0))) (
 .ret (.inr (.inl (0,0,false)))) <|
 .chk (qf (v.2 + 1)) <|
 .ret (.inr (.inl (w3,v.2 + 1,true)))) <|
 .chk (qf (v.2 + 1)) <|
 .ret (.inl (w3,v.2 + 1))) <|
 .ret (.inr (.inr ((v.1,v.2,decide (v.2 < ((10:Int)))))))) <|
 .ret (.inr (.inr ((v.1,v.2,false))))
def qaJ (N n:Nat) (f:Ja) (v:Qu):Option ji:=zj (jr N f) some n v
theorem qhj (N:Nat) (f:Ja) (n:Nat) (v:Qu) (y:ji) (h:qaJ N n f v=some y):LG Tryz.prog Yd 89 (q0 qoI 3) (qhK f v) (Qx f y):=
 zU qn (E:=qde N) (L:=qP (qh9 N)) (st:=Qx f) (g:=some) (R:=Qx f) (qbe N) (qz (by kernel_rfl) trivial) (rg0 (by kernel_rfl)) (fun v=>by kernel_rfl) (ze (st:=Qx f) fun y=>by rcases y with _ | _<;>rfl) (js0 rfl) n v y h
def WD (N:Nat) (s0_3:List UInt8) (s5_3:Int) (s6_3:Int):Option ji:=qaJ N N s0_3 (s5_3,s6_3)
def qaZ (N:Nat):qy:=smL qaz [.bl,(.i .u64),(.i .i64)] ji (fun x=>WD N x.1 x.2.1 x.2.2.1) (csS cs1) fun x=>Qx x.1
theorem qgk (N:Nat):vW Tryz.prog Yd 89 (q0 qoI 3) (qaZ N):=ja fun x z h=>qhj N x.1 N (x.2.1,x.2.2.1) z h
def qkv (z:Int×Int×Bool):TV×THp:=(.tup [.tv (.i .u64) (z.1:Int),xi z.2.1,xb z.2.2],[])
def YZ (N:Nat) (a0:List UInt8):Tree (Int×Int×Bool):=
 .bind (WD N a0 0 0) fun z1=>
 .sum z1 (fun z2=>
 .ret (z2.1,z2.2.1,z2.2.2)) fun z2=>
 .ret (0,0,false)
def zV (N:Nat) (a0:List UInt8):Option (Int×Int×Bool):=(YZ N a0).run some
def ql_ (N:Nat):List (Nat×qy):=[(3,qaZ N)]
def J5 (N:Nat):Ent:=smF ⟨89,[],[.x .bl],[],[]⟩ [.bl] (Int×Int×Bool) (fun x=>zV N x.1) cs1 fun _=>qkv
theorem WC (N:Nat):zb Tryz.prog (J5 N):=
 q7 (H:=Yd) (L:=qP (ql_ N)) (ts:=[.bl]) (T:=fun x=>YZ N x.1) 0 qC1 (qbe N) (qz (by kernel_rfl) ⟨qgk N,trivial⟩) (rg0 (by kernel_rfl)) fun x=>by kernel_rfl
noncomputable def qBJ:Code:=Tryz.f51.body.getD .skip
theorem qBH:FnF Tryz.prog 51 Tryz.f51 qBJ:=⟨qn,by kernel_rfl,by kernel_rfl,by kernel_rfl⟩
def qkY:TH:={ live:=[(0,[0,2]),(1,[2,5,6,7]),(2,[2,5,6,21]),(3,[2,3,4]),(4,[2,6,8]),(5,[2,6,8,9]),(6,[2,6,8,33]),(7,[2,3,4]),(8,[2,3,4])],dec:=[18] }
def ql9 (N:Nat):List Ent:=[J5 N,J9]
theorem qit (N:Nat):qT Tryz.prog (ql9 N):=⟨WC N,WH,trivial⟩
def qlR (z:qd×Int×Bool):TV×THp:=(.tup [.tv qB (z.1:qd),xi z.2.1,xb z.2.2],[])
def YH (N:Nat) (a0:List UInt8):Tree (qd×Int×Bool):=
 .bind (zV N a0) fun r1=>
 .cond (!r1.2.2) (
 .ret (qd.mk 0 0,0,false)) <|
 .cond (decide (8796093022216≤r1.1)) (
 .ret (qd.mk 0 0,0,false)) <|
 .chk ((8:Int)≠0) <|
 .chk (qf (IntKind.u64.wrap (r1.1.tdiv 8))) <|
 .chk ((8:Int)≠0) <|
 .chk (qf (r1.1.tmod 8)) <|
 .bind (v_ (qd.mk (IntKind.u64.wrap (r1.1.tdiv 8)) (r1.1.tmod 8))) fun r2=>
 .cond (!r2) (
 .ret (qd.mk 0 0,0,false)) <|
 .ret (qd.mk (IntKind.u64.wrap (r1.1.tdiv 8)) (r1.1.tmod 8),r1.2.1,true)
def XY (N:Nat) (a0:List UInt8):Option (qd×Int×Bool):=(YH N a0).run some
def qkw (N:Nat):List (Nat×qy):=[]
def qcV (N:Nat):Ent:=smF ⟨51,[],[.x .bl],[],[]⟩ [.bl] (qd×Int×Bool) (fun x=>XY N x.1) cs1 fun _=>qlR
theorem qkj (N:Nat):zb Tryz.prog (qcV N):=
 q7 (H:=qkY) (L:=qP (qkw N)) (ts:=[.bl]) (T:=fun x=>YH N x.1) 0 qBH (qit N) (qz (by kernel_rfl) trivial) (rg0 (by kernel_rfl)) fun x=>by kernel_rfl
noncomputable def qDc:Code:=Tryz.f52.body.getD .skip
theorem qEh:FnF Tryz.prog 52 Tryz.f52 qDc:=⟨qn,by kernel_rfl,by kernel_rfl,by kernel_rfl⟩
def qkl:TH:={ live:=[(0,[0,1]),(1,[0,1,7,8,9]),(2,[0,7,8,36]),(3,[4,5,6]),(4,[4,5,6])],dec:=[18,22,28] }
def qjS (N:Nat):List Ent:=[J5 N]
theorem qg_ (N:Nat):qT Tryz.prog (qjS N):=⟨WC N,trivial⟩
def qj1 (z:List UInt8×Int×Bool):TV×THp:=(.tup [.tv .s (z.1:List UInt8),xi z.2.1,xb z.2.2],[])
def WE (N:Nat) (a0:List UInt8) (a1:Int):Tree (List UInt8×Int×Bool):=
 .bind (zV N a0) fun r1=>
 .cond (!r1.2.2) (
 .ret ([],0,false)) <|
 .cond (decide (a1 < ((0:Int)))) (
 .ret ([],0,false)) <|
 .cond (decide ((IntKind.u64.wrap a1) < r1.1)) (
 .ret ([],0,false)) <|
 .chk (qf (((a0.length:Nat):Int) - r1.2.1)) <|
 let w2:Int:=IntKind.u64.wrap (((a0.length:Nat):Int) - r1.2.1)
 .cond (decide (w2 < r1.1)) (
 .ret ([],0,false)) <|
 .chk (qf r1.1) <|
 .chk (qf (r1.2.1 + r1.1)) <|
 .chk (0≤r1.2.1∧r1.2.1≤(r1.2.1 + r1.1)∧(r1.2.1 + r1.1)≤((a0.length:Nat):Int)) <|
 .chk (qf r1.1) <|
 .chk (qf (r1.2.1 + r1.1)) <|
 .ret ((a0.take ((r1.2.1 + r1.1).toNat)).drop r1.2.1.toNat,r1.2.1 + r1.1,true)
def Q4 (N:Nat) (a0:List UInt8) (a1:Int):Option (List UInt8×Int×Bool):=(WE N a0 a1).run some
def qkb (N:Nat):List (Nat×qy):=[]
def WL (N:Nat):Ent:=smF ⟨52,[],[.x .bl,.x (.i .i64)],[],[]⟩ [.bl,(.i .i64)] (List UInt8×Int×Bool) (fun x=>Q4 N x.1 x.2.1) cs1 fun _=>qj1
theorem qbJ (N:Nat):zb Tryz.prog (WL N):=
 q7 (H:=qkl) (L:=qP (qkb N)) (ts:=[.bl,(.i .i64)]) (T:=fun x=>WE N x.1 x.2.1) 0 qEh (qg_ N) (qz (by kernel_rfl) trivial) (rg0 (by kernel_rfl)) fun x=>by kernel_rfl
noncomputable def qnV:Code:=Tryz.f53.body.getD .skip
theorem qD5:FnF Tryz.prog 53 Tryz.f53 qnV:=⟨qn,by kernel_rfl,by kernel_rfl,by kernel_rfl⟩
def Yq:TH:={ live:=[(0,[0]),(1,[0,5,6,7]),(2,[0,5,6,32]),(3,[2,3,4]),(4,[0,5,6,8]),(5,[0,5,6,8,9]),(6,[0,5,6,8,9,36]),(7,[0,5,6,8,9]),(8,[0,5,6,8,9,49]),(9,[2,3,4]),(10,[0,5,6,8,9,10]),(11,[0,5,6,8,9,10]),(12,[0,5,6,8,9,10,59]),(13,[0,5,6,8,9,10,11,12,13]),(14,[0,5,6,8,9,10,11,13]),(15,[0,5,6,8,9,10,11,13,14,15,16]),(16,[0,5,6,8,9,10,11,13,14,16]),(17,[0,5,6,8,9,10,11,14,95]),(18,[2,3,4]),(19,[0,5,6,8,9,10,14]),(20,[0,5,6,8,9,10]),(21,[0,5,6,8,9,10,17,18,19]),(22,[0,5,6,8,9,10,17,18,111]),(23,[2,3,4]),(24,[0,5,6,8,9,10,18]),(25,[0,5,6,8,9,10]),(26,[0,5,6,8,9]),(27,[6,8,20]),(28,[6,8,124]),(29,[2,3,4]),(30,[2,3,4])],dec:=[29,43,84,88,92],nil:=[(4,[⟨.sl 8,85,(.sl 4 ql)⟩])] }
def qdl (N:Nat):List Ent:=[J5 N,WL N,J6 N]
theorem qbW (N:Nat):qT Tryz.prog (qdl N):=⟨WC N,qbJ N,WJ N,trivial⟩
abbrev Z9:=List UInt8×Int
abbrev jo:=Unit⊕(List qa×Int×Int×Bool)
def Qd (f:Z9):jo→Ex×TSt
 | .inl y=>(.ret,⟨0,127,[],[(2,.nils),(3,.ic .i64 0),(4,.bc false)],[],false,[]⟩)
 | .inr y=>(.exit 0,⟨0,127,[],[(0,.tv .bl f.1),(5,.tv (.i .u64) f.2),(6,xi y.2.1),(8,.v 85 y.1.length),(9,xi y.2.2.1),(36,xb y.2.2.2)],[(85,.vec false 4 (.sl 4 ql) (y.1:List qa))],false,[]⟩)
def qhI (N:Nat):List (Nat×qy):=[]
abbrev Qm:=List qa×Int×Int
def qaW:SP:=⟨0,127,[],[(0,.x .bl),(5,.x (.i .u64)),(6,.x (.i .i64)),(8,.vs 85),(9,.x (.i .i64))],[(85,.vec false 4)],false,[]⟩
def qhQ (f:Z9) (v:Qm):TSt:=zw qaW [dv (.sl 4 ql) v.1,dv .bl f.1,dv (.i .u64) f.2,dv (.i .i64) v.2.1,dv (.i .i64) v.2.2]
def Ql (N:Nat) (s0_6:List UInt8) (s5_6:Int) (v:Qm):Tree (Qm⊕jo):=
 .chk (qf s5_6) <|
 .cond (decide (v.2.2 < s5_6)) (
 .cond (decide (((s0_6.length:Nat):Int)≤v.2.1)) (
 .ret (.inr (.inl ()))) <|
 .bind (zh s0_6 v.2.1) fun e1=>
 .cond (decide (((1:Int)) < ((e1.toNat:Nat):Int))) (
 .ret (.inr (.inl ()))) <|
 .bind (zh s0_6 v.2.1) fun e2=>
 .chk (qf (v.2.1 + 1)) <|
 .cond (decide (((e2.toNat:Nat):Int)=((1:Int)))) (
 .chk (0≤(v.2.1 + 1)∧(v.2.1 + 1)≤((s0_6.length:Nat):Int)) <|
 .bind (zV N (s0_6.drop ((v.2.1 + 1).toNat))) fun r3=>
 .chk (qf ((v.2.1 + 1) + r3.2.1)) <|
 .chk (0≤((v.2.1 + 1) + r3.2.1)∧((v.2.1 + 1) + r3.2.1)≤((s0_6.length:Nat):Int)) <|
 .bind (zV N (s0_6.drop (((v.2.1 + 1) + r3.2.1).toNat))) fun r4=>
 .chk (qf (((v.2.1 + 1) + r3.2.1) + r4.2.1)) <|
 .cond (!r3.2.2) (
 .ret (.inr (.inl ()))) <|
 .cond (!r4.2.2) (
 .ret (.inr (.inl ()))) <|
 .cond (decide (200 < r3.1)) (
 .ret (.inr (.inl ()))) <|
 .cond (decide (200 < r4.1)) (
 .ret (.inr (.inl ()))) <|
 .chk (qf r3.1) <|
 .chk (qf r4.1) <|
 .chk (vq v.1.length v.1.length ((v.1++[qa.mk (decide (((e2.toNat:Nat):Int)=((1:Int)))) r3.1 r4.1 []]).length) 40) <|
 .chk (qf (v.2.2 + 1)) <|
 .ret (.inl (v.1++[qa.mk (decide (((e2.toNat:Nat):Int)=((1:Int)))) r3.1 r4.1 []],((v.2.1 + 1) + r3.2.1) + r4.2.1,v.2.2 + 1))) <|
 .chk (0≤(v.2.1 + 1)∧(v.2.1 + 1)≤((s0_6.length:Nat):Int)) <|
 .bind (Q4 N (s0_6.drop ((v.2.1 + 1).toNat)) 200) fun r3=>
 .cond (!r3.2.2) (
 .ret (.inr (.inl ()))) <|
 .chk (qf ((v.2.1 + 1) + r3.2.1)) <|
 .chk (vq v.1.length v.1.length ((v.1++[qa.mk (decide (((e2.toNat:Nat):Int)=((1:Int)))) 0 0 r3.1]).length) 40) <|
 .chk (qf (v.2.2 + 1)) <|
 .ret (.inl (v.1++[qa.mk (decide (((e2.toNat:Nat):Int)=((1:Int)))) 0 0 r3.1],(v.2.1 + 1) + r3.2.1,v.2.2 + 1))) <|
 .ret (.inr (.inr ((v.1,v.2.1,v.2.2,decide (v.2.2 < s5_6)))))
def qaM (N n:Nat) (f:Z9) (v:Qm):Option jo:=zj (Ql N f.1 f.2) some n v
theorem qhS (N:Nat) (f:Z9) (n:Nat) (v:Qm) (y:jo) (h:qaM N n f v=some y):LG Tryz.prog Yq 53 (q0 qnV 6) (qhQ f v) (Qd f y):=
 zU qn (E:=qdl N) (L:=qP (qhI N)) (st:=Qd f) (g:=some) (R:=Qd f) (qbW N) (qz (by kernel_rfl) trivial) (rg0 (by kernel_rfl)) (fun v=>by kernel_rfl) (ze (st:=Qd f) fun y=>by rcases y with _ | _<;>rfl) (js0 rfl) n v y h
def WB (N:Nat) (s0_6:List UInt8) (s5_6:Int) (o_6:List qa) (s6_6:Int) (s9_6:Int):Option jo:=qaM N N (s0_6,s5_6) (o_6,s6_6,s9_6)
def qaO (N:Nat):qy:=smL qaW [(.sl 4 ql),.bl,(.i .u64),(.i .i64),(.i .i64)] jo (fun x=>WB N x.2.1 x.2.2.1 x.1 x.2.2.2.1 x.2.2.2.2.1) (csS cs1) fun x=>Qd (x.2.1,x.2.2.1)
theorem qf3 (N:Nat):vW Tryz.prog Yq 53 (q0 qnV 6) (qaO N):=ja fun x z h=>qhS N (x.2.1,x.2.2.1) N (x.1,x.2.2.2.1,x.2.2.2.2.1) z h
def qmo (z:List qa×Int×Bool):TV×THp:=(.tup [.tv (.sl 4 ql) (z.1:List qa),xi z.2.1,xb z.2.2],[])
def YS (N:Nat) (a0:List UInt8):Tree (List qa×Int×Bool):=
 .bind (zV N a0) fun r1=>
 .cond (!r1.2.2) (
 .ret ([],0,false)) <|
 .cond (decide (60 < r1.1)) (
 .ret ([],0,false)) <|
 .bind (jh [(([]:List qa).length,0)] (WB N a0 r1.1 [] r1.2.1 0)) fun z2=>
 .sum z2 (fun z3=>
 .ret ([],0,false)) fun z3=>
 .chk (z3.1.length=z3.1.length) <|
 .bind (Zs N z3.1) fun r4=>
 .cond (!r4) (
 .ret ([],0,false)) <|
 .chk (z3.1.length=z3.1.length) <|
 .ret (z3.1,z3.2.1,true)
def X2 (N:Nat) (a0:List UInt8):Option (List qa×Int×Bool):=(YS N a0).run some
def qlH (N:Nat):List (Nat×qy):=[(6,qaO N)]
def qcS (N:Nat):Ent:=smF ⟨53,[],[.x .bl],[],[]⟩ [.bl] (List qa×Int×Bool) (fun x=>X2 N x.1) cs1 fun _=>qmo
theorem qj4 (N:Nat):zb Tryz.prog (qcS N):=
 q7 (H:=Yq) (L:=qP (qlH N)) (ts:=[.bl]) (T:=fun x=>YS N x.1) 0 qD5 (qbW N) (qz (by kernel_rfl) ⟨qf3 N,trivial⟩) (rg0 (by kernel_rfl)) fun x=>by kernel_rfl
noncomputable def qoE:Code:=Tryz.f54.body.getD .skip
theorem qDO:FnF Tryz.prog 54 Tryz.f54 qoE:=⟨qn,by kernel_rfl,by kernel_rfl,by kernel_rfl⟩
def Jm:TH:={ live:=[(0,[0,2]),(1,[0,2,3]),(2,[2,3,4]),(3,[2,3,4,5]),(4,[2,3,4,5,10]),(5,[2,3,4,5]),(6,[2,3,4,5]),(7,[2])] }
def Wl (N:Nat):List Ent:=[QS]
theorem Xg (N:Nat):qT Tryz.prog (Wl N):=⟨Js,trivial⟩
abbrev jZ:=qc×Vector UInt8 32×List UInt8
abbrev zK:=Vector UInt8 32×Int×Bool
def jc (f:jZ) (y:zK):Ex×TSt:=(.exit 0,⟨1,20,[190],[(2,.p 100020 [] 0),(3,.p 100030 [] 0),(4,.tv .bl f.2.2),(5,xi y.2.1),(10,xb y.2.2)],[(190,.cell false (.tv qt f.1)),(100020,.cell false (.tv (.ba 32) f.2.1)),(100030,.cell false (.tv (.ba 32) (y.1:Vector UInt8 32)))],false,[]⟩)
def qb3 (N:Nat):List (Nat×qy):=[]
abbrev jd:=Vector UInt8 32×Int
def VW:SP:=⟨1,20,[190],[(2,.k (.p 100020 [] 0)),(3,.k (.p 100030 [] 0)),(4,.x .bl),(5,.x (.i .i64))],[(190,.cell false (.x qt)),(100020,.cell false (.x (.ba 32))),(100030,.cell false (.x (.ba 32)))],false,[]⟩
def qb2 (f:jZ) (v:jd):TSt:=zw VW [dv qt f.1,dv (.ba 32) f.2.1,dv (.ba 32) v.1,dv .bl f.2.2,dv (.i .i64) v.2]
def je (N:Nat) (o_4:qc) (o_4_2:Vector UInt8 32) (s4_4:List UInt8) (v:jd):Tree (jd⊕zK):=
 .cond (decide (v.2 < ((32:Int)))) (
 .bind (zh s4_4 v.2) fun e1=>
 .chk (0≤v.2∧v.2 < ((32:Nat):Int)) <|
 .chk (inB ((e1.toNat:Nat):Int)) <|
 .chk (v.2.toNat < 32) <|
 .chk (qf (v.2 + 1)) <|
 .ret (.inl (v.1.setIfInBounds v.2.toNat (UInt8.ofNat ((e1.toNat:Nat):Int).toNat),v.2 + 1))) <|
 .ret (.inr (v.1,v.2,decide (v.2 < ((32:Int)))))
def VV (N n:Nat) (f:jZ) (v:jd):Option zK:=zj (je N f.1 f.2.1 f.2.2) some n v
theorem qb1 (N:Nat) (f:jZ) (n:Nat) (v:jd) (y:zK) (h:VV N n f v=some y):LG Tryz.prog Jm 54 (q0 qoE 4) (qb2 f v) (jc f y):=
 zU qn (E:=Wl N) (L:=qP (qb3 N)) (st:=jc f) (g:=some) (R:=jc f) (Xg N) (qz (by kernel_rfl) trivial) (rg0 (by kernel_rfl)) (fun v=>by kernel_rfl) (ze (st:=jc f) fun y=>by rfl) (js0 rfl) n v y h
def vH (N:Nat) (o_4:qc) (o_4_2:Vector UInt8 32) (s4_4:List UInt8) (o_4_3:Vector UInt8 32) (s5_4:Int):Option zK:=VV N N (o_4,o_4_2,s4_4) (o_4_3,s5_4)
def VU (N:Nat):qy:=smL VW [qt,(.ba 32),(.ba 32),.bl,(.i .i64)] zK (fun x=>vH N x.1 x.2.1 x.2.2.2.1 x.2.2.1 x.2.2.2.2.1) cs1 fun x=>jc (x.1,x.2.1,x.2.2.2.1)
theorem qbK (N:Nat):vW Tryz.prog Jm 54 (q0 qoE 4) (VU N):=ja fun x z h=>qb1 N (x.1,x.2.1,x.2.2.2.1) N (x.2.2.1,x.2.2.2.2.1) z h
def qdx (z:qc×Vector UInt8 32):TV×THp:=(.tv (.ba 32) (z.2:Vector UInt8 32),[(190,.cell false (.tv qt (z.1:qc)))])
def Jl (N:Nat) (a0:qc):Tree (qc×Vector UInt8 32):=
 .bind (qS a0 32) fun r1=>
 .bind (vH N r1.1 ((Vector.replicate 32 0)) r1.2 ((Vector.replicate 32 0)) 0) fun z2=>
 .ret (r1.1,z2.1)
def zo (N:Nat) (a0:qc):Option (qc×Vector UInt8 32):=(Jl N a0).run some
def qdw (N:Nat):List (Nat×qy):=[(4,VU N)]
def Wk (N:Nat):Ent:=smF ⟨54,[],[.k (.p 190 [] 0)],[],[(190,.cell false (.x qt))]⟩ [qt] (qc×Vector UInt8 32) (fun x=>zo N x.1) cs1 fun _=>qdx
theorem qdj (N:Nat):zb Tryz.prog (Wk N):=
 q7 (H:=Jm) (L:=qP (qdw N)) (ts:=[qt]) (T:=fun x=>Jl N x.1) 0 qDO (Xg N) (qz (by kernel_rfl) ⟨qbK N,trivial⟩) (rg0 (by kernel_rfl)) fun x=>by kernel_rfl
noncomputable def qar:Code:=Tryz.f16.body.getD .skip
theorem qCe:FnF Tryz.prog 16 Tryz.f16 qar:=⟨qn,by kernel_rfl,by kernel_rfl,by kernel_rfl⟩
def vh:TH:={ live:=[(0,[0,2]),(1,[0,2,5]),(2,[0,2,5,6]),(3,[0,2,5,6]),(4,[0,2,5,6,7,8,9]),(5,[0,2,5,6,7,8]),(6,[0,2,5,6,7]),(7,[0,2,5,6]),(8,[0,2,5,6,56]),(9,[0,2,5,6]),(10,[0,2,5,6,65]),(11,[0,2,5,6,10,11,12]),(12,[0,2,5,6,10,11]),(13,[0,2,5,6,10]),(14,[0,2,5,6]),(15,[0,2,5,6,93]),(16,[0,2,5,6]),(17,[0,2,5,6]),(18,[0,2,5,6,105]),(19,[0,2,5,6,13,14,15]),(20,[0,2,5,6,13,14]),(21,[0,2,5,6,13]),(22,[0,2,5,6]),(23,[0,2,5,6,138]),(24,[0,2,5,6]),(25,[0,2,5,6,16]),(26,[0,2,5,6,151]),(27,[2,3,4]),(28,[2,3,4])],dec:=[43,80,120,134,148],jn:=[1000009,1000011,1000016,1000019,1000024] }
def j0 (N:Nat):List Ent:=[QS,KG N,qcV N,WL N,qcS N,Wk N,Va N]
theorem jz (N:Nat):qT Tryz.prog (j0 N):=⟨Js,qfn N,qkj N,qbJ N,qj4 N,qdj N,WQ N,trivial⟩
abbrev Xe:List Ty:=[(.ba 16),qB,.s,(.ba 16),(.ba 32),(.i .i64),(.ba 16),qB,.s,(.ba 16),(.ba 32),qt,.bl,.b]
abbrev Jb:=Int×qc
def qaV (x:Xs Xe) (y:Jb):Ex×TSt:=(.normal,⟨0,162,[],[(0,.tv .bl x.2.2.2.2.2.2.2.2.2.2.2.2.1),(2,.p 20 [] 0),(5,.p 190 [] 0),(6,.p 60 [] 0)],[(20,.cell false (.ag [.ic .i64 0,.tv (.ba 16) x.1,.tv qB x.2.1,.ic .i64 0,.tv .s x.2.2.1,.nils,.tv (.ba 16) x.2.2.2.1,.ic .i64 0,.tv (.ba 32) x.2.2.2.2.1])),(60,.cell false (.ag [xi x.2.2.2.2.2.1,.tv (.ba 16) x.2.2.2.2.2.2.1,.tv qB x.2.2.2.2.2.2.2.1,xi y.1,.tv .s x.2.2.2.2.2.2.2.2.1,.nils,.tv (.ba 16) x.2.2.2.2.2.2.2.2.2.1,.ic .i64 0,.tv (.ba 32) x.2.2.2.2.2.2.2.2.2.2.1])),(190,.cell false (.tv qt (y.2:qc)))],false,[]⟩)
def qht (N:Nat):List (Nat×qy):=[]
def qh3 (N:Nat):List (Nat×qy):=[]
def qaA:SP:=⟨0,162,[],[(0,.x .bl),(2,.k (.p 20 [] 0)),(5,.k (.p 190 [] 0)),(6,.k (.p 60 [] 0)),(56,.x .b)],[(20,.cell false (.ag [.k (.ic .i64 0),.x (.ba 16),.x qB,.k (.ic .i64 0),.x .s,.k .nils,.x (.ba 16),.k (.ic .i64 0),.x (.ba 32)])),(60,.cell false (.ag [.x (.i .i64),.x (.ba 16),.x qB,.k (.ic .i64 0),.x .s,.k .nils,.x (.ba 16),.k (.ic .i64 0),.x (.ba 32)])),(190,.cell false (.x qt))],false,[]⟩
def V9 (N:Nat) (o_9:Vector UInt8 16) (o_9_2:qd) (o_9_3:List UInt8) (o_9_4:Vector UInt8 16) (o_9_5:Vector UInt8 32) (o_9_6:Int) (o_9_7:Vector UInt8 16) (o_9_8:qd) (o_9_9:List UInt8) (o_9_10:Vector UInt8 16) (o_9_11:Vector UInt8 32) (o_9_12:qc) (s0_9:List UInt8) (s56_9:Bool):Tree Jb:=
 .cond s56_9 (
 .bind (qS o_9_12 1) fun r1=>
 .bind (zh r1.2 0) fun e2=>
 .chk (qf ((e2.toNat:Nat):Int)) <|
 .ret (((e2.toNat:Nat):Int),r1.1)) <|
 .ret (0,o_9_12)
def vM (N:Nat) (o_9:Vector UInt8 16) (o_9_2:qd) (o_9_3:List UInt8) (o_9_4:Vector UInt8 16) (o_9_5:Vector UInt8 32) (o_9_6:Int) (o_9_7:Vector UInt8 16) (o_9_8:qd) (o_9_9:List UInt8) (o_9_10:Vector UInt8 16) (o_9_11:Vector UInt8 32) (o_9_12:qc) (s0_9:List UInt8) (s56_9:Bool):Option Jb:=(V9 N o_9 o_9_2 o_9_3 o_9_4 o_9_5 o_9_6 o_9_7 o_9_8 o_9_9 o_9_10 o_9_11 o_9_12 s0_9 s56_9).run some
def qaU (N:Nat):qy:=smC qaA Xe Jb (fun x=>vM N x.1 x.2.1 x.2.2.1 x.2.2.2.1 x.2.2.2.2.1 x.2.2.2.2.2.1 x.2.2.2.2.2.2.1 x.2.2.2.2.2.2.2.1 x.2.2.2.2.2.2.2.2.1 x.2.2.2.2.2.2.2.2.2.1 x.2.2.2.2.2.2.2.2.2.2.1 x.2.2.2.2.2.2.2.2.2.2.2.1 x.2.2.2.2.2.2.2.2.2.2.2.2.1 x.2.2.2.2.2.2.2.2.2.2.2.2.2.1) cs1 qaV
theorem qgE (N:Nat):qbP Tryz.prog vh 16 (X7 qar 1000009) (qaU N):=Yr fun x z h=>
 Yo qn (E:=j0 N) (L:=Vb (qht N) (qh3 N)) (hd:=fun x=>zw qaA (dsX Xe x)) (st:=qaV) (B:=fun x=>V9 N x.1 x.2.1 x.2.2.1 x.2.2.2.1 x.2.2.2.2.1 x.2.2.2.2.2.1 x.2.2.2.2.2.2.1 x.2.2.2.2.2.2.2.1 x.2.2.2.2.2.2.2.2.1 x.2.2.2.2.2.2.2.2.2.1 x.2.2.2.2.2.2.2.2.2.2.1 x.2.2.2.2.2.2.2.2.2.2.2.1 x.2.2.2.2.2.2.2.2.2.2.2.2.1 x.2.2.2.2.2.2.2.2.2.2.2.2.2.1) (jz N) (ZA (by kernel_rfl) trivial) (rg0 (by kernel_rfl)) (Zy trivial) (by kernel_rfl) [0,2,5,6] (fun x=>by kernel_rfl) x z h
abbrev VO:List Ty:=[(.ba 16),qB,.s,(.ba 16),(.ba 32),(.i .i64),(.ba 16),qB,(.i .i64),.s,(.ba 16),(.ba 32),qt,.bl,.b]
abbrev ZP:=List UInt8×qc
def KB (x:Xs VO) (y:ZP):Ex×TSt:=(.normal,⟨0,162,[],[(0,.tv .bl x.2.2.2.2.2.2.2.2.2.2.2.2.2.1),(2,.p 20 [] 0),(5,.p 190 [] 0),(6,.p 60 [] 0)],[(20,.cell false (.ag [.ic .i64 0,.tv (.ba 16) x.1,.tv qB x.2.1,.ic .i64 0,.tv .s x.2.2.1,.nils,.tv (.ba 16) x.2.2.2.1,.ic .i64 0,.tv (.ba 32) x.2.2.2.2.1])),(60,.cell false (.ag [xi x.2.2.2.2.2.1,.tv (.ba 16) x.2.2.2.2.2.2.1,.tv qB x.2.2.2.2.2.2.2.1,xi x.2.2.2.2.2.2.2.2.1,.tv .s (y.1:List UInt8),.nils,.tv (.ba 16) x.2.2.2.2.2.2.2.2.2.2.1,.ic .i64 0,.tv (.ba 32) x.2.2.2.2.2.2.2.2.2.2.2.1])),(190,.cell false (.tv qt (y.2:qc)))],false,[]⟩)
def qgP (N:Nat):List (Nat×qy):=[]
def qgr (N:Nat):List (Nat×qy):=[]
def K_:SP:=⟨0,162,[],[(0,.x .bl),(2,.k (.p 20 [] 0)),(5,.k (.p 190 [] 0)),(6,.k (.p 60 [] 0)),(65,.x .b)],[(20,.cell false (.ag [.k (.ic .i64 0),.x (.ba 16),.x qB,.k (.ic .i64 0),.x .s,.k .nils,.x (.ba 16),.k (.ic .i64 0),.x (.ba 32)])),(60,.cell false (.ag [.x (.i .i64),.x (.ba 16),.x qB,.x (.i .i64),.x .s,.k .nils,.x (.ba 16),.k (.ic .i64 0),.x (.ba 32)])),(190,.cell false (.x qt))],false,[]⟩
def VS (N:Nat) (o_11:Vector UInt8 16) (o_11_2:qd) (o_11_3:List UInt8) (o_11_4:Vector UInt8 16) (o_11_5:Vector UInt8 32) (o_11_6:Int) (o_11_7:Vector UInt8 16) (o_11_8:qd) (o_11_9:Int) (o_11_10:List UInt8) (o_11_11:Vector UInt8 16) (o_11_12:Vector UInt8 32) (o_11_13:qc) (s0_11:List UInt8) (s65_11:Bool):Tree ZP:=
 .cond s65_11 (
 .bind (Q4 N (qc.b o_11_13) 200) fun r1=>
 .cond (qc.bad o_11_13) (
 .bind (qS (qc.mk (qc.b o_11_13) true) r1.2.1) fun r2=>
 .ret (r1.1,r2.1)) <|
 .bind (qS (qc.mk (qc.b o_11_13) (!r1.2.2)) r1.2.1) fun r2=>
 .ret (r1.1,r2.1)) <|
 .ret (o_11_10,o_11_13)
def vw (N:Nat) (o_11:Vector UInt8 16) (o_11_2:qd) (o_11_3:List UInt8) (o_11_4:Vector UInt8 16) (o_11_5:Vector UInt8 32) (o_11_6:Int) (o_11_7:Vector UInt8 16) (o_11_8:qd) (o_11_9:Int) (o_11_10:List UInt8) (o_11_11:Vector UInt8 16) (o_11_12:Vector UInt8 32) (o_11_13:qc) (s0_11:List UInt8) (s65_11:Bool):Option ZP:=(VS N o_11 o_11_2 o_11_3 o_11_4 o_11_5 o_11_6 o_11_7 o_11_8 o_11_9 o_11_10 o_11_11 o_11_12 o_11_13 s0_11 s65_11).run some
def KV (N:Nat):qy:=smC K_ VO ZP (fun x=>vw N x.1 x.2.1 x.2.2.1 x.2.2.2.1 x.2.2.2.2.1 x.2.2.2.2.2.1 x.2.2.2.2.2.2.1 x.2.2.2.2.2.2.2.1 x.2.2.2.2.2.2.2.2.1 x.2.2.2.2.2.2.2.2.2.1 x.2.2.2.2.2.2.2.2.2.2.1 x.2.2.2.2.2.2.2.2.2.2.2.1 x.2.2.2.2.2.2.2.2.2.2.2.2.1 x.2.2.2.2.2.2.2.2.2.2.2.2.2.1 x.2.2.2.2.2.2.2.2.2.2.2.2.2.2.1) cs1 KB
theorem qfj (N:Nat):qbP Tryz.prog vh 16 (X7 qar 1000011) (KV N):=Yr fun x z h=>
 Yo qn (E:=j0 N) (L:=Vb (qgP N) (qgr N)) (hd:=fun x=>zw K_ (dsX VO x)) (st:=KB) (B:=fun x=>VS N x.1 x.2.1 x.2.2.1 x.2.2.2.1 x.2.2.2.2.1 x.2.2.2.2.2.1 x.2.2.2.2.2.2.1 x.2.2.2.2.2.2.2.1 x.2.2.2.2.2.2.2.2.1 x.2.2.2.2.2.2.2.2.2.1 x.2.2.2.2.2.2.2.2.2.2.1 x.2.2.2.2.2.2.2.2.2.2.2.1 x.2.2.2.2.2.2.2.2.2.2.2.2.1 x.2.2.2.2.2.2.2.2.2.2.2.2.2.1 x.2.2.2.2.2.2.2.2.2.2.2.2.2.2.1) (jz N) (ZA (by kernel_rfl) trivial) (rg0 (by kernel_rfl)) (Zy trivial) (by kernel_rfl) [0,2,5,6] (fun x=>by kernel_rfl) x z h
abbrev Vr:List Ty:=[(.ba 16),qB,.s,(.ba 16),(.ba 32),(.i .i64),(.ba 16),qB,(.i .i64),.s,(.ba 16),(.ba 32),qt,.bl,.b]
abbrev ZE:=Vector UInt8 16×Int×qc
def KI (x:Xs Vr) (y:ZE):Ex×TSt:=(.normal,⟨0,162,[],[(0,.tv .bl x.2.2.2.2.2.2.2.2.2.2.2.2.2.1),(2,.p 20 [] 0),(5,.p 190 [] 0),(6,.p 60 [] 0)],[(20,.cell false (.ag [.ic .i64 0,.tv (.ba 16) x.1,.tv qB x.2.1,.ic .i64 0,.tv .s x.2.2.1,.nils,.tv (.ba 16) x.2.2.2.1,.ic .i64 0,.tv (.ba 32) x.2.2.2.2.1])),(60,.cell false (.ag [xi x.2.2.2.2.2.1,.tv (.ba 16) x.2.2.2.2.2.2.1,.tv qB x.2.2.2.2.2.2.2.1,xi x.2.2.2.2.2.2.2.2.1,.tv .s x.2.2.2.2.2.2.2.2.2.1,.nils,.tv (.ba 16) (y.1:Vector UInt8 16),xi y.2.1,.tv (.ba 32) x.2.2.2.2.2.2.2.2.2.2.2.1])),(190,.cell false (.tv qt (y.2.2:qc)))],false,[]⟩)
def qgG (N:Nat):List (Nat×qy):=[]
def qgU (N:Nat):List (Nat×qy):=[]
def KH:SP:=⟨0,162,[],[(0,.x .bl),(2,.k (.p 20 [] 0)),(5,.k (.p 190 [] 0)),(6,.k (.p 60 [] 0)),(93,.x .b)],[(20,.cell false (.ag [.k (.ic .i64 0),.x (.ba 16),.x qB,.k (.ic .i64 0),.x .s,.k .nils,.x (.ba 16),.k (.ic .i64 0),.x (.ba 32)])),(60,.cell false (.ag [.x (.i .i64),.x (.ba 16),.x qB,.x (.i .i64),.x .s,.k .nils,.x (.ba 16),.k (.ic .i64 0),.x (.ba 32)])),(190,.cell false (.x qt))],false,[]⟩
def Vs (N:Nat) (o_16:Vector UInt8 16) (o_16_2:qd) (o_16_3:List UInt8) (o_16_4:Vector UInt8 16) (o_16_5:Vector UInt8 32) (o_16_6:Int) (o_16_7:Vector UInt8 16) (o_16_8:qd) (o_16_9:Int) (o_16_10:List UInt8) (o_16_11:Vector UInt8 16) (o_16_12:Vector UInt8 32) (o_16_13:qc) (s0_16:List UInt8) (s93_16:Bool):Tree ZE:=
 .cond s93_16 (
 .bind (QY N o_16_13) fun r1=>
 .bind (qS r1.1 1) fun r2=>
 .bind (zh r2.2 0) fun e3=>
 .chk (qf ((e3.toNat:Nat):Int)) <|
 .ret (r1.2,((e3.toNat:Nat):Int),r2.1)) <|
 .ret (o_16_11,0,o_16_13)
def vz (N:Nat) (o_16:Vector UInt8 16) (o_16_2:qd) (o_16_3:List UInt8) (o_16_4:Vector UInt8 16) (o_16_5:Vector UInt8 32) (o_16_6:Int) (o_16_7:Vector UInt8 16) (o_16_8:qd) (o_16_9:Int) (o_16_10:List UInt8) (o_16_11:Vector UInt8 16) (o_16_12:Vector UInt8 32) (o_16_13:qc) (s0_16:List UInt8) (s93_16:Bool):Option ZE:=(Vs N o_16 o_16_2 o_16_3 o_16_4 o_16_5 o_16_6 o_16_7 o_16_8 o_16_9 o_16_10 o_16_11 o_16_12 o_16_13 s0_16 s93_16).run some
def KS (N:Nat):qy:=smC KH Vr ZE (fun x=>vz N x.1 x.2.1 x.2.2.1 x.2.2.2.1 x.2.2.2.2.1 x.2.2.2.2.2.1 x.2.2.2.2.2.2.1 x.2.2.2.2.2.2.2.1 x.2.2.2.2.2.2.2.2.1 x.2.2.2.2.2.2.2.2.2.1 x.2.2.2.2.2.2.2.2.2.2.1 x.2.2.2.2.2.2.2.2.2.2.2.1 x.2.2.2.2.2.2.2.2.2.2.2.2.1 x.2.2.2.2.2.2.2.2.2.2.2.2.2.1 x.2.2.2.2.2.2.2.2.2.2.2.2.2.2.1) cs1 KI
theorem qft (N:Nat):qbP Tryz.prog vh 16 (X7 qar 1000016) (KS N):=Yr fun x z h=>
 Yo qn (E:=j0 N) (L:=Vb (qgG N) (qgU N)) (hd:=fun x=>zw KH (dsX Vr x)) (st:=KI) (B:=fun x=>Vs N x.1 x.2.1 x.2.2.1 x.2.2.2.1 x.2.2.2.2.1 x.2.2.2.2.2.1 x.2.2.2.2.2.2.1 x.2.2.2.2.2.2.2.1 x.2.2.2.2.2.2.2.2.1 x.2.2.2.2.2.2.2.2.2.1 x.2.2.2.2.2.2.2.2.2.2.1 x.2.2.2.2.2.2.2.2.2.2.2.1 x.2.2.2.2.2.2.2.2.2.2.2.2.1 x.2.2.2.2.2.2.2.2.2.2.2.2.2.1 x.2.2.2.2.2.2.2.2.2.2.2.2.2.2.1) (jz N) (ZA (by kernel_rfl) trivial) (rg0 (by kernel_rfl)) (Zy trivial) (by kernel_rfl) [0,2,5,6] (fun x=>by kernel_rfl) x z h
abbrev VR:List Ty:=[(.ba 16),qB,.s,(.ba 16),(.ba 32),(.i .i64),(.ba 16),qB,(.i .i64),.s,(.ba 16),(.i .i64),(.ba 32),qt,.bl,.b]
abbrev ZU:=(qb×qc)⊕Unit
def K3 (x:Xs VR):ZU→Ex×TSt
 | .inl y=>(.normal,⟨0,162,[],[(0,.tv .bl x.2.2.2.2.2.2.2.2.2.2.2.2.2.2.1),(2,.p 20 [] 0),(5,.p 190 [] 0),(6,.p 60 [] 0)],[(20,.cell false (.ag [.ic .i64 0,.tv (.ba 16) x.1,.tv qB x.2.1,.ic .i64 0,.tv .s x.2.2.1,.nils,.tv (.ba 16) x.2.2.2.1,.ic .i64 0,.tv (.ba 32) x.2.2.2.2.1])),(60,.cell false (.tv qF (y.1:qb))),(190,.cell false (.tv qt (y.2:qc)))],false,[]⟩)
 | .inr y=>(.normal,⟨0,162,[],[(0,.tv .bl x.2.2.2.2.2.2.2.2.2.2.2.2.2.2.1),(2,.p 20 [] 0),(5,.p 190 [] 0),(6,.p 60 [] 0)],[(20,.cell false (.ag [.ic .i64 0,.tv (.ba 16) x.1,.tv qB x.2.1,.ic .i64 0,.tv .s x.2.2.1,.nils,.tv (.ba 16) x.2.2.2.1,.ic .i64 0,.tv (.ba 32) x.2.2.2.2.1])),(60,.cell false (.ag [xi x.2.2.2.2.2.1,.tv (.ba 16) x.2.2.2.2.2.2.1,.tv qB x.2.2.2.2.2.2.2.1,xi x.2.2.2.2.2.2.2.2.1,.tv .s x.2.2.2.2.2.2.2.2.2.1,.nils,.tv (.ba 16) x.2.2.2.2.2.2.2.2.2.2.1,xi x.2.2.2.2.2.2.2.2.2.2.2.1,.tv (.ba 32) x.2.2.2.2.2.2.2.2.2.2.2.2.1])),(190,.cell false (.tv qt x.2.2.2.2.2.2.2.2.2.2.2.2.2.1))],false,[]⟩)
def qga (N:Nat):List (Nat×qy):=[]
def qgq (N:Nat):List (Nat×qy):=[]
def K1:SP:=⟨0,162,[],[(0,.x .bl),(2,.k (.p 20 [] 0)),(5,.k (.p 190 [] 0)),(6,.k (.p 60 [] 0)),(105,.x .b)],[(20,.cell false (.ag [.k (.ic .i64 0),.x (.ba 16),.x qB,.k (.ic .i64 0),.x .s,.k .nils,.x (.ba 16),.k (.ic .i64 0),.x (.ba 32)])),(60,.cell false (.ag [.x (.i .i64),.x (.ba 16),.x qB,.x (.i .i64),.x .s,.k .nils,.x (.ba 16),.x (.i .i64),.x (.ba 32)])),(190,.cell false (.x qt))],false,[]⟩
def VQ (N:Nat) (o_19:Vector UInt8 16) (o_19_2:qd) (o_19_3:List UInt8) (o_19_4:Vector UInt8 16) (o_19_5:Vector UInt8 32) (o_19_6:Int) (o_19_7:Vector UInt8 16) (o_19_8:qd) (o_19_9:Int) (o_19_10:List UInt8) (o_19_11:Vector UInt8 16) (o_19_12:Int) (o_19_13:Vector UInt8 32) (o_19_14:qc) (s0_19:List UInt8) (s105_19:Bool):Tree ZU:=
 .cond s105_19 (
 .bind (X2 N (qc.b o_19_14)) fun r1=>
 .cond (qc.bad o_19_14) (
 .bind (qS (qc.mk (qc.b o_19_14) true) r1.2.1) fun r2=>
 .ret (.inl (qb.mk o_19_6 o_19_7 o_19_8 o_19_9 o_19_10 r1.1 o_19_11 o_19_12 o_19_13,r2.1))) <|
 .bind (qS (qc.mk (qc.b o_19_14) (!r1.2.2)) r1.2.1) fun r2=>
 .ret (.inl (qb.mk o_19_6 o_19_7 o_19_8 o_19_9 o_19_10 r1.1 o_19_11 o_19_12 o_19_13,r2.1))) <|
 .ret (.inr ())
def vp (N:Nat) (o_19:Vector UInt8 16) (o_19_2:qd) (o_19_3:List UInt8) (o_19_4:Vector UInt8 16) (o_19_5:Vector UInt8 32) (o_19_6:Int) (o_19_7:Vector UInt8 16) (o_19_8:qd) (o_19_9:Int) (o_19_10:List UInt8) (o_19_11:Vector UInt8 16) (o_19_12:Int) (o_19_13:Vector UInt8 32) (o_19_14:qc) (s0_19:List UInt8) (s105_19:Bool):Option ZU:=(VQ N o_19 o_19_2 o_19_3 o_19_4 o_19_5 o_19_6 o_19_7 o_19_8 o_19_9 o_19_10 o_19_11 o_19_12 o_19_13 o_19_14 s0_19 s105_19).run some
def K8 (N:Nat):qy:=smC K1 VR ZU (fun x=>vp N x.1 x.2.1 x.2.2.1 x.2.2.2.1 x.2.2.2.2.1 x.2.2.2.2.2.1 x.2.2.2.2.2.2.1 x.2.2.2.2.2.2.2.1 x.2.2.2.2.2.2.2.2.1 x.2.2.2.2.2.2.2.2.2.1 x.2.2.2.2.2.2.2.2.2.2.1 x.2.2.2.2.2.2.2.2.2.2.2.1 x.2.2.2.2.2.2.2.2.2.2.2.2.1 x.2.2.2.2.2.2.2.2.2.2.2.2.2.1 x.2.2.2.2.2.2.2.2.2.2.2.2.2.2.1 x.2.2.2.2.2.2.2.2.2.2.2.2.2.2.2.1) (csS cs1) K3
theorem qfg (N:Nat):qbP Tryz.prog vh 16 (X7 qar 1000019) (K8 N):=Yr fun x z h=>
 Yo qn (E:=j0 N) (L:=Vb (qga N) (qgq N)) (hd:=fun x=>zw K1 (dsX VR x)) (st:=K3) (B:=fun x=>VQ N x.1 x.2.1 x.2.2.1 x.2.2.2.1 x.2.2.2.2.1 x.2.2.2.2.2.1 x.2.2.2.2.2.2.1 x.2.2.2.2.2.2.2.1 x.2.2.2.2.2.2.2.2.1 x.2.2.2.2.2.2.2.2.2.1 x.2.2.2.2.2.2.2.2.2.2.1 x.2.2.2.2.2.2.2.2.2.2.2.1 x.2.2.2.2.2.2.2.2.2.2.2.2.1 x.2.2.2.2.2.2.2.2.2.2.2.2.2.1 x.2.2.2.2.2.2.2.2.2.2.2.2.2.2.1 x.2.2.2.2.2.2.2.2.2.2.2.2.2.2.2.1) (jz N) (ZA (by kernel_rfl) trivial) (rg0 (by kernel_rfl)) (Zy trivial) (by kernel_rfl) [0,2,5,6] (fun x=>by kernel_rfl) x z h
abbrev Vv:List Ty:=[(.ba 16),qB,.s,(.ba 16),(.ba 32),(.i .i64),(.ba 16),qB,(.i .i64),.s,(.ba 16),(.i .i64),(.ba 32),qt,.bl,.b]
abbrev ZM:=Vector UInt8 32×qc
def KY (x:Xs Vv) (y:ZM):Ex×TSt:=(.normal,⟨0,162,[],[(0,.tv .bl x.2.2.2.2.2.2.2.2.2.2.2.2.2.2.1),(2,.p 20 [] 0),(5,.p 190 [] 0),(6,.p 60 [] 0)],[(20,.cell false (.ag [.ic .i64 0,.tv (.ba 16) x.1,.tv qB x.2.1,.ic .i64 0,.tv .s x.2.2.1,.nils,.tv (.ba 16) x.2.2.2.1,.ic .i64 0,.tv (.ba 32) x.2.2.2.2.1])),(60,.cell false (.ag [xi x.2.2.2.2.2.1,.tv (.ba 16) x.2.2.2.2.2.2.1,.tv qB x.2.2.2.2.2.2.2.1,xi x.2.2.2.2.2.2.2.2.1,.tv .s x.2.2.2.2.2.2.2.2.2.1,.nils,.tv (.ba 16) x.2.2.2.2.2.2.2.2.2.2.1,xi x.2.2.2.2.2.2.2.2.2.2.2.1,.tv (.ba 32) (y.1:Vector UInt8 32)])),(190,.cell false (.tv qt (y.2:qc)))],false,[]⟩)
def qgI (N:Nat):List (Nat×qy):=[]
def qf1 (N:Nat):List (Nat×qy):=[]
def KU:SP:=⟨0,162,[],[(0,.x .bl),(2,.k (.p 20 [] 0)),(5,.k (.p 190 [] 0)),(6,.k (.p 60 [] 0)),(138,.x .b)],[(20,.cell false (.ag [.k (.ic .i64 0),.x (.ba 16),.x qB,.k (.ic .i64 0),.x .s,.k .nils,.x (.ba 16),.k (.ic .i64 0),.x (.ba 32)])),(60,.cell false (.ag [.x (.i .i64),.x (.ba 16),.x qB,.x (.i .i64),.x .s,.k .nils,.x (.ba 16),.x (.i .i64),.x (.ba 32)])),(190,.cell false (.x qt))],false,[]⟩
def KW (N:Nat) (o_24:Vector UInt8 16) (o_24_2:qd) (o_24_3:List UInt8) (o_24_4:Vector UInt8 16) (o_24_5:Vector UInt8 32) (o_24_6:Int) (o_24_7:Vector UInt8 16) (o_24_8:qd) (o_24_9:Int) (o_24_10:List UInt8) (o_24_11:Vector UInt8 16) (o_24_12:Int) (o_24_13:Vector UInt8 32) (o_24_14:qc) (s0_24:List UInt8) (s138_24:Bool):Tree ZM:=
 .cond s138_24 (
 .bind (zo N o_24_14) fun r1=>
 .ret (r1.2,r1.1)) <|
 .ret (o_24_13,o_24_14)
def Jv (N:Nat) (o_24:Vector UInt8 16) (o_24_2:qd) (o_24_3:List UInt8) (o_24_4:Vector UInt8 16) (o_24_5:Vector UInt8 32) (o_24_6:Int) (o_24_7:Vector UInt8 16) (o_24_8:qd) (o_24_9:Int) (o_24_10:List UInt8) (o_24_11:Vector UInt8 16) (o_24_12:Int) (o_24_13:Vector UInt8 32) (o_24_14:qc) (s0_24:List UInt8) (s138_24:Bool):Option ZM:=(KW N o_24 o_24_2 o_24_3 o_24_4 o_24_5 o_24_6 o_24_7 o_24_8 o_24_9 o_24_10 o_24_11 o_24_12 o_24_13 o_24_14 s0_24 s138_24).run some
def K5 (N:Nat):qy:=smC KU Vv ZM (fun x=>Jv N x.1 x.2.1 x.2.2.1 x.2.2.2.1 x.2.2.2.2.1 x.2.2.2.2.2.1 x.2.2.2.2.2.2.1 x.2.2.2.2.2.2.2.1 x.2.2.2.2.2.2.2.2.1 x.2.2.2.2.2.2.2.2.2.1 x.2.2.2.2.2.2.2.2.2.2.1 x.2.2.2.2.2.2.2.2.2.2.2.1 x.2.2.2.2.2.2.2.2.2.2.2.2.1 x.2.2.2.2.2.2.2.2.2.2.2.2.2.1 x.2.2.2.2.2.2.2.2.2.2.2.2.2.2.1 x.2.2.2.2.2.2.2.2.2.2.2.2.2.2.2.1) cs1 KY
theorem qfo (N:Nat):qbP Tryz.prog vh 16 (X7 qar 1000024) (K5 N):=Yr fun x z h=>
 Yo qn (E:=j0 N) (L:=Vb (qgI N) (qf1 N)) (hd:=fun x=>zw KU (dsX Vv x)) (st:=KY) (B:=fun x=>KW N x.1 x.2.1 x.2.2.1 x.2.2.2.1 x.2.2.2.2.1 x.2.2.2.2.2.1 x.2.2.2.2.2.2.1 x.2.2.2.2.2.2.2.1 x.2.2.2.2.2.2.2.2.1 x.2.2.2.2.2.2.2.2.2.1 x.2.2.2.2.2.2.2.2.2.2.1 x.2.2.2.2.2.2.2.2.2.2.2.1 x.2.2.2.2.2.2.2.2.2.2.2.2.1 x.2.2.2.2.2.2.2.2.2.2.2.2.2.1 x.2.2.2.2.2.2.2.2.2.2.2.2.2.2.1 x.2.2.2.2.2.2.2.2.2.2.2.2.2.2.2.1) (jz N) (ZA (by kernel_rfl) trivial) (rg0 (by kernel_rfl)) (Zy trivial) (by kernel_rfl) [0,2,5,6] (fun x=>by kernel_rfl) x z h
abbrev JN:List Ty:=[(.ba 16),qB,.s,(.ba 16),(.ba 32),qF,qt,.bl,.b]
abbrev QL:=qb×qc
def Yp (x:Xs JN) (y:QL):Ex×TSt:=(.normal,⟨0,162,[],[(0,.tv .bl x.2.2.2.2.2.2.2.1),(2,.p 20 [] 0),(5,.p 190 [] 0),(6,.p 60 [] 0)],[(20,.cell false (.ag [.ic .i64 0,.tv (.ba 16) x.1,.tv qB x.2.1,.ic .i64 0,.tv .s x.2.2.1,.nils,.tv (.ba 16) x.2.2.2.1,.ic .i64 0,.tv (.ba 32) x.2.2.2.2.1])),(60,.cell false (.tv qF (y.1:qb))),(190,.cell false (.tv qt (y.2:qc)))],false,[]⟩)
def qeF (N:Nat):List (Nat×qy):=[]
def qeK (N:Nat):List (Nat×qy):=[]
def Yl:SP:=⟨0,162,[],[(0,.x .bl),(2,.k (.p 20 [] 0)),(5,.k (.p 190 [] 0)),(6,.k (.p 60 [] 0)),(138,.x .b)],[(20,.cell false (.ag [.k (.ic .i64 0),.x (.ba 16),.x qB,.k (.ic .i64 0),.x .s,.k .nils,.x (.ba 16),.k (.ic .i64 0),.x (.ba 32)])),(60,.cell false (.x qF)),(190,.cell false (.x qt))],false,[]⟩
def JS (N:Nat) (o_24:Vector UInt8 16) (o_24_2:qd) (o_24_3:List UInt8) (o_24_4:Vector UInt8 16) (o_24_5:Vector UInt8 32) (o_24_6:qb) (o_24_7:qc) (s0_24:List UInt8) (s138_24:Bool):Tree QL:=
 .cond s138_24 (
 .bind (zo N o_24_7) fun r1=>
 .ret (qb.mk (qb.Kind o_24_6) (qb.ID o_24_6) (qb.S o_24_6) (qb.No o_24_6) (qb.V o_24_6) (qb.P o_24_6) (qb.zi o_24_6) (qb.zk o_24_6) r1.2,r1.1)) <|
 .ret (o_24_6,o_24_7)
def vQ (N:Nat) (o_24:Vector UInt8 16) (o_24_2:qd) (o_24_3:List UInt8) (o_24_4:Vector UInt8 16) (o_24_5:Vector UInt8 32) (o_24_6:qb) (o_24_7:qc) (s0_24:List UInt8) (s138_24:Bool):Option QL:=(JS N o_24 o_24_2 o_24_3 o_24_4 o_24_5 o_24_6 o_24_7 s0_24 s138_24).run some
def Yn (N:Nat):qy:=smC Yl JN QL (fun x=>vQ N x.1 x.2.1 x.2.2.1 x.2.2.2.1 x.2.2.2.2.1 x.2.2.2.2.2.1 x.2.2.2.2.2.2.1 x.2.2.2.2.2.2.2.1 x.2.2.2.2.2.2.2.2.1) cs1 Yp
theorem qdS (N:Nat):qbP Tryz.prog vh 16 (X7 qar 1000024) (Yn N):=Yr fun x z h=>
 Yo qn (E:=j0 N) (L:=Vb (qeF N) (qeK N)) (hd:=fun x=>zw Yl (dsX JN x)) (st:=Yp) (B:=fun x=>JS N x.1 x.2.1 x.2.2.1 x.2.2.2.1 x.2.2.2.2.1 x.2.2.2.2.2.1 x.2.2.2.2.2.2.1 x.2.2.2.2.2.2.2.1 x.2.2.2.2.2.2.2.2.1) (jz N) (ZA (by kernel_rfl) trivial) (rg0 (by kernel_rfl)) (Zy trivial) (by kernel_rfl) [0,2,5,6] (fun x=>by kernel_rfl) x z h
def qkW (z:qb×Int×Bool):TV×THp:=(.tup [.tv qF (z.1:qb),xi z.2.1,xb z.2.2],[])
def Ym (N:Nat) (a0:List UInt8):Tree (qb×Int×Bool):=
 .bind (qS (qc.mk a0 false) 1) fun r1=>
 .bind (zh r1.2 0) fun e2=>
 .chk (qf ((e2.toNat:Nat):Int)) <|
 .bind (QY N r1.1) fun r3=>
 .bind (XY N (qc.b r3.1)) fun r4=>
 .cond (qc.bad r3.1) (
 .bind (qS (qc.mk (qc.b r3.1) true) r4.2.1) fun r5=>
 .bind (vM N ((Vector.replicate 16 0)) (qd.mk 0 0) [] ((Vector.replicate 16 0)) ((Vector.replicate 32 0)) ((e2.toNat:Nat):Int) r3.2 r4.1 [] ((Vector.replicate 16 0)) ((Vector.replicate 32 0)) r5.1 a0 (!decide (((e2.toNat:Nat):Int)=((0:Int))))) fun j6=>
 .bind (vw N ((Vector.replicate 16 0)) (qd.mk 0 0) [] ((Vector.replicate 16 0)) ((Vector.replicate 32 0)) ((e2.toNat:Nat):Int) r3.2 r4.1 j6.1 [] ((Vector.replicate 16 0)) ((Vector.replicate 32 0)) j6.2 a0 (decide (((e2.toNat:Nat):Int)=((1:Int))))) fun j7=>
 .bind (vz N ((Vector.replicate 16 0)) (qd.mk 0 0) [] ((Vector.replicate 16 0)) ((Vector.replicate 32 0)) ((e2.toNat:Nat):Int) r3.2 r4.1 j6.1 j7.1 ((Vector.replicate 16 0)) ((Vector.replicate 32 0)) j7.2 a0 (decide (((e2.toNat:Nat):Int)=((2:Int))))) fun j8=>
 .bind (vp N ((Vector.replicate 16 0)) (qd.mk 0 0) [] ((Vector.replicate 16 0)) ((Vector.replicate 32 0)) ((e2.toNat:Nat):Int) r3.2 r4.1 j6.1 j7.1 j8.1 j8.2.1 ((Vector.replicate 32 0)) j8.2.2 a0 (decide (((e2.toNat:Nat):Int)=((3:Int))))) fun j9=>
 .sum j9 (fun j10=>
 .cond (decide ((qb.Kind j10.1)=((2:Int)))) (
 .bind (zo N j10.2) fun r11=>
 .bind (zq N (qb.mk (qb.Kind j10.1) (qb.ID j10.1) (qb.S j10.1) (qb.No j10.1) (qb.V j10.1) (qb.P j10.1) (qb.zi j10.1) (qb.zk j10.1) r11.2)) fun r12=>
 .cond (qc.bad r11.1) (
 .ret (qb.mk 0 ((Vector.replicate 16 0)) (qd.mk 0 0) 0 [] [] ((Vector.replicate 16 0)) 0 ((Vector.replicate 32 0)),0,false)) <|
 .cond (!r12) (
 .ret (qb.mk 0 ((Vector.replicate 16 0)) (qd.mk 0 0) 0 [] [] ((Vector.replicate 16 0)) 0 ((Vector.replicate 32 0)),0,false)) <|
 .chk (qf (((a0.length:Nat):Int) - (((qc.b r11.1).length:Nat):Int))) <|
 .ret (qb.mk (qb.Kind j10.1) (qb.ID j10.1) (qb.S j10.1) (qb.No j10.1) (qb.V j10.1) (qb.P j10.1) (qb.zi j10.1) (qb.zk j10.1) r11.2,((a0.length:Nat):Int) - (((qc.b r11.1).length:Nat):Int),true)) <|
 .bind (vQ N ((Vector.replicate 16 0)) (qd.mk 0 0) [] ((Vector.replicate 16 0)) ((Vector.replicate 32 0)) j10.1 j10.2 a0 (decide ((qb.Kind j10.1)=((3:Int))))) fun j11=>
 .bind (zq N j11.1) fun r12=>
 .cond (qc.bad j11.2) (
 .ret (qb.mk 0 ((Vector.replicate 16 0)) (qd.mk 0 0) 0 [] [] ((Vector.replicate 16 0)) 0 ((Vector.replicate 32 0)),0,false)) <|
 .cond (!r12) (
 .ret (qb.mk 0 ((Vector.replicate 16 0)) (qd.mk 0 0) 0 [] [] ((Vector.replicate 16 0)) 0 ((Vector.replicate 32 0)),0,false)) <|
 .chk (qf (((a0.length:Nat):Int) - (((qc.b j11.2).length:Nat):Int))) <|
 .ret (j11.1,((a0.length:Nat):Int) - (((qc.b j11.2).length:Nat):Int),true)) fun j10=>
 .cond (decide (((e2.toNat:Nat):Int)=((2:Int)))) (
 .bind (zo N j8.2.2) fun r11=>
 .bind (zq N (qb.mk ((e2.toNat:Nat):Int) r3.2 r4.1 j6.1 j7.1 [] j8.1 j8.2.1 r11.2)) fun r12=>
 .cond (qc.bad r11.1) (
 .ret (qb.mk 0 ((Vector.replicate 16 0)) (qd.mk 0 0) 0 [] [] ((Vector.replicate 16 0)) 0 ((Vector.replicate 32 0)),0,false)) <|
 .cond (!r12) (
 .ret (qb.mk 0 ((Vector.replicate 16 0)) (qd.mk 0 0) 0 [] [] ((Vector.replicate 16 0)) 0 ((Vector.replicate 32 0)),0,false)) <|
 .chk (qf (((a0.length:Nat):Int) - (((qc.b r11.1).length:Nat):Int))) <|
 .ret (qb.mk ((e2.toNat:Nat):Int) r3.2 r4.1 j6.1 j7.1 [] j8.1 j8.2.1 r11.2,((a0.length:Nat):Int) - (((qc.b r11.1).length:Nat):Int),true)) <|
 .bind (Jv N ((Vector.replicate 16 0)) (qd.mk 0 0) [] ((Vector.replicate 16 0)) ((Vector.replicate 32 0)) ((e2.toNat:Nat):Int) r3.2 r4.1 j6.1 j7.1 j8.1 j8.2.1 ((Vector.replicate 32 0)) j8.2.2 a0 (decide (((e2.toNat:Nat):Int)=((3:Int))))) fun j11=>
 .bind (zq N (qb.mk ((e2.toNat:Nat):Int) r3.2 r4.1 j6.1 j7.1 [] j8.1 j8.2.1 j11.1)) fun r12=>
 .cond (qc.bad j11.2) (
 .ret (qb.mk 0 ((Vector.replicate 16 0)) (qd.mk 0 0) 0 [] [] ((Vector.replicate 16 0)) 0 ((Vector.replicate 32 0)),0,false)) <|
 .cond (!r12) (
 .ret (qb.mk 0 ((Vector.replicate 16 0)) (qd.mk 0 0) 0 [] [] ((Vector.replicate 16 0)) 0 ((Vector.replicate 32 0)),0,false)) <|
 .chk (qf (((a0.length:Nat):Int) - (((qc.b j11.2).length:Nat):Int))) <|
 .ret (qb.mk ((e2.toNat:Nat):Int) r3.2 r4.1 j6.1 j7.1 [] j8.1 j8.2.1 j11.1,((a0.length:Nat):Int) - (((qc.b j11.2).length:Nat):Int),true)) <|
 .bind (qS (qc.mk (qc.b r3.1) (!r4.2.2)) r4.2.1) fun r5=>
 .bind (vM N ((Vector.replicate 16 0)) (qd.mk 0 0) [] ((Vector.replicate 16 0)) ((Vector.replicate 32 0)) ((e2.toNat:Nat):Int) r3.2 r4.1 [] ((Vector.replicate 16 0)) ((Vector.replicate 32 0)) r5.1 a0 (!decide (((e2.toNat:Nat):Int)=((0:Int))))) fun j6=>
 .bind (vw N ((Vector.replicate 16 0)) (qd.mk 0 0) [] ((Vector.replicate 16 0)) ((Vector.replicate 32 0)) ((e2.toNat:Nat):Int) r3.2 r4.1 j6.1 [] ((Vector.replicate 16 0)) ((Vector.replicate 32 0)) j6.2 a0 (decide (((e2.toNat:Nat):Int)=((1:Int))))) fun j7=>
 .bind (vz N ((Vector.replicate 16 0)) (qd.mk 0 0) [] ((Vector.replicate 16 0)) ((Vector.replicate 32 0)) ((e2.toNat:Nat):Int) r3.2 r4.1 j6.1 j7.1 ((Vector.replicate 16 0)) ((Vector.replicate 32 0)) j7.2 a0 (decide (((e2.toNat:Nat):Int)=((2:Int))))) fun j8=>
 .bind (vp N ((Vector.replicate 16 0)) (qd.mk 0 0) [] ((Vector.replicate 16 0)) ((Vector.replicate 32 0)) ((e2.toNat:Nat):Int) r3.2 r4.1 j6.1 j7.1 j8.1 j8.2.1 ((Vector.replicate 32 0)) j8.2.2 a0 (decide (((e2.toNat:Nat):Int)=((3:Int))))) fun j9=>
 .sum j9 (fun j10=>
 .cond (decide ((qb.Kind j10.1)=((2:Int)))) (
 .bind (zo N j10.2) fun r11=>
 .bind (zq N (qb.mk (qb.Kind j10.1) (qb.ID j10.1) (qb.S j10.1) (qb.No j10.1) (qb.V j10.1) (qb.P j10.1) (qb.zi j10.1) (qb.zk j10.1) r11.2)) fun r12=>
 .cond (qc.bad r11.1) (
 .ret (qb.mk 0 ((Vector.replicate 16 0)) (qd.mk 0 0) 0 [] [] ((Vector.replicate 16 0)) 0 ((Vector.replicate 32 0)),0,false)) <|
 .cond (!r12) (
 .ret (qb.mk 0 ((Vector.replicate 16 0)) (qd.mk 0 0) 0 [] [] ((Vector.replicate 16 0)) 0 ((Vector.replicate 32 0)),0,false)) <|
 .chk (qf (((a0.length:Nat):Int) - (((qc.b r11.1).length:Nat):Int))) <|
 .ret (qb.mk (qb.Kind j10.1) (qb.ID j10.1) (qb.S j10.1) (qb.No j10.1) (qb.V j10.1) (qb.P j10.1) (qb.zi j10.1) (qb.zk j10.1) r11.2,((a0.length:Nat):Int) - (((qc.b r11.1).length:Nat):Int),true)) <|
 .bind (vQ N ((Vector.replicate 16 0)) (qd.mk 0 0) [] ((Vector.replicate 16 0)) ((Vector.replicate 32 0)) j10.1 j10.2 a0 (decide ((qb.Kind j10.1)=((3:Int))))) fun j11=>
 .bind (zq N j11.1) fun r12=>
 .cond (qc.bad j11.2) (
 .ret (qb.mk 0 ((Vector.replicate 16 0)) (qd.mk 0 0) 0 [] [] ((Vector.replicate 16 0)) 0 ((Vector.replicate 32 0)),0,false)) <|
 .cond (!r12) (
 .ret (qb.mk 0 ((Vector.replicate 16 0)) (qd.mk 0 0) 0 [] [] ((Vector.replicate 16 0)) 0 ((Vector.replicate 32 0)),0,false)) <|
 .chk (qf (((a0.length:Nat):Int) - (((qc.b j11.2).length:Nat):Int))) <|
 .ret (j11.1,((a0.length:Nat):Int) - (((qc.b j11.2).length:Nat):Int),true)) fun j10=>
 .cond (decide (((e2.toNat:Nat):Int)=((2:Int)))) (
 .bind (zo N j8.2.2) fun r11=>
 .bind (zq N (qb.mk ((e2.toNat:Nat):Int) r3.2 r4.1 j6.1 j7.1 [] j8.1 j8.2.1 r11.2)) fun r12=>
 .cond (qc.bad r11.1) (
 .ret (qb.mk 0 ((Vector.replicate 16 0)) (qd.mk 0 0) 0 [] [] ((Vector.replicate 16 0)) 0 ((Vector.replicate 32 0)),0,false)) <|
 .cond (!r12) (
 .ret (qb.mk 0 ((Vector.replicate 16 0)) (qd.mk 0 0) 0 [] [] ((Vector.replicate 16 0)) 0 ((Vector.replicate 32 0)),0,false)) <|
 .chk (qf (((a0.length:Nat):Int) - (((qc.b r11.1).length:Nat):Int))) <|
 .ret (qb.mk ((e2.toNat:Nat):Int) r3.2 r4.1 j6.1 j7.1 [] j8.1 j8.2.1 r11.2,((a0.length:Nat):Int) - (((qc.b r11.1).length:Nat):Int),true)) <|
 .bind (Jv N ((Vector.replicate 16 0)) (qd.mk 0 0) [] ((Vector.replicate 16 0)) ((Vector.replicate 32 0)) ((e2.toNat:Nat):Int) r3.2 r4.1 j6.1 j7.1 j8.1 j8.2.1 ((Vector.replicate 32 0)) j8.2.2 a0 (decide (((e2.toNat:Nat):Int)=((3:Int))))) fun j11=>
 .bind (zq N (qb.mk ((e2.toNat:Nat):Int) r3.2 r4.1 j6.1 j7.1 [] j8.1 j8.2.1 j11.1)) fun r12=>
 .cond (qc.bad j11.2) (
 .ret (qb.mk 0 ((Vector.replicate 16 0)) (qd.mk 0 0) 0 [] [] ((Vector.replicate 16 0)) 0 ((Vector.replicate 32 0)),0,false)) <|
 .cond (!r12) (
 .ret (qb.mk 0 ((Vector.replicate 16 0)) (qd.mk 0 0) 0 [] [] ((Vector.replicate 16 0)) 0 ((Vector.replicate 32 0)),0,false)) <|
 .chk (qf (((a0.length:Nat):Int) - (((qc.b j11.2).length:Nat):Int))) <|
 .ret (qb.mk ((e2.toNat:Nat):Int) r3.2 r4.1 j6.1 j7.1 [] j8.1 j8.2.1 j11.1,((a0.length:Nat):Int) - (((qc.b j11.2).length:Nat):Int),true)
def X_ (N:Nat) (a0:List UInt8):Option (qb×Int×Bool):=(Ym N a0).run some
def qld (N:Nat):List (Nat×qy):=[]
def qk8 (N:Nat):List (Nat×qy):=[(1000009,qaU N),(1000011,KV N),(1000016,KS N),(1000019,K8 N),(1000024,K5 N),(1000024,Yn N)]
def qdi (N:Nat):Ent:=smF ⟨16,[],[.x .bl],[],[]⟩ [.bl] (qb×Int×Bool) (fun x=>X_ N x.1) cs1 fun _=>qkW
theorem qj3 (N:Nat):zb Tryz.prog (qdi N):=
 q7 (H:=vh) (L:=Vb (qld N) (qk8 N)) (ts:=[.bl]) (T:=fun x=>Ym N x.1) (hS:=Zy ⟨⟨by kernel_rfl,qgE N⟩,⟨by kernel_rfl,qfj N⟩,⟨by kernel_rfl,qft N⟩,⟨by kernel_rfl,qfg N⟩,⟨by kernel_rfl,qfo N⟩,⟨by kernel_rfl,qdS N⟩,trivial⟩) 0 qCe (jz N) (ZA (by kernel_rfl) trivial) (rg0 (by kernel_rfl)) fun x=>by kernel_rfl
noncomputable def qDT:Code:=Tryz.f21.body.getD .skip
theorem qC4:FnF Tryz.prog 21 Tryz.f21 qDT:=⟨qn,by kernel_rfl,by kernel_rfl,by kernel_rfl⟩
def qBa:TH:={ live:=[(0,[1]),(1,[3]),(2,[2])] }
def qAc (N:Nat):List Ent:=[qoA N]
theorem qwQ (N:Nat):qT Tryz.prog (qAc N):=⟨qr1 N,trivial⟩
def qzU (z:Int):TV×THp:=(xi z,[])
def qml (N:Nat) (a0:qb):Tree (Int):=
 .bind (qlg N a0) fun r1=>
 .ret ((r1.1.length:Nat):Int)
def qmW (N:Nat) (a0:qb):Option (Int):=(qml N a0).run some
def qBv (N:Nat):List (Nat×qy):=[]
def qsu (N:Nat):Ent:=smF ⟨21,[],[.x qF],[],[]⟩ [qF] (Int) (fun x=>qmW N x.1) cs1 fun _=>qzU
theorem qzQ (N:Nat):zb Tryz.prog (qsu N):=
 q7 (H:=qBa) (L:=qP (qBv N)) (ts:=[qF]) (T:=fun x=>qml N x.1) 0 qC4 (qwQ N) (qz (by kernel_rfl) trivial) (rg0 (by kernel_rfl)) fun x=>by kernel_rfl
noncomputable def qB4:Code:=Tryz.f22.body.getD .skip
theorem qDz:FnF Tryz.prog 22 Tryz.f22 qB4:=⟨qn,by kernel_rfl,by kernel_rfl,by kernel_rfl⟩
def qkd:TH:={ live:=[(0,[1]),(1,[3]),(2,[2])] }
def qj2 (N:Nat):List Ent:=[Yc N]
theorem qhq (N:Nat):qT Tryz.prog (qj2 N):=⟨qb9 N,trivial⟩
def qkk (z:Int):TV×THp:=(xi z,[])
def WI (N:Nat) (a0:qb):Tree (Int):=
 .bind (JH N a0) fun r1=>
 .ret ((r1.1.length:Nat):Int)
def V2 (N:Nat) (a0:qb):Option (Int):=(WI N a0).run some
def qj7 (N:Nat):List (Nat×qy):=[]
def qb8 (N:Nat):Ent:=smF ⟨22,[],[.x qF],[],[]⟩ [qF] (Int) (fun x=>V2 N x.1) cs1 fun _=>qkk
theorem qib (N:Nat):zb Tryz.prog (qb8 N):=
 q7 (H:=qkd) (L:=qP (qj7 N)) (ts:=[qF]) (T:=fun x=>WI N x.1) 0 qDz (qhq N) (qz (by kernel_rfl) trivial) (rg0 (by kernel_rfl)) fun x=>by kernel_rfl
noncomputable def qxN:Code:=Tryz.f3.body.getD .skip
theorem qEP:FnF Tryz.prog 3 Tryz.f3 qxN:=⟨qn,by kernel_rfl,by kernel_rfl,by kernel_rfl⟩
def qgi:TH:={ live:=[(0,[2,3,4]),(1,[2,3,4,7]),(2,[2,3,4,7,8]),(3,[2,3,4,7,8,9]),(4,[2,3,4,7,42]),(5,[6]),(6,[2,3,4,10,11]),(7,[2,3,4,10,11,12,13]),(8,[2,3,4,10,11,12,13,14,15,16]),(9,[3,4,10,11,12,13,14,15,16,17,18,19]),(10,[3,4,10,11,12,13,15,16,18,19,20]),(11,[3,4,10,11,12,13,15,16,18,19,20,21]),(12,[3,4,10,11,12,13,15,16,18,19,20,21,22]),(13,[6])],dec:=[30,34,38,79,84,87,92,97,103,110] }
def qgp (N:Nat):List Ent:=[qvO,qdg N,qoA N,Yc N,quJ N,qdi N,WT N,Va N,qi9 N,qlC N,qsu N,qb8 N]
theorem qeC (N:Nat):qT Tryz.prog (qgp N):=⟨qAA,qjP N,qr1 N,qb9 N,qAS N,qj3 N,qbZ N,WQ N,qlA N,qpm N,qzQ N,qib N,trivial⟩
def qf0 (z:Bool):TV×THp:=(xb z,[])
def VD (N:Nat) (a0:qb) (a1:qb) (a2:List UInt8):Tree (Bool):=
 .bind (qvL) fun r1=>
 .bind (Qa N a0) fun r2=>
 .bind (Qa N a1) fun r3=>
 .cond (!r1) (
 .ret r1) <|
 .cond (!r2) (
 .ret r1) <|
 .cond (!r3) (
 .ret r1) <|
 .cond (decide (((600:Int)) < ((a2.length:Nat):Int))) (
 .ret r1) <|
 .bind (qlg N a0) fun r4=>
 .bind (JH N a0) fun r5=>
 .bind (qpc N a2) fun r6=>
 .bind (X_ N a2) fun r7=>
 .bind (Q6 N r6.1 r7.1) fun r8=>
 .bind (zq N a0) fun r9=>
 .bind (Q6 N a0 a1) fun r10=>
 .cond (decide (r4.1=r5.1)) (
 .cond (eqE .b r4.2 r5.2) (
 .cond r8 (
 .cond (decide (r6.2.1=r7.2.1)) (
 .cond (eqE .b r6.2.2 r7.2.2) (
 .bind (J_ N a0) fun r11=>
 .cond (eqE .b r11 r9) (
 .bind (qhA N a0 a1) fun r12=>
 .cond (eqE .b r12 r10) (
 .bind (qmW N a0) fun r13=>
 .bind (V2 N a0) fun r14=>
 .ret (decide (r13=r14))) <|
 .ret false) <|
 .ret false) <|
 .ret false) <|
 .ret false) <|
 .ret false) <|
 .ret false) <|
 .ret false
def vr (N:Nat) (a0:qb) (a1:qb) (a2:List UInt8):Option (Bool):=(VD N a0 a1 a2).run some
def qfW (N:Nat):List (Nat×qy):=[]
theorem qeI (N:Nat):qmy Tryz.prog ⟨3,[],[.x qF,.x qF,.x .bl],[],[]⟩ [qF,qF,.bl] (fun x=>VD N x.1 x.2.1 x.2.2.1) (fun _=>qf0):=
 qhH (H:=qgi) (L:=qP (qfW N)) 0 qEP (qeC N) (qz (by kernel_rfl) trivial) (rg0 (by kernel_rfl)) fun x=>by kernel_rfl
end Go.Rx
end
set_option maxRecDepth 100000
noncomputable section
namespace Go.Rx
open Go.Proofs
abbrev XM (q:Nat→Bool) (n:Nat):Bool:=qvU q n 0
theorem VB {q:Nat→Bool} {n:Nat}:XM q n=true↔∀ j,j < n→q j=true:=by
 unfold XM; rw [qvi]
 exact ⟨fun h j hj=>h j (Nat.zero_le _) (by omega),fun h j _ hj=>h j (by omega)⟩
theorem qA0 {p q:Nat→Bool} {n:Nat} (h:YW p n 0=none) (hq:∀ j,j < n→p j=!q j):XM q n=true:=
 VB.2 fun j hj=>by
  have:=qnl h j (Nat.zero_le _) (by omega)
  rw [hq j hj] at this; simpa using this
theorem qAF {p q:Nat→Bool} {n i:Nat} (h:YW p n 0=some i) (hq:∀ j,j < n→p j=!q j):XM q n=false:=by
 obtain ⟨h1,_,h2,_⟩:=qnn h
 cases e:XM q n with
 | false=>rfl
 | true=>
  have:=VB.1 e i (by omega)
  rw [hq i (by omega),this] at h1; simp at h1
theorem qlu {α Y : Type} {B : Int → Tree (Int ⊕ (α ⊕ (Int × Bool)))} {g : α ⊕ (Int × Bool) → Option Y} {q : Nat → Bool} {n : Nat} {hit : α}
    (h1:∀ k,k < n→(B (k:Int)).run some=some (if q k then .inl ((k + 1:Nat):Int) else .inr (.inl hit))) (h2:(B (n:Int)).run some=some (.inr (.inr (((n:Nat):Int),false)))) {N:Nat} (hN:n < N) :
    zj B g N ((0:Nat):Int)=g (if XM q n then .inr (((n:Nat):Int),false) else .inl hit):=by
 rw [qr3 (p:=fun k=>!q k) (hit:=fun _=>.inl hit) (fin:=.inr (((n:Nat):Int),false)) (n:=n) (fun k hk=>by rw [h1 k hk]; cases q k<;>rfl) h2 N 0 (Nat.zero_le _) (by omega),Nat.sub_zero]
 cases e:YW (fun k=>!q k) n 0 with
 | none=>rw [qA0 e fun _ _=>rfl]; rfl
 | some i=>rw [qAF e fun _ _=>rfl]; rfl
theorem qau {α:Type} {d:α} {l:List α} {k:Nat} (h:k < l.length):l.take (k + 1)=l.take k++[l.getD k d]:=by
 rw [List.take_succ_eq_append_getElem h,List.getD_eq_getElem?_getD,List.getElem?_eq_getElem h]; rfl
class JV (N:Nat):Prop where
 h:100000≤N
theorem JV.of {N:Nat} (h:100000≤N):JV N:=⟨h⟩
theorem big (N:Nat) [JV N]:100000≤N:=JV.h
abbrev zSt:qd:=((0:Int),(0:Int))
def stB (a:qd):Bool:=decide (a=zSt)||(decide (0 < a.1)&&decide (a.1≤1099511627776)&&decide (0≤a.2)&&decide (a.2 < 8))
theorem qyX (a b:qd):eqE qB a b=decide (a=b):=Bool.eq_iff_iff.2 ((J1 qB a b).trans (decide_eq_true_iff (p:=(a:Int×Int)=b)).symm)
theorem qzB (a b:Vector UInt8 16):eqE (.ba 16) a b=decide (a=b):=Bool.eq_iff_iff.2 ((J1 (.ba 16) a b).trans (decide_eq_true_iff (p:=(a:Vector UInt8 16)=b)).symm)
theorem qoD (a:qd):Yw a=some (stB a):=by
 unfold Yw qgx
 have e:=qyX a (qd.mk 0 0)
 simp only [Tree.run,e]
 show (bif decide (a=zSt) then _ else _)=some (decide (a=zSt)||_)
 cases decide (a=zSt) with
 | true=>rfl
 | false=>
  show (bif decide (0 < a.1) then _ else _)=_
  cases decide (0 < a.1) with
  | false=>rfl
  | true=>
   show (bif decide (a.1≤1099511627776) then _ else _)=_
   cases decide (a.1≤1099511627776) with
   | false=>rfl
   | true=>
    show (bif decide (0≤a.2) then _ else _)=_
    cases decide (0≤a.2)<;>rfl
end Go.Rx
end
set_option maxRecDepth 100000
noncomputable section
namespace Go.Rx
open Go.Proofs
abbrev zP:qa:=(false,0,0,[])
def inP (a lo hi:Int):Bool:=decide (lo≤a)&&decide (a≤hi)
def jC (p:qa):Bool:=bif p.zg then inP p.zi 0 200&&inP p.Len 1 200&&decide (p.Lit=[]) else decide (p=(false,0,0,p.Lit))&&inP (p.Lit.length:Nat) 1 200
theorem qtZ (a b:qa):eqE ql a b=decide (a=b):=Bool.eq_iff_iff.2 ((J1 ql a b).trans (decide_eq_true_iff (p:=(a:Bool×Int×Int×List UInt8)=b)).symm)
theorem qvf (a lo hi:Int):qcw a lo hi=some (inP a lo hi):=by
 unfold qcw qi1 inP
 exact zl rfl (fun h=>qi (by rw [h]; rfl)) fun h=>qi (by rw [h]; rfl)
theorem qD8 (p:qa):qfM p=some (jC p):=by
 unfold qfM qgT jC
 refine zl rfl (fun h=>?_) fun h=>?_
 ·rw [h]
  refine qe (qvf _ _ _) <| zl rfl (fun h1=>?_) fun h1=>qi (by rw [h1]; rfl)
  refine qe (qvf _ _ _) <| zl rfl (fun h2=>?_) fun h2=>qi (by rw [h1,h2]; rfl)
  exact qi (by rw [h1,h2]; rfl)
 ·rw [h]
  exact zl (qtZ _ _) (fun h1=>qe (qvf _ _ _) (qi (by rw [show decide (p=(false,0,0,p.Lit))=true from h1]; rfl))) fun h1=>qi (by rw [show decide (p=(false,0,0,p.Lit))=false from h1]; rfl)
def WS (l:List qa) (k:Nat):Int:=((l.take k).map fun p=>p.Len + ((p.Lit.length:Nat):Int)).sum
def jj (l:List qa):Bool:=XM (fun k=>jC (l.getD k zP)) l.length&&decide (l.length≤60)&&decide (WS l l.length≤200)
theorem qkC {l:List qa} {k:Nat} (h:k < l.length):WS l (k + 1)=WS l k + ((l.getD k zP).Len + (((l.getD k zP).Lit.length:Nat):Int)):=by
 unfold WS
 rw [qau (d:=zP) h,List.map_append,List.sum_append]; simp
theorem qkQ {p:qa} (h:jC p=true):0≤p.Len + ((p.Lit.length:Nat):Int)∧p.Len + ((p.Lit.length:Nat):Int)≤200∧0≤p.Len:=by
 unfold jC inP at h
 cases e:p.zg with
 | true=>
  rw [e,cond_true] at h
  simp only [Bool.and_eq_true,decide_eq_true_eq] at h
  obtain ⟨⟨_,h1,h2⟩,h3⟩:=h
  rw [h3]; simp only [List.length_nil]; omega
 | false=>
  rw [e,cond_false] at h
  simp only [Bool.and_eq_true,decide_eq_true_eq] at h
  obtain ⟨h1,h2,h3⟩:=h
  have:p.Len=0:=by rw [h1]; rfl
  omega
theorem qrR {l:List qa}:∀ {k:Nat},k≤l.length→(∀ j,j < k→jC (l.getD j zP)=true)→0≤WS l k∧WS l k≤200 * (k:Int)
 | 0,_,_=>by unfold WS; simp
 | k + 1,hk,h=>by
  have h1:=qrR (k:=k) (by omega) fun j hj=>h j (by omega)
  have h2:=qkQ (h k (by omega))
  rw [qkC (by omega)]; omega
theorem qiw {V W Y : Type} {B : V → Tree (V ⊕ W)} {g : W → Option Y} {at_ : Nat → V} {q : Nat → Bool} {n : Nat} {hit fin : W}
    (h1:∀ k,k < n→(∀ j,j < k→q j=true)→(B (at_ k)).run some=some (if q k then .inl (at_ (k + 1)) else .inr hit)) (h2:(B (at_ n)).run some=some (.inr fin)) :
    ∀ (m k:Nat),k + m=n→∀ N,m < N→(∀ j,j < k→q j=true)→zj B g N (at_ k)=g (if XM q n then fin else hit)
 | 0,k,hk,N + 1,_,hq=>by
  obtain rfl:k=n:=by omega
  rw [qa8 h2,if_pos (VB.2 hq)]
 | m + 1,k,hk,N + 1,hN,hq=>by
  have h:=h1 k (by omega) hq
  cases e:q k with
  | true=>
   rw [e,if_pos rfl] at h
   rw [qfN h]
   exact qiw h1 h2 m (k + 1) (by omega) N (by omega) fun j hj=>by
    by_cases ej:j=k
    ·rw [ej]; exact e
    ·exact hq j (by omega)
  | false=>
   rw [e,if_neg (by simp)] at h
   rw [qa8 h,if_neg (fun ha=>by have:=VB.1 ha k (by omega); rw [e] at this; cases this)]
 | _,_,_,0,hN,_=>by omega
section
variable {N:Nat} [JV N]
theorem qz5 {l : List qa} (hl : l.length < N) (hl2 : l.length ≤ 1000000000000000) :
    qel N l l ((l.length:Nat):Int) 0 0=some (if XM (fun k=>jC (l.getD k zP)) l.length then .inr (WS l l.length,((l.length:Nat):Int),false) else .inl ()):=by
 refine (qiw (B:=Y1 N l l ((l.length:Nat):Int)) (g:=some) (at_:=fun k=>(WS l k,(k:Int))) (q:=fun k=>jC (l.getD k zP)) (n:=l.length) (hit:=.inl ()) (fin:=.inr (WS l l.length,((l.length:Nat):Int),false)) (fun k hk hq=>?_) ?_ l.length 0 (by omega) N (by omega) (fun j hj=>by omega)).trans ?_
 ·unfold Y1
  refine w_t (dec_lt hk) <| qe (Zn (d:=zP) hk) <| qe (qD8 _) <| zl rfl (fun h=>?_) fun h=>?_
  ·have h':jC (l.getD k zP)=false:=by rw [Bool.not_eq_true'] at h; exact h
   rw [h']; exact qi rfl
  ·have h':jC (l.getD k zP)=true:=by rw [Bool.not_eq_false'] at h; exact h
   have h1:=qrR (k:=k) (Nat.le_of_lt hk) hq
   have h2:=qkQ h'
   rw [h']
   refine qk (show qf ((l.getD k zP).Len + (((l.getD k zP).Lit.length:Nat):Int)) by unfold qf; omega) <| qk (show qf (WS l k + ((l.getD k zP).Len + (((l.getD k zP).Lit.length:Nat):Int))) by unfold qf; omega) <| qk (jY (by omega)) <| qi ?_
   rw [if_pos rfl,qkC hk,jN]
 ·unfold Y1
  exact w_f (ju (Nat.lt_irrefl _)) (qi (by rw [ju (Nat.lt_irrefl _)]))
 ·split<;>rfl
theorem qkP {l:List qa} (hl:l.length < N) (hl2:l.length≤1000000000000000):qa0 N l=some (jj l):=by
 unfold qa0 qgK jj
 refine qe (qz5 hl hl2) ?_
 cases XM (fun k=>jC (l.getD k zP)) l.length with
 | false=>rfl
 | true=>
  refine w_r rfl <| zl (c:=decide (l.length≤60)) (decide_eq_decide.2 (by omega)) (fun h=>qi ?_) fun h=>qi ?_
  ·rw [h]; rfl
  ·rw [h]; rfl
end
section
variable {N:Nat}
theorem qBF {l m : List qa} (hl : l.length < N) (hm : m.length = l.length) (hl2 : l.length ≤ 1000000000000000) :
    XA N l m ((l.length:Nat):Int) 0=some (if XM (fun k=>decide (l.getD k zP=m.getD k zP)) l.length then .inr (((l.length:Nat):Int),false) else .inl ()):=by
 refine (qlu (B:=Zd N l m ((l.length:Nat):Int)) (g:=some) (q:=fun k=>decide (l.getD k zP=m.getD k zP)) (n:=l.length) (hit:=()) (fun k hk=>?_) ?_ hl)
 ·unfold Zd
  refine w_t (dec_lt hk) <| qe (Zn (d:=zP) hk) <| qe (Zn (d:=zP) (by omega)) <| zl rfl (fun h=>?_) fun h=>?_
  ·have h':decide (l.getD k zP=m.getD k zP)=false:=by rw [qtZ,Bool.not_eq_true'] at h; exact h
   rw [h']; exact qi rfl
  ·have h':decide (l.getD k zP=m.getD k zP)=true:=by rw [qtZ,Bool.not_eq_false'] at h; exact h
   rw [h']; exact qk (jY (by omega)) <| qi (by rw [jN]; rfl)
 ·unfold Zd
  exact w_f (ju (Nat.lt_irrefl _)) (qi (by rw [ju (Nat.lt_irrefl _)]))
theorem qjM {α:Type} {d:α} {l m:List α} (h:m.length=l.length) (hg:∀ k,k < l.length→l.getD k d=m.getD k d):l=m:=by
 refine List.ext_getElem h.symm fun i h1 h2=>?_
 have:=hg i h1
 rw [List.getD_eq_getElem?_getD,List.getD_eq_getElem?_getD,List.getElem?_eq_getElem h1,List.getElem?_eq_getElem h2] at this
 exact this
theorem qDJ {l m:List qa} (hl:l.length < N) (hl2:l.length≤1000000000000000):qdR N l m=some (decide (l=m)):=by
 have e:Vn N l m=some (decide (l=m)):=by
  unfold Vn XD
  by_cases hm:m.length=l.length
  ·refine w_f (by rw [decide_eq_true (by omega)]; rfl) <| qe (qBF hl hm hl2) ?_
   cases e:XM (fun k=>decide (l.getD k zP=m.getD k zP)) l.length with
   | true=>
    have:l=m:=qjM hm fun k hk=>of_decide_eq_true (VB.1 e k hk)
    exact w_r rfl (qi (by rw [decide_eq_true this]))
   | false=>
    have:¬ l=m:=fun h=>by
     rw [VB.2 (fun k _=>by rw [h]; exact decide_eq_true rfl)] at e; cases e
    exact w_l rfl (qi (by rw [decide_eq_false this]))
  ·exact w_t (by rw [decide_eq_false (by omega)]; rfl) (qi (by rw [decide_eq_false (fun h=>hm (by rw [h]))]))
 unfold qdR qeJ
 exact qe e (qi rfl)
theorem qFC (a b:Vector UInt8 32):eqE (.ba 32) a b=decide (a=b):=Bool.eq_iff_iff.2 ((J1 (.ba 32) a b).trans (decide_eq_true_iff (p:=(a:Vector UInt8 32)=b)).symm)
theorem qsv {a b:qb} (hl:(qb.P a).length < N) (hl2:(qb.P a).length≤1000000000000000):qhA N a b=some (decide (a=b)):=by
 unfold qhA qlY
 have no:∀ {p:Prop} [Decidable p],(a=b→p)→decide p=false→some false=some (decide (a=b)):=fun hp h=>by rw [decide_eq_false (fun e=>of_decide_eq_false h (hp e))]
 refine zl (qzB _ _) (fun h1=>?_) fun h1=>qi (no (fun e=>by rw [e]) h1)
 refine zl (qzB _ _) (fun h2=>?_) fun h2=>qi (no (fun e=>by rw [e]) h2)
 refine zl rfl (fun h3=>?_) fun h3=>qi (no (fun e=>by rw [e]) h3)
 refine zl rfl (fun h4=>?_) fun h4=>qi (no (fun e=>by rw [e]) h4)
 refine zl rfl (fun h5=>?_) fun h5=>qi (no (fun e=>by rw [e]) h5)
 refine zl (qyX _ _) (fun h6=>?_) fun h6=>qi (no (fun e=>by rw [e]) h6)
 refine zl rfl (fun h7=>?_) fun h7=>qi (no (fun e=>by rw [e]) h7)
 refine zl (qFC _ _) (fun h8=>?_) fun h8=>qi (no (fun e=>by rw [e]) h8)
 refine qe (qDJ hl hl2) <| qi ?_
 have key:qb.P a=qb.P b↔a=b:=by
  obtain ⟨a1,a2,a3,a4,a5,a6,a7,a8,a9⟩:=a
  obtain ⟨b1,b2,b3,b4,b5,b6,b7,b8,b9⟩:=b
  have e1:a2=b2:=of_decide_eq_true h1
  have e2:a7=b7:=of_decide_eq_true h2
  have e3:a4=b4:=of_decide_eq_true h3
  have e4:a8=b8:=of_decide_eq_true h4
  have e5:a1=b1:=of_decide_eq_true h5
  have e6:a3=b3:=of_decide_eq_true h6
  have e7:a5=b5:=of_decide_eq_true h7
  have e8:a9=b9:=of_decide_eq_true h8
  subst e1 e2 e3 e4 e5 e6 e7 e8
  exact ⟨fun h=>by have h:a6=b6:=h; rw [h],fun h=>by rw [h]⟩
 exact congrArg some (decide_eq_decide.2 key)
end
theorem qsj (a:Int):qc7 a=some (decide (0≤a)&&decide (a < 8)):=by
 unfold qc7 qgn
 exact zl rfl (fun h=>qi (by rw [h]; rfl)) fun h=>qi (by rw [h]; rfl)
end Go.Rx
end
set_option maxRecDepth 100000
noncomputable section
namespace Go.Rx
open Go.Proofs
abbrev zI:Vector UInt8 16:=Vector.replicate 16 0
abbrev zD:Vector UInt8 32:=Vector.replicate 32 0
def qmH (o:qb):qb:=
 if o.Kind=1 then .mk o.Kind o.ID o.S o.No o.V [] zI 0 zD
 else if o.Kind=2 then .mk o.Kind o.ID o.S o.No [] [] o.zi o.zk o.D
 else if o.Kind=3 then .mk o.Kind o.ID o.S o.No [] o.P zI 0 o.D
 else .mk o.Kind o.ID o.S 0 [] [] zI 0 zD
def qtY (a:Int):Bool:=decide (0≤a)&&decide (a < 8)
def opB (o:qb):Bool:=!decide (o.Kind < 0)&&!decide (4≤o.Kind)&&decide (o=qmH o)&&!decide (o.S=zSt)&&stB o.S&&qtY o.No&&qtY o.zk&&decide ((o.V.length:Int)≤200)&&jj o.P
theorem qd9 {o:qb}:opB o=true↔(0≤o.Kind∧o.Kind < 4)∧o=qmH o∧o.S≠zSt∧stB o.S=true∧(0≤o.No∧o.No < 8)∧(0≤o.zk∧o.zk < 8)∧o.V.length≤200∧jj o.P=true:=by
 unfold opB qtY
 simp only [Bool.and_eq_true,Bool.not_eq_true',decide_eq_false_iff_not,decide_eq_true_iff]
 constructor
 ·rintro ⟨⟨⟨⟨⟨⟨⟨⟨h1,h2⟩,h3⟩,h4⟩,h5⟩,h6⟩,h7⟩,h8⟩,h9⟩
  exact ⟨by omega,h3,h4,h5,h6,h7,by omega,h9⟩
 ·rintro ⟨h1,h3,h4,h5,h6,h7,h8,h9⟩
  exact ⟨⟨⟨⟨⟨⟨⟨⟨by omega,by omega⟩,h3⟩,h4⟩,h5⟩,h6⟩,h7⟩,by omega⟩,h9⟩
theorem qE3 (o:qb):qmG o=some (qmH o):=by
 unfold qmG qmr qmH
 refine zl rfl (fun h=>qi ?_) fun h=>zl rfl (fun h2=>qi ?_) fun h2=>zl rfl (fun h3=>qi ?_) fun h3=>qi ?_
 ·rw [if_pos (of_decide_eq_true h)]
 ·rw [if_neg (of_decide_eq_false h),if_pos (of_decide_eq_true h2)]
 ·rw [if_neg (of_decide_eq_false h),if_neg (of_decide_eq_false h2),if_pos (of_decide_eq_true h3)]
 ·rw [if_neg (of_decide_eq_false h),if_neg (of_decide_eq_false h2),if_neg (of_decide_eq_false h3)]
section
variable {N:Nat} [JV N]
theorem qnY {o:qb} (hl:(qb.P o).length < N) (hl2:(qb.P o).length≤1000000000000000):J_ N o=some (opB o):=by
 unfold J_ qoy opB
 refine zl rfl (fun h1=>qi (by rw [h1]; rfl)) fun h1=>?_
 refine zl rfl (fun h2=>qi (by rw [h1,h2]; rfl)) fun h2=>?_
 refine qe (qE3 o) <| qe (qsv hl hl2) ?_
 refine zl rfl (fun h3=>qi ?_) fun h3=>?_
 ·rw [Bool.not_eq_true'] at h3
  rw [h1,h2,h3]; rfl
 rw [Bool.not_eq_false'] at h3
 refine zl (qyX _ _) (fun h4=>qi ?_) fun h4=>?_
 ·have h4:decide (o.S=zSt)=true:=h4
  rw [h1,h2,h3,h4]; rfl
 have h4:decide (o.S=zSt)=false:=h4
 refine qe (qoD _) <| zl rfl (fun h5=>?_) fun h5=>qi (by rw [h1,h2,h3,h4,h5]; rfl)
 refine qe (qsj _) <| zl (show _=qtY o.No from rfl) (fun h6=>?_) fun h6=>qi (by rw [h1,h2,h3,h4,h5,h6]; rfl)
 refine qe (qsj _) <| zl (show _=qtY o.zk from rfl) (fun h7=>?_) fun h7=>qi (by rw [h1,h2,h3,h4,h5,h6,h7]; rfl)
 refine zl rfl (fun h8=>?_) fun h8=>qi (by rw [h1,h2,h3,h4,h5,h6,h7,h8]; rfl)
 exact qe (qkP hl hl2) <| qi (by rw [h1,h2,h3,h4,h5,h6,h7,h8]; rfl)
end
end Go.Rx
end
set_option maxRecDepth 100000
noncomputable section
namespace Go.Rx
open Go.Proofs
def XG (a:List (List UInt8)):Nat:=(a.map List.length).sum
theorem qlc (a:List (List UInt8)):a.flatten.length=XG a:=by unfold XG; rw [List.length_flatten]
theorem qAB {a:List (List UInt8)} {k:Nat} (h:k < a.length):XG (a.take (k + 1))=XG (a.take k) + (a.getD k []).length:=by
 unfold XG; rw [qau (d:=[]) h,List.map_append,List.sum_append]; simp
theorem qsy (a:List (List UInt8)) (k:Nat):XG (a.take k)≤XG a:=by
 have:XG a=XG (a.take k) + XG (a.drop k):=by
  unfold XG; rw [← List.sum_append,← List.map_append,List.take_append_drop]
 omega
section
variable {N:Nat}
theorem qBj {a : List (List UInt8)} (hN : a.length < N) (h : XG a ≤ 1000000000000) (ha : a.length ≤ 1000000000000) :
    Xx N a a ((a.length:Nat):Int) 0 0=some ((XG a:Int),((a.length:Nat):Int),false):=by
 refine ZX (σ:=Unit) (B:=Zj N a a ((a.length:Nat):Int)) (g:=some) (at_:=fun k _=>((XG (a.take k):Int),(k:Int))) (I:=fun _ _=>True) (f:=fun _ s=>s) (n:=a.length)
  (fin:=fun _=>((XG a:Int),((a.length:Nat):Int),false)) (fun k s hk _=>⟨?_,trivial⟩) (fun s _=>?_) N 0 () trivial (Nat.zero_le _) (by omega)
 ·have h1:=qAB hk
  have h2:=qsy a (k + 1)
  unfold Zj
  refine w_t (dec_lt hk) <| qe (Zn (d:=[]) hk) <| qk (show qf ((XG (a.take k):Int) + (((a.getD k []).length:Nat):Int)) by unfold qf; omega) <| w_f (decide_eq_false (by show ¬ ((XG (a.take k):Int) + (((a.getD k []).length:Nat):Int) < 0); omega)) <| qk (jY (by omega)) <| qi ?_
  rw [jN,h1,Int.natCast_add]; rfl
 ·unfold Zj
  exact w_f (ju (Nat.lt_irrefl _)) (qi (by rw [ju (Nat.lt_irrefl _),List.take_of_length_le (Nat.le_refl _)]))
theorem qyi {a : List (List UInt8)} (hN : a.length < N) (h : XG a ≤ 1000000000000) (ha : a.length ≤ 1000000000000) :
    vT N a ((a.length:Nat):Int) [] 0=some (a.flatten,((a.length:Nat):Int),false):=by
 refine ZX (σ:=Unit) (B:=QX N a ((a.length:Nat):Int)) (g:=some) (at_:=fun k _=>((a.take k).flatten,(k:Int))) (I:=fun _ _=>True) (f:=fun _ s=>s) (n:=a.length)
  (fin:=fun _=>(a.flatten,((a.length:Nat):Int),false)) (fun k s hk _=>⟨?_,trivial⟩) (fun s _=>?_) N 0 () trivial (Nat.zero_le _) (by omega)
 ·have eT:(a.take k).flatten++a.getD k []=(a.take (k + 1)).flatten:=by rw [qau (d:=[]) hk,List.flatten_append]; simp
  have hl:(a.take (k + 1)).flatten.length≤1000000000000:=by rw [qlc]; have:=qsy a (k + 1); omega
  unfold QX
  refine w_t (dec_lt hk) <| qe (Zn (d:=[]) hk) ?_
  show (Tree.chk (vq _ _ ((a.take k).flatten++a.getD k []).length 1) _).run some=_
  refine qk ⟨rfl,by rw [eT]; unfold qN; omega⟩ <| qk (jY (by omega)) <| qi ?_
  rw [jN,← eT]
 ·unfold QX
  exact w_f (ju (Nat.lt_irrefl _)) (qi (by rw [ju (Nat.lt_irrefl _),List.take_of_length_le (Nat.le_refl _)]))
theorem qDN {n:Nat} (h:n≤1000000000000):∃ z,XN (n:Int)=some z:=by
 unfold XN Yg
 by_cases h0:n=0
 ·exact ⟨_,w_f (decide_eq_false (by omega)) <| qk (by unfold qf; omega) <| w_f (decide_eq_false (by omega)) <| qi rfl⟩
 ·exact ⟨_,w_f (decide_eq_false (by omega)) <| qk (by unfold qf; omega) <| w_t (decide_eq_true (by omega)) <| qk ⟨by omega,by unfold qN; omega⟩ <| qi rfl⟩
theorem qr2 {a:List (List UInt8)} (hN:a.length < N) (h:XG a≤1000000000000) (ha:a.length≤1000000000000):zF N a=some a.flatten:=by
 obtain ⟨z,ez⟩:=qDN h
 unfold zF XI
 refine qe (qBj hN h ha) <| qe ez ?_
 have e:jh [(([]:List UInt8).length,0)] (vT N a ((a.length:Nat):Int) [] 0)=some (a.flatten,((a.length:Nat):Int),false):=(Vf rfl).trans (qyi hN h ha)
 cases z with
 | inl _=>exact w_l rfl <| qe e <| qk rfl <| qi rfl
 | inr _=>exact w_r rfl <| qe e <| qk rfl <| qi rfl
end
end Go.Rx
end
set_option maxRecDepth 100000
noncomputable section
namespace Go.Rx
end Go.Rx
end
set_option maxRecDepth 100000
noncomputable section
namespace Go.Rx
open Go.Proofs
end Go.Rx
end
set_option maxRecDepth 100000
noncomputable section
namespace Go.Rx
open Go.Proofs
theorem Zv (n:Int):inB (IntKind.u8.wrap n):=by
 unfold inB
 have:IntKind.u8.wrap n=n % 256:=by simp [IntKind.wrap,IntKind.bits,IntKind.signed]
 rw [this]; omega
theorem qqr (n:Nat):IntKind.u8.wrap ((n:Nat):Int)=((n % 256:Nat):Int):=by
 have:IntKind.u8.wrap ((n:Nat):Int)=((n:Nat):Int) % 256:=by simp [IntKind.wrap,IntKind.bits,IntKind.signed]
 rw [this]; omega
theorem qhP (n j:Nat):Jk ((n:Nat):Int) j=((n / 2 ^ j:Nat):Int):=by
 unfold Jk
 rw [show ((2:Int) ^ j)=((2 ^ j:Nat):Int) by push_cast; rfl,Int.fdiv_eq_ediv_of_nonneg _ (Int.natCast_nonneg _),← Int.natCast_ediv]
theorem qAU (a b:Int):inB (uOr .u8 a b):=Zv _
theorem qsw (a b:Int):inB (vL .u8 a b):=Zv _
end Go.Rx
end
set_option maxRecDepth 100000
noncomputable section
namespace Go.Rx
open Go.Proofs
theorem least {P:Nat→Prop} [DecidablePred P]:∀ n,P n→∃ K,K≤n∧P K∧∀ k < K,¬ P k
 | 0,h=>⟨0,Nat.le_refl _,h,fun k hk=>by omega⟩
 | n + 1,h=>by
  by_cases e:∃ j,j≤n∧P j
  ·obtain ⟨j,hj,pj⟩:=e
   obtain ⟨K,h1,h2,h3⟩:=least j pj
   exact ⟨K,by omega,h2,h3⟩
  ·exact ⟨n + 1,Nat.le_refl _,h,fun k hk pk=>e ⟨k,by omega,pk⟩⟩
 termination_by n=>n
 decreasing_by omega
theorem qz8 {x:Nat} (h:x < 18446744073709551616):∃ K,K≤9∧x / 128 ^ K < 128∧∀ k < K,128≤x / 128 ^ k:=by
 obtain ⟨K,h1,h2,h3⟩:=least (P:=fun k=>x / 128 ^ k < 128) 9 (by show x / 9223372036854775808 < 128; omega)
 exact ⟨K,h1,h2,fun k hk=>by have:=h3 k hk; omega⟩
theorem Vw (x k:Nat):x / 128 ^ k / 128=x / 128 ^ (k + 1):=by rw [Nat.div_div_eq_div_mul,Nat.pow_succ]
def hiB (x k:Nat):UInt8:=UInt8.ofNat (x / 128 ^ k % 128 + 128)
def loB (x:Nat):UInt8:=UInt8.ofNat (x % 128)
def dn (x:Nat):Nat→List UInt8
 | 0=>[loB x]
 | k + 1=>hiB x (k + 1)::dn x k
def cdn (x:Nat):Nat→List UInt8
 | 0=>[]
 | k + 1=>hiB x k::cdn x k
theorem ql5 (x:Nat):∀ k,(dn x k).length=k + 1
 | 0=>rfl
 | k + 1=>by unfold dn; rw [List.length_cons,ql5 x k]
theorem qbb (x:Nat):∀ k,(cdn x k).length=k
 | 0=>rfl
 | k + 1=>by unfold cdn; rw [List.length_cons,qbb x k]
theorem qrG (x:Nat):∀ k,(cdn x (k + 1)).set k (loB x)=dn x k
 | 0=>rfl
 | k + 1=>by
  show hiB x (k + 1)::(cdn x (k + 1)).set k (loB x)=_
  rw [qrG x k]; rfl
theorem qrC (x:Nat):∀ k,(cdn x (k + 1)).getD k 0=hiB x 0
 | 0=>rfl
 | k + 1=>by
  show (hiB x (k + 1)::cdn x (k + 1)).getD (k + 1) 0=_
  rw [List.getD_cons_succ]; exact qrC x k
section
variable {N:Nat} [JV N]
theorem qp5 {x K:Nat} (hK:K≤9) (h1:x / 128 ^ K < 128) (h2:∀ k < K,128≤x / 128 ^ k):K2 N (x:Int)=some ((K + 1:Nat):Int):=by
 have e7:∀ y:Nat,Jk ((y:Nat):Int) 7=((y / 128:Nat):Int):=fun y=>qhP y 7
 have key:qcq N ((x / 128 ^ 1:Nat):Int) 1=some (((x / 128 ^ (K + 1):Nat):Int),((K + 1:Nat):Int),false):=by
  refine (ZX (σ:=Unit) (B:=X9 N) (g:=some) (at_:=fun k _=>(((x / 128 ^ (k + 1):Nat):Int),((k + 1:Nat):Int))) (I:=fun _ _=>True) (f:=fun _ s=>s) (n:=K)
   (fin:=fun _=>(((x / 128 ^ (K + 1):Nat):Int),((K + 1:Nat):Int),false)) (fun k s hk _=>⟨?_,trivial⟩) (fun s _=>?_) N 0 () trivial (Nat.zero_le _) (by have:=big N; omega))
  ·have hb:=h2 k hk
   have d:decide ((0:Int) < ((x / 128 ^ (k + 1):Nat):Int))=true:=decide_eq_true (by rw [← Vw]; omega)
   have c1:qf (((k + 1:Nat):Int) + 1):=by unfold qf; omega
   unfold X9
   rw [qcf,d,cond_true,Qp,zJ c1,Qp,zJ (by omega),qcg,e7,Vw,jN]
  ·have d:decide ((0:Int) < ((x / 128 ^ (K + 1):Nat):Int))=false:=decide_eq_false (by rw [← Vw]; omega)
   unfold X9
   rw [qcf,d,cond_false,qcg]
 unfold K2 qdA
 rw [Qp,zJ (by omega),run_bind,e7]
 rw [Nat.pow_one] at key
 rw [key,Option.bind_some,qcg]
theorem qF0:∀ z < 256,uOr .u8 ((z:Nat):Int) 128=((z % 128 + 128:Nat):Int):=by decide +kernel
theorem qxB:∀ z < 128,vL .u8 ((z + 128:Nat):Int) 128=((z:Nat):Int):=by decide +kernel
theorem drop_set {l:List UInt8} {i:Nat} {c:UInt8} (h:i < l.length):(l.set i c).drop i=c::l.drop (i + 1):=by
 rw [List.drop_eq_getElem_cons (by rw [List.length_set]; exact h),List.getElem_set_self,List.drop_set_of_lt (by omega)]
theorem qxO {x r:Nat} (hr:r≤10):qcJ N (x:Int) (r:Int) r (r:Int) (List.replicate r 0) 0=some (cdn x r,(r:Int),false):=by
 have h:=qcj (B:=qak N (x:Int) (r:Int) r (r:Int)) (g:=some) (I:=fun v=>v.1.length=r∧∃ k:Nat,k≤r∧v.2=(k:Int)∧v.1.drop (r - k)=cdn x k) (Q:=fun y=>y=(cdn x r,(r:Int),false)) (fun v=>r - v.2.toNat) ?_ N (List.replicate r 0,0)
  ⟨by simp,0,Nat.zero_le _,rfl,by simp [cdn]⟩ (by have:=big N; simp; omega)
 ·obtain ⟨y,e,rfl⟩:=h
  exact e
 rintro ⟨l,v⟩ ⟨hl,k,hk,hv,hd⟩
 simp only at hl hv hd
 subst hv
 by_cases h:k < r
 ·left
  have c1:qf ((r:Int) - 1):=by unfold qf; omega
  have c2:qf ((r:Int) - 1 - (k:Int)):=by unfold qf; omega
  have c3:qf ((7:Int) * (k:Int)):=by unfold qf; omega
  have c4:(0:Int)≤(7:Int) * (k:Int):=by omega
  have c5:(0:Int)≤(r:Int) - 1 - (k:Int)∧(r:Int) - 1 - (k:Int) < ((r:Nat):Int):=by omega
  have c6:qbc l.length r ((r:Int) - 1 - (k:Int)).toNat:=⟨hl,by omega⟩
  have c7:qf ((k:Int) + 1):=by unfold qf; omega
  have hb:UInt8.ofNat (uOr .u8 (IntKind.u8.wrap (Jk ((x:Nat):Int) (min ((7:Int) * (k:Int)).toNat 64))) 128).toNat=hiB x k:=by
   rw [show min ((7:Int) * (k:Int)).toNat 64=7 * k by omega,qhP,qqr,qF0 _ (Nat.mod_lt _ (by omega)),Int.toNat_natCast,Nat.pow_mul,Nat.mod_mod_of_dvd _ (by decide)]
   rfl
  refine ⟨(l.set ((r:Int) - 1 - (k:Int)).toNat (hiB x k),((k + 1:Nat):Int)),?_,⟨?_,k + 1,h,rfl,?_⟩,?_⟩
  ·unfold qak
   rw [qcf,dec_lt h,cond_true,Qp,zJ c1,Qp,zJ c2,Qp,zJ c3,Qp,zJ c4]
   rw [← hb]
   show chk _ (chk _ (chk _ (chk _ _)))=_
   rw [zJ c5,zJ c6,zJ (qAU _ _),zJ c7,jN]
   rfl
  ·simp only [List.length_set]; exact hl
  ·show (l.set ((r:Int) - 1 - (k:Int)).toNat (hiB x k)).drop (r - (k + 1))=hiB x k::cdn x k
   rw [show ((r:Int) - 1 - (k:Int)).toNat=r - (k + 1) by omega,drop_set (by omega),show r - (k + 1) + 1=r - k by omega,hd]
  ·simp only [Int.toNat_natCast]; omega
 ·right
  obtain rfl:k=r:=by omega
  rw [Nat.sub_self,List.drop_zero] at hd
  refine ⟨(l,((k:Nat):Int),false),_,?_,rfl,by rw [hd]⟩
  unfold qak
  rw [qcf,ju (Nat.lt_irrefl k),cond_false,qcg]
theorem qCc {x K:Nat} (hK:K≤9) (h1:x / 128 ^ K < 128) (h2:∀ k < K,128≤x / 128 ^ k):YO N (x:Int)=some (dn x K,K + 1):=by
 have e1:=qp5 (N:=N) hK h1 h2
 have e2:=qxO (N:=N) (x:=x) (r:=K + 1) (by omega)
 have hrl:(List.replicate ((K + 1:Nat):Int).toNat (0:UInt8)).length=K + 1:=by simp
 have e3:qcJ N (x:Int) ((K + 1:Nat):Int) (List.replicate ((K + 1:Nat):Int).toNat (0:UInt8)).length ((K + 1:Nat):Int) (List.replicate ((K + 1:Nat):Int).toNat (0:UInt8)) 0=some (cdn x (K + 1),((K + 1:Nat):Int),false):=by
  rw [hrl]; exact e2
 have c1:qbd ((K + 1:Nat):Int) ((K + 1:Nat):Int) 1:=⟨rfl,by omega,by unfold qN; omega⟩
 have c2:qf (((K + 1:Nat):Int) - 1):=by unfold qf; omega
 have c3:(0:Int)≤((K + 1:Nat):Int) - 1∧((K + 1:Nat):Int) - 1 < ((K + 1:Nat):Int):=by omega
 have en:(((K + 1:Nat):Int) - 1).toNat=K:=by omega
 have hg:qe7 (cdn x (K + 1)) (K + 1) (((K + 1:Nat):Int) - 1).toNat=some (hiB x 0):=by
  rw [en,qAe (d:=0) (qbb x (K + 1)) (by rw [qbb]; omega),qrC]
 have c4:qbc (cdn x (K + 1)).length (K + 1) (((K + 1:Nat):Int) - 1).toNat:=⟨qbb _ _,by omega⟩
 have hb:UInt8.ofNat (vL .u8 (((hiB x 0).toNat:Nat):Int) 128).toNat=loB x:=by
  have:(hiB x 0).toNat=x % 128 + 128:=by
   unfold hiB
   rw [Nat.pow_zero,Nat.div_one,UInt8.toNat_ofNat_of_lt' (show x % 128 + 128 < UInt8.size by unfold UInt8.size; omega)]
  rw [this,qxB _ (Nat.mod_lt _ (by omega)),Int.toNat_natCast]
  rfl
 unfold YO qir
 rw [run_bind,e1,Option.bind_some,Qp,zJ c1,run_bind,e3,Option.bind_some,Qp,zJ c2,hrl,Qp,zJ c3,run_bind,hg,Option.bind_some]
 show chk _ (chk _ (chk _ _))=_
 rw [zJ c3,zJ c4,zJ (qsw _ _),← qrG,← hb,en]
 rfl
end
end Go.Rx
end
set_option maxRecDepth 100000
noncomputable section
namespace Go.Rx
open Go.Proofs
end Go.Rx
end
set_option maxRecDepth 100000
noncomputable section
namespace Go.Rx
open Go.Proofs
end Go.Rx
end
set_option maxRecDepth 100000
noncomputable section
namespace Go.Rx
open Go.Proofs
end Go.Rx
end
set_option maxRecDepth 100000
noncomputable section
namespace Go.Rx
open Go.Proofs
end Go.Rx
end
set_option maxRecDepth 100000
noncomputable section
namespace Go.Rx
open Go.Proofs
end Go.Rx
end
set_option maxRecDepth 100000
noncomputable section
namespace Go.Rx
open Go.Proofs
end Go.Rx
end
set_option maxRecDepth 100000
noncomputable section
namespace Go.Rx
open Go.Proofs
end Go.Rx
end
set_option maxRecDepth 100000
noncomputable section
namespace Go.Rx
open Go.Proofs
theorem jm {n:Nat} (h:n < 18446744073709551616):IntKind.u64.wrap ((n:Nat):Int)=((n:Nat):Int):=by
 have:IntKind.u64.wrap ((n:Nat):Int)=((n:Nat):Int) % 18446744073709551616:=by simp [IntKind.wrap,IntKind.bits,IntKind.signed]
 rw [this]; omega
end Go.Rx
end
set_option maxRecDepth 100000
noncomputable section
namespace Go.Rx
open Go.Proofs
end Go.Rx
end
set_option maxRecDepth 100000
noncomputable section
namespace Go.Rx
open Go.Proofs
end Go.Rx
end
set_option maxRecDepth 100000
noncomputable section
namespace Go.Rx
open Go.Proofs
section
variable {N:Nat} [JV N]
theorem quH {x K:Nat} (hx:x < 18446744073709551616) (hK:K≤9) (h1:x / 128 ^ K < 128) (h2:∀ k < K,128≤x / 128 ^ k):vK N [loB x] (x:Int)=some (dn x K,((x / 128 ^ K:Nat):Int),false):=by
 have key:vK N (dn x 0) ((x / 128 ^ 0:Nat):Int)=some (dn x K,((x / 128 ^ K:Nat):Int),false):=by
  refine (ZX (σ:=Unit) (B:=Jc N) (g:=some) (at_:=fun k _=>(dn x k,((x / 128 ^ k:Nat):Int))) (I:=fun _ _=>True) (f:=fun _ s=>s) (n:=K)
   (fin:=fun _=>(dn x K,((x / 128 ^ K:Nat):Int),false)) (fun k s hk _=>⟨?_,trivial⟩) (fun s _=>?_) N 0 () trivial (Nat.zero_le _) (by have:=big N; omega))
  ·have hb:=h2 k hk
   have d:decide ((128:Int)≤((x / 128 ^ k:Nat):Int))=true:=decide_eq_true (by omega)
   have p:(128:Int)≠0:=by omega
   have hlt:x / 128 ^ (k + 1) < 18446744073709551616:=Nat.lt_of_le_of_lt (Nat.div_le_self _ _) hx
   have e1:IntKind.u64.wrap ((((x / 128 ^ k:Nat):Int)).tdiv 128)=((x / 128 ^ (k + 1):Nat):Int):=by
    show IntKind.u64.wrap (((x / 128 ^ k / 128:Nat):Int))=_
    rw [Vw,jm hlt]
   have e2:UInt8.ofNat (Q_ .u8 (IntKind.u8.wrap ((((x / 128 ^ (k + 1):Nat):Int)).tmod 128)) 128).toNat=hiB x (k + 1):=by
    show UInt8.ofNat (IntKind.u8.wrap (IntKind.u8.wrap (((x / 128 ^ (k + 1) % 128:Nat):Int)) + 128)).toNat=_
    have hm:x / 128 ^ (k + 1) % 128 < 128:=Nat.mod_lt _ (by omega)
    rw [qqr,Nat.mod_eq_of_lt (by omega),show (((x / 128 ^ (k + 1) % 128:Nat):Int)) + 128=((x / 128 ^ (k + 1) % 128 + 128:Nat):Int) by omega,qqr,Nat.mod_eq_of_lt (by omega),Int.toNat_natCast]
    rfl
   have c1:vq ([hiB x (k + 1)]:List UInt8).length 1 ([hiB x (k + 1)]++dn x k).length 1:=⟨rfl,by rw [List.length_append,ql5]; unfold qN; simp; omega⟩
   unfold Jc
   rw [qcf,d,cond_true,Qp,zJ p,Qp,zJ p]
   dsimp only
   rw [e1,Qp,zJ (show inB (Q_ .u8 (IntKind.u8.wrap ((((x / 128 ^ (k + 1):Nat):Int)).tmod 128)) 128) from Zv _),e2,Qp,zJ (Eq.refl (dn x k).length),Qp,zJ c1,qcg]
   rfl
  ·have d:decide ((128:Int)≤((x / 128 ^ K:Nat):Int))=false:=decide_eq_false (by omega)
   unfold Jc
   rw [qcf,d,cond_false,qcg]
 rw [Nat.pow_zero,Nat.div_one] at key
 exact key
theorem qB8 {x K:Nat} (hx:x < 18446744073709551616) (hK:K≤9) (h1:x / 128 ^ K < 128) (h2:∀ k < K,128≤x / 128 ^ k):zf N (x:Int)=some (dn x K):=by
 have p:(128:Int)≠0:=by omega
 have e:UInt8.ofNat (IntKind.u8.wrap ((x:Int).tmod 128)).toNat=loB x:=by
  show UInt8.ofNat (IntKind.u8.wrap (((x % 128:Nat):Int))).toNat=_
  rw [qqr,Nat.mod_eq_of_lt (show x % 128 < 256 by omega),Int.toNat_natCast]
  rfl
 unfold zf Yj
 rw [Qp,zJ p,Qp,zJ (Zv _),e,run_bind,show jh [(([loB x]:List UInt8).length,1)] (vK N [loB x] (x:Int))=vK N [loB x] (x:Int) from (Vf rfl).trans (YQ _),quH hx hK h1 h2,Option.bind_some,qcg]
end
end Go.Rx
end
set_option maxRecDepth 100000
noncomputable section
namespace Go.Rx
open Go.Proofs
theorem qqY (a:qd):v_ a=some (stB a):=by
 have ez:decide (a=zSt)=(decide (a.1=0)&&decide (a.2=0)):=by
  obtain ⟨n,r⟩:=a
  rw [← Bool.decide_and]
  refine decide_eq_decide.2 ⟨fun h=>?_,fun h=>?_⟩
  ·have h1:=congrArg Prod.fst h
   have h2:=congrArg Prod.snd h
   exact ⟨h1,h2⟩
  ·obtain ⟨rfl,rfl⟩:=h
   rfl
 unfold v_ YK stB
 rw [ez]
 show (bif decide (a.1=0) then some (decide (a.2=0)) else bif decide (1≤a.1) then bif decide (a.1≤1099511627776) then bif decide (0≤a.2) then some (decide (a.2 < 8)) else some false else some false else some false)=_
 rw [show decide (1≤a.1)=decide (0 < a.1) from decide_eq_decide.2 (by omega)]
 by_cases h0:a.1=0
 ·rw [h0]; cases decide (a.2=0)<;>rfl
 ·rw [decide_eq_false h0]
  cases decide (0 < a.1)<;>cases decide (a.1≤1099511627776)<;>cases decide (0≤a.2)<;>cases decide (a.2 < 8)<;>rfl
end Go.Rx
end
set_option maxRecDepth 100000
noncomputable section
namespace Go.Rx
open Go.Proofs
end Go.Rx
end
set_option maxRecDepth 100000
noncomputable section
namespace Go.Rx
open Go.Proofs
section
variable {N:Nat} [JV N]
theorem qlz {s:qd} (h:stB s=true):0≤s.1∧s.1≤1099511627776∧0≤s.2∧s.2 < 8:=by
 unfold stB at h
 by_cases hz:s=zSt
 ·subst hz
  exact ⟨Int.le_refl _,by decide,Int.le_refl _,by decide⟩
 ·rw [decide_eq_false hz] at h
  simp only [Bool.false_or,Bool.and_eq_true,decide_eq_true_iff] at h
  omega
theorem qFX {s:qd} (h:stB s=true):uOr .u64 (WU .u64 (IntKind.u64.wrap s.1) 3) (IntKind.u64.wrap s.2)=IntKind.u64.wrap ((8:Int) * s.1 + s.2):=by
 obtain ⟨n,r⟩:=s
 obtain ⟨h0,h1,h2,h3⟩:=qlz h
 dsimp only at h0 h1 h2 h3 ⊢
 obtain ⟨x,rfl⟩:∃ x:Nat,n=(x:Int):=⟨n.toNat,by omega⟩
 obtain ⟨y,rfl⟩:∃ y:Nat,r=(y:Int):=⟨r.toNat,by omega⟩
 rw [jm (by omega),jm (by omega),show (8:Int) * (x:Int) + (y:Int)=((8 * x + y:Nat):Int) by omega,jm (by omega)]
 unfold WU
 rw [show ((x:Nat):Int) * 2 ^ 3=((8 * x:Nat):Int) by omega,jm (by omega)]
 refine (u64_or_nat (8 * x) y (by omega) (by omega)).trans ?_
 rw [show 8 * x=2 ^ 3 * x by omega,← Nat.two_pow_add_eq_or_of_lt (by omega)]
end
end Go.Rx
end
set_option maxRecDepth 100000
noncomputable section
namespace Go.Rx
open Go.Proofs
open Go.Lib (compareBytes)
end Go.Rx
end
set_option maxRecDepth 100000
noncomputable section
namespace Go.Rx
open Go.Proofs
end Go.Rx
end
set_option maxRecDepth 100000
noncomputable section
namespace Go.Rx
open Go.Proofs
end Go.Rx
end
set_option maxRecDepth 100000
noncomputable section
namespace Go.Rx
open Go.Proofs
end Go.Rx
end
set_option maxRecDepth 100000
noncomputable section
namespace Go.Rx
open Go.Proofs
theorem qsq {α:Type} {d:α} {l:List α} {k:Nat} (h:k < l.length):l.drop k=l.getD k d::l.drop (k + 1):=by
 rw [List.drop_eq_getElem_cons h,List.getD_eq_getElem?_getD,List.getElem?_eq_getElem h]; rfl
end Go.Rx
end
