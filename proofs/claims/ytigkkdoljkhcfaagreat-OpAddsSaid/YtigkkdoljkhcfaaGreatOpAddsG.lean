/- A part of the proof of OpAdds: the law returns true for every input, and its arguments read as before. No condition. -/
import Derived.Test.YtigkkdoljkhcfaaGreatOpAddsF
set_option linter.unusedSimpArgs false
set_option linter.unusedVariables false
set_option linter.unusedSectionVars false
set_option maxRecDepth 100000
noncomputable section
namespace Go.Rx
open Go.Proofs
section n
variable {N:Nat} [Q0 N]
def qKq:Option Nat→Int
 | some i=>(i:Int)
 | none=>-1
theorem qk2 {p:Nat→Bool} {n i:Nat} (h:Jo p n 0=some i):i < n∧p i=true:=by
 obtain ⟨h1,_,h2,_⟩:=qgr h
 exact ⟨by omega,h1⟩
end n
end Go.Rx
end
set_option maxRecDepth 100000
noncomputable section
namespace Go.Rx
open Go.Proofs
section n
variable {N:Nat} [Q0 N]
theorem qJl (r:qa):∃ b,Qx N r=some b:=by
 unfold Qx YA
 by_cases h:r.F.length≤12
 ·have d:decide ((12:Int) < ((r.F.length:Nat):Int))=false:=decide_eq_false (by omega)
  have key:WJ N r 0=some (if Qw (fun k=>decide ((r.F.getD k zF).C.V.length≤300)) r.F.length then .inr (((r.F.length:Nat):Int),false) else .inl ()):=by
   refine XH (B:=Jf N r) (g:=some) (q:=fun k=>decide ((r.F.getD k zF).C.V.length≤300)) (fun k hk=>?_) ?_ (by have:=big N; omega)
   ·unfold Jf
    have e:decide ((300:Int) < (((r.F.getD k zF).C.V.length:Nat):Int))=!decide ((r.F.getD k zF).C.V.length≤300):=qIo (c:=300)
    rw [qJ,dec_lt hk,cond_true,run_bind,jV (d:=zF) hk,Option.bind_some,qJ,qS,e,zA,qm (show qz ((k:Int) + 1) by unfold qz; omega),qS,zB]
    cases decide ((r.F.getD k zF).C.V.length≤300)<;>rfl
   ·unfold Jf
    rw [qJ,jt (Nat.lt_irrefl _),cond_false,qS]
  rw [qJ,d,cond_false,run_bind,key,Option.bind_some]
  cases Qw (fun k=>decide ((r.F.getD k zF).C.V.length≤300)) r.F.length
  ·exact ⟨_,rfl⟩
  ·exact ⟨_,rfl⟩
 ·have d:decide ((12:Int) < ((r.F.length:Nat):Int))=true:=decide_eq_true (by omega)
  exact ⟨false,by rw [qJ,d,cond_true,qS]⟩
theorem qJk (b:qb):∃ x,XY N b=some x:=by
 unfold XY YV
 by_cases h:b.R.length≤14
 ·have d:decide ((14:Int) < ((b.R.length:Nat):Int))=false:=decide_eq_false (by omega)
  have key:WO N b 0=some (if Qw (fun k=>(Qx N (b.R.getD k zR)).getD false) b.R.length then .inr (((b.R.length:Nat):Int),false) else .inl ()):=by
   refine XH (B:=ZW N b) (g:=some) (q:=fun k=>(Qx N (b.R.getD k zR)).getD false) (fun k hk=>?_) ?_ (by have:=big N; omega)
   ·obtain ⟨x,e⟩:=qJl (N:=N) (b.R.getD k zR)
    unfold ZW
    rw [qJ,dec_lt hk,cond_true,run_bind,jV (d:=zR) hk,Option.bind_some,run_bind,e,Option.bind_some,qJ,qS,zA,qm (show qz ((k:Int) + 1) by unfold qz; omega),qS,zB]
    cases x<;>rfl
   ·unfold ZW
    rw [qJ,jt (Nat.lt_irrefl _),cond_false,qS]
  rw [qJ,d,cond_false,run_bind,key,Option.bind_some]
  cases Qw (fun k=>(Qx N (b.R.getD k zR)).getD false) b.R.length
  ·exact ⟨_,rfl⟩
  ·exact ⟨_,rfl⟩
 ·have d:decide ((14:Int) < ((b.R.length:Nat):Int))=true:=decide_eq_true (by omega)
  exact ⟨false,by rw [qJ,d,cond_true,qS]⟩
end n
theorem qtg:∀ l:List qa,∃ M:Nat,∀ k,k < l.length→(l.getD k zR).F.length≤M
 | []=>⟨0,fun k hk=>by simp at hk⟩
 | r::l=>by
  obtain ⟨M,h⟩:=qtg l
  refine ⟨r.F.length + M,fun k hk=>?_⟩
  cases k with
  | zero=>simp
  | succ k=>
   have:=h k (by simpa using hk)
   simp only [List.getD_cons_succ]; omega
theorem qKQ (b:qb) (h1:b.R.length≤4611686018427387904) (h2:∀ k,k < b.R.length→(b.R.getD k zR).F.length≤4611686018427387904):∃ M:Nat,∀ N,M≤N→jN N b:=by
 obtain ⟨M,h⟩:=qtg b.R
 refine ⟨M + b.R.length + 1,fun N hN=>⟨by omega,h1,fun k hk=>⟨by have:=h k hk; omega,h2 k hk⟩⟩⟩
end Go.Rx
end
set_option maxRecDepth 100000
noncomputable section
namespace Go.Rx
open Go.Proofs
def qsZ (l:List qa) (id:Vector UInt8 16):Option Nat:=Jo (fun k=>decide ((l.getD k zR).ID=id)) l.length 0
def qxj (l:List qc) (no:Int):Option Nat:=Jo (fun k=>decide ((l.getD k zF).No=no)) l.length 0
def recAt (b:qb) (id:Vector UInt8 16):qa×Bool:=match qsZ b.R id with
 | some i=>(b.R.getD i zR,true)
 | none=>(zR,false)
def cellAt (r:qa) (no:Int):qd×Bool:=match qxj r.F no with
 | some i=>((r.F.getD i zF).C,true)
 | none=>(qd.mk zSt [],false)
end Go.Rx
end
set_option maxRecDepth 100000
noncomputable section
namespace Go.Rx
open Go.Proofs
def cO (l:List qc) (no:Int):Option qd:=(l.find? fun f=>decide (f.No=no)).map fun f=>f.C
theorem qhv {no:Int}:cO [] no=none:=rfl
theorem Vi {f:qc} {l:List qc} {no:Int}:cO (f::l) no=if f.No=no then some f.C else cO l no:=by
 unfold cO
 rw [List.find?_cons]
 by_cases h:f.No=no
 ·rw [decide_eq_true h,if_pos h]; rfl
 ·rw [decide_eq_false h,if_neg h]
theorem qaK {l:List qc} {no:Int} {c:qd} (h:cO l no=some c):∃ f,f∈l∧f.No=no∧f.C=c:=by
 unfold cO at h
 obtain ⟨f,h1,h2⟩:=Option.map_eq_some_iff.1 h
 exact ⟨f,List.mem_of_find?_eq_some h1,of_decide_eq_true (List.find?_some (p:=fun f:qc=>decide (f.No=no)) h1),h2⟩
def jC:Option qd→Option qd→Option qd
 | some x,some y=>some (cJ x y)
 | some x,none=>some x
 | none,y=>y
def Vy (g:Int→Option qd) (f:qc) (no:Int):Option qd:=if f.No=no then jC (g no) (some f.C) else g no
theorem qxQ {g:Int→Option qd} {f:qc} {no:Int}:Vy g f no=if f.No=no then jC (g no) (some f.C) else g no:=rfl
theorem qse:∀ {l:List qc} {g:Int→Option qd} {no:Int},(l.map fun f=>f.No).Nodup→l.foldl Vy g no=jC (g no) (cO l no)
 | [],g,no,_=>by rw [qhv]; show g no=_; cases g no<;>rfl
 | f::l,g,no,h=>by
  rw [List.map_cons,List.nodup_cons] at h
  rw [List.foldl_cons,qse h.2,Vi]
  unfold Vy
  by_cases e:f.No=no
  ·rw [if_pos e,if_pos e]
   have:cO l no=none:=by
    cases hc:cO l no with
    | none=>rfl
    | some c=>
     obtain ⟨x,hx,hx2,_⟩:=qaK hc
     exact (h.1 (List.mem_map.2 ⟨x,hx,by rw [hx2,e]⟩)).elim
   rw [this]
   cases g no<;>rfl
  ·rw [if_neg e,if_neg e]
def YQ (no:Int) (M:List (Int×qd×Nat)):Option qd:=(fnd (β:=qd) (.i .i64) no M).map (·.1)
theorem qww {q k:Int} {p:qd} {c:Nat} {M:List (Int×qd×Nat)}:YQ q (QT (β:=qd) (.i .i64) k p c M).2=if q=k then some p else YQ q M:=by
 have:=@qo2 (El (.i .i64)) qd (JE (.i .i64)) k q p c M
 rw [show YQ q (QT (β:=qd) (.i .i64) k p c M).2=@qoM (El (.i .i64)) qd (JE (.i .i64)) q (@qeX (El (.i .i64)) qd (JE (.i .i64)) k p c M).2 from rfl,this]
 by_cases h:q=k
 ·rw [if_pos h]; exact if_pos h
 ·rw [if_neg h]; exact if_neg h
def qga (dead:qf) (k:Nat):Option qd→List qc
 | some c=>if slB dead c.S=true then [qc.mk (k:Int) c] else []
 | none=>[]
def Zf (g:Int→Option qd) (dead:qf):Nat→Nat→List qc
 | 0,_=>[]
 | m + 1,k=>qga dead k (g (k:Int))++Zf g dead m (k + 1)
theorem qk1 {g:Int→Option qd} {dead:qf}:∀ {m k:Nat} {s:List qc},VB (fun k s=>s++qga dead k (g (k:Int))) m k s=s++Zf g dead m k
 | 0,_,s=>by unfold VB Zf; rw [List.append_nil]
 | m + 1,k,s=>by
  unfold VB Zf
  rw [qk1,List.append_assoc]
theorem qt3 {dead:qf} {k:Nat} {c:Option qd}:(qga dead k c).length≤1:=by
 cases c with
 | none=>exact Nat.zero_le _
 | some c=>
  show (if slB dead c.S=true then [qc.mk (k:Int) c] else []).length≤1
  by_cases h:slB dead c.S=true
  ·rw [if_pos h]; exact Nat.le_refl _
  ·rw [if_neg h]; exact Nat.zero_le _
def rJ (a b:qa):qa:=qa.mk a.ID (mxS a.qX b.qX) (Zf (fun no=>jC (cO a.F no) (cO b.F no)) (mxS a.qX b.qX) 8 0)
theorem qxA {r:qa} (h:je r=true):(r.F.map fun f=>f.No).Nodup:=by
 have hlt:∀ (d a:Nat),a + d + 1 < r.F.length→(r.F.getD a zF).No < (r.F.getD (a + d + 1) zF).No:=by
  intro d
  induction d with
  | zero=>
   intro a ha
   have:=(VG.1 ((Wd.1 h).2.2 (a + 0 + 1) ha)).1
   rw [if_neg (by omega),show a + 0 + 1 - 1=a by omega] at this
   exact this
  | succ d ih=>
   intro a ha
   have h1:=ih a (by omega)
   have:=(VG.1 ((Wd.1 h).2.2 (a + (d + 1) + 1) ha)).1
   rw [if_neg (by omega),show a + (d + 1) + 1 - 1=a + d + 1 by omega] at this
   omega
 rw [List.nodup_iff_pairwise_ne,List.pairwise_iff_getElem]
 intro i j hi hj hij
 rw [List.length_map] at hi hj
 have:=hlt (j - i - 1) i (by omega)
 rw [show i + (j - i - 1) + 1=j by omega,List.getD_eq_getElem?_getD,List.getD_eq_getElem?_getD,List.getElem?_eq_getElem hi,List.getElem?_eq_getElem hj] at this
 rw [List.getElem_map,List.getElem_map]
 show r.F[i].No≠r.F[j].No
 have:r.F[i].No < r.F[j].No:=this
 omega
theorem qBv {r:qa} (h:je r=true):∀ k,k < r.F.length→qaj (r.F.getD k zF).C=true:=fun j hj=>(VG.1 ((Wd.1 h).2.2 j hj)).2.2.1
def qd3 (g:Int→Option qd):Prop:=∀ no c,g no=some c→c.V.length≤200
theorem qIu (a b:qd):cJ a b=a∨cJ a b=b:=by
 unfold cJ
 split
 ·exact .inr rfl
 ·exact .inl rfl
theorem qAS {g:Int→Option qd} {f:qc} (hg:qd3 g) (hf:f.C.V.length≤200):qd3 (Vy g f):=by
 intro no c h
 unfold Vy at h
 split at h
 ·cases e:g no with
  | none=>rw [e] at h; obtain rfl:=Option.some.inj h; exact hf
  | some x=>
   rw [e] at h
   obtain rfl:=Option.some.inj h
   rcases qIu x f.C with h1 | h1
   ·rw [h1]; exact hg no x e
   ·rw [h1]; exact hf
 ·exact hg no c h
end Go.Rx
end
set_option maxRecDepth 100000
noncomputable section
namespace Go.Rx
open Go.Proofs
open Go.Lib (compareBytes)
theorem qmf {a b c:Vector UInt8 16} (h1:lbB a b=true) (h2:lbB b c=true):lbB a c=true:=by
 rw [qm3] at *; exact qlY h1 h2
theorem qI1 (a b:Vector UInt8 16):(lbB a b=true∧lbB b a=false)∨a=b∨(lbB b a=true∧lbB a b=false):=by
 rw [qm3,qm3]
 rcases qes a.toList b.toList with h | h | h
 ·exact .inl h
 ·exact .inr (.inl (Vector.toList_inj.1 h))
 ·exact .inr (.inr h)
end Go.Rx
end
set_option maxRecDepth 100000
noncomputable section
namespace Go.Rx
open Go.Proofs
theorem qeZ {α:Type} {l:List α} {d:α} {P:α→Prop}:(∀ k,k < l.length→P (l.getD k d))↔∀ x∈l,P x:=by
 constructor
 ·intro h x hx
  obtain ⟨i,hi,rfl⟩:=List.getElem_of_mem hx
  have:=h i hi
  rw [List.getD_eq_getElem?_getD,List.getElem?_eq_getElem hi] at this
  exact this
 ·intro h k hk
  rw [List.getD_eq_getElem?_getD,List.getElem?_eq_getElem hk]
  exact h _ (List.getElem_mem hk)
theorem qf3 {α:Type} {R:α→α→Prop} (ht:∀ a b c,R a b→R b c→R a c) {d:α} {l:List α}:(∀ k,k + 1 < l.length→R (l.getD k d) (l.getD (k + 1) d))↔l.Pairwise R:=by
 have gd:∀ k (h:k < l.length),l.getD k d=l[k]:=fun k h=>by rw [List.getD_eq_getElem?_getD,List.getElem?_eq_getElem h]; rfl
 rw [List.pairwise_iff_getElem]
 constructor
 ·intro h i j hi hj hij
  have key:∀ m,∀ hm:i + m + 1 < l.length,R l[i] l[i + m + 1]:=by
   intro m
   induction m with
   | zero=>
    intro hm
    have:=h i hm
    rw [gd i hi,gd (i + 1) hm] at this; exact this
   | succ m ih=>
    intro hm
    have h1:=ih (by omega)
    have h2:=h (i + m + 1) hm
    rw [gd (i + m + 1) (by omega),gd (i + m + 1 + 1) hm] at h2
    exact ht _ _ _ h1 h2
  have:=key (j - i - 1) (by omega)
  have e:i + (j - i - 1) + 1=j:=by omega
  simp only [e] at this
  exact this
 ·intro h k hk
  rw [gd k (by omega),gd (k + 1) hk]
  exact h k (k + 1) (by omega) hk (by omega)
abbrev qio (l:List qc):Prop:=l.Pairwise fun f g=>f.No < g.No
theorem YS {r:qa}:je r=true↔stB r.qX=true∧(r.F≠[]∨r.qX≠zSt)∧qio r.F∧∀ f∈r.F,0≤f.No∧f.No < 8∧qaj f.C=true∧slB r.qX f.C.S=true:=by
 have hne:r.F.length≠0↔r.F≠[]:=by
  rw [Ne,Ne,List.length_eq_zero_iff]
 constructor
 ·intro h
  have hr:=Wd.1 h
  refine ⟨hr.1,hr.2.1.imp hne.1 id,(qf3 (R:=fun f g:qc=>f.No < g.No) (fun a b c h1 h2=>Int.lt_trans h1 h2) (d:=zF)).1 fun k hk=>?_,(qeZ (d:=zF)).1 fun k hk=>?_⟩
  ·have:=(VG.1 (hr.2.2 (k + 1) hk)).1
   rw [if_neg (by omega)] at this
   exact this
  ·have h1:=VG.1 (hr.2.2 k hk)
   have h2:=qxl h k hk
   exact ⟨by omega,h1.2.1,h1.2.2.1,h1.2.2.2⟩
 ·rintro ⟨h1,h2,h3,h4⟩
  refine Wd.2 ⟨h1,h2.imp hne.2 id,fun k hk=>VG.2 ⟨?_,?_⟩⟩
  ·by_cases h0:k=0
   ·rw [if_pos h0]; exact ((qeZ (d:=zF)).2 h4 k hk).1
   ·rw [if_neg h0]
    have:=(qf3 (R:=fun f g:qc=>f.No < g.No) (fun a b c h1 h2=>Int.lt_trans h1 h2) (d:=zF)).2 h3 (k - 1) (by omega)
    rw [show k - 1 + 1=k by omega] at this
    exact this
  ·have:=(qeZ (d:=zF)).2 h4 k hk
   exact this.2
theorem qb0 {g:Int→Option qd} {dead:qf}:∀ {m k:Nat} {f:qc},f∈Zf g dead m k→(k:Int)≤f.No∧f.No < ((k + m:Nat):Int)∧g f.No=some f.C∧slB dead f.C.S=true
 | 0,_,_,h=>absurd h List.not_mem_nil
 | m + 1,k,f,h=>by
  unfold Zf at h
  rcases List.mem_append.1 h with h | h
  ·cases e:g (k:Int) with
   | none=>rw [e] at h; exact absurd h List.not_mem_nil
   | some c=>
    rw [e] at h
    have h:f∈(if slB dead c.S=true then [qc.mk (k:Int) c] else []):=h
    split at h
    ·rename_i hs
     obtain rfl:=List.mem_singleton.1 h
     exact ⟨Int.le_refl _,by show (k:Int) < _; omega,e,hs⟩
    ·exact absurd h List.not_mem_nil
  ·have:=qb0 h
   exact ⟨by omega,by omega,this.2.2⟩
theorem qj4 {g:Int→Option qd} {dead:qf}:∀ {m k:Nat},qio (Zf g dead m k)
 | 0,_=>List.Pairwise.nil
 | m + 1,k=>by
  unfold Zf
  refine List.pairwise_append.2 ⟨?_,qj4,fun a ha b hb=>?_⟩
  ·have:=qt3 (dead:=dead) (k:=k) (c:=g (k:Int))
   match hk:qga dead k (g (k:Int)),this with
   | [],_=>exact List.Pairwise.nil
   | [x],_=>exact List.pairwise_singleton _ _
  ·have h1:=qb0 hb
   cases e:g (k:Int) with
   | none=>rw [e] at ha; exact absurd ha List.not_mem_nil
   | some c=>
    rw [e] at ha
    have ha:a∈(if slB dead c.S=true then [qc.mk (k:Int) c] else []):=ha
    split at ha
    ·obtain rfl:=List.mem_singleton.1 ha
     show (k:Int) < b.No
     omega
    ·exact absurd ha List.not_mem_nil
theorem qDl {l:List qc} (h:qio l) {f:qc} (hf:f∈l):cO l f.No=some f.C:=by
 induction l with
 | nil=>exact absurd hf List.not_mem_nil
 | cons x l ih=>
  rw [Vi]
  have hp:=List.pairwise_cons.1 h
  rcases List.mem_cons.1 hf with rfl | hf
  ·rw [if_pos rfl]
  ·have:=hp.1 f hf
   rw [if_neg (by omega),ih hp.2 hf]
theorem qiN {r:qa} (h:je r=true) {no:Int} {c:qd} (hc:cO r.F no=some c):0≤no∧no < 8∧qaj c=true∧slB r.qX c.S=true:=by
 obtain ⟨f,hf,rfl,rfl⟩:=qaK hc
 exact (YS.1 h).2.2.2 f hf
theorem qE9 {g:Int→Option qd} {dead:qf} {no:Int} (h0:0≤no) (h8:no < 8):cO (Zf g dead 8 0) no=(g no).filter fun c=>slB dead c.S:=by
 have key:∀ (m k:Nat),(k:Int)≤no→no < ((k + m:Nat):Int)→cO (Zf g dead m k) no=(g no).filter fun c=>slB dead c.S:=by
  intro m
  induction m with
  | zero=>intro k h1 h2; omega
  | succ m ih=>
   intro k h1 h2
   unfold Zf
   have app:∀ (a b:List qc),cO (a++b) no=(cO a no).or (cO b no):=by
    intro a b
    unfold cO
    rw [List.find?_append]
    cases List.find? (fun f:qc=>decide (f.No=no)) a<;>rfl
   rw [app]
   by_cases e:no=(k:Int)
   ·subst e
    have hn:cO (Zf g dead m (k + 1)) (k:Int)=none:=by
     cases hc:cO (Zf g dead m (k + 1)) (k:Int) with
     | none=>rfl
     | some c=>
      obtain ⟨f,hf,h3,_⟩:=qaK hc
      have:=(qb0 hf).1
      omega
    rw [hn]
    cases hg:g (k:Int) with
    | none=>rfl
    | some c=>
     show (cO (if slB dead c.S=true then [qc.mk (k:Int) c] else []) (k:Int)).or none=_
     rw [Option.or_none]
     by_cases hs:slB dead c.S=true
     ·rw [if_pos hs,Vi,if_pos (show (qc.mk (k:Int) c).No=(k:Int) from rfl),Option.filter_some,if_pos hs]; rfl
     ·rw [if_neg hs,qhv,Option.filter_some,if_neg hs]
   ·have hn : cO (qga dead k (g (k : Int))) no = none := by
       cases hg:g (k:Int) with
       | none=>rfl
       | some c=>
        show cO (if slB dead c.S=true then [qc.mk (k:Int) c] else []) no=none
        by_cases hs:slB dead c.S=true
        ·rw [if_pos hs,Vi,if_neg (fun h=>e h.symm),qhv]
        ·rw [if_neg hs,qhv]
    rw [hn,Option.none_or,ih (k + 1) (by omega) (by omega)]
 exact key 8 0 (by omega) (by omega)
theorem qKa (a b:qf):mxS a b=a∨mxS a b=b:=by
 unfold mxS
 split
 ·exact .inr rfl
 ·exact .inl rfl
theorem qyg {s:qf} (h:stB s=true) (hz:s≠zSt):slB zSt s=true:=by
 unfold stB at h
 rw [decide_eq_false hz] at h
 simp only [Bool.false_or,Bool.and_eq_true,decide_eq_true_iff] at h
 unfold slB
 exact decide_eq_true (.inl h.1.1.1)
theorem qKZ {x y:qd}:slB (cJ x y).S x.S=false∧slB (cJ x y).S y.S=false:=by
 unfold cJ
 by_cases h:j9 x y=true
 ·rw [if_pos h]
  unfold j9 at h
  by_cases e:x.S=y.S
  ·rw [e]; exact ⟨Zy _,Zy _⟩
  ·rw [if_neg e] at h
   rcases Y4 x.S y.S with h1 | h1 | h1
   ·exact ⟨h1.2,Zy _⟩
   ·exact (e h1).elim
   ·rw [h] at h1; simp at h1
 ·rw [if_neg h]
  unfold j9 at h
  by_cases e:x.S=y.S
  ·rw [e]; exact ⟨Zy _,Zy _⟩
  ·rw [if_neg e] at h
   rcases Y4 x.S y.S with h1 | h1 | h1
   ·exact (h h1.1).elim
   ·exact (e h1).elim
   ·exact ⟨Zy _,h1.2⟩
theorem qJ1 {a b c:qf} (h1:slB b a=false) (h2:slB c a=true):slB c b=true:=by
 rcases Y4 a b with h | h | h
 ·exact qa0 h2 h.1
 ·subst h; exact h2
 ·rw [h1] at h; simp at h
theorem qwx {a b:qa} (ha:je a=true) (hb:je b=true) {no:Int} {c:qd} (h:jC (cO a.F no) (cO b.F no)=some c):0≤no∧no < 8∧qaj c=true:=by
 cases ea:cO a.F no with
 | none=>
  rw [ea] at h
  cases eb:cO b.F no with
  | none=>rw [eb] at h; cases h
  | some y=>
   rw [eb] at h
   obtain rfl:=Option.some.inj h
   have:=qiN hb eb; exact ⟨this.1,this.2.1,this.2.2.1⟩
 | some x=>
  have hx:=qiN ha ea
  rw [ea] at h
  cases eb:cO b.F no with
  | none=>
   rw [eb] at h
   obtain rfl:=Option.some.inj h
   exact ⟨hx.1,hx.2.1,hx.2.2.1⟩
  | some y=>
   have hy:=qiN hb eb
   rw [eb] at h
   obtain rfl:=Option.some.inj h
   refine ⟨hx.1,hx.2.1,?_⟩
   rcases qIu x y with e | e
   ·rw [e]; exact hx.2.2.1
   ·rw [e]; exact hy.2.2.1
theorem qCZ (a b:qa):(rJ a b).F=Zf (fun no=>jC (cO a.F no) (cO b.F no)) (mxS a.qX b.qX) 8 0:=rfl
theorem qgn {a b:qa} (ha:je a=true) (hb:je b=true) (no:Int):cO (rJ a b).F no=(jC (cO a.F no) (cO b.F no)).filter fun c=>slB (mxS a.qX b.qX) c.S:=by
 by_cases h:0≤no∧no < 8
 ·rw [qCZ,qE9 h.1 h.2]
 ·have e1 : jC (cO a.F no) (cO b.F no) = none := by
     cases e:jC (cO a.F no) (cO b.F no) with
     | none=>rfl
     | some c=>have:=qwx ha hb e; exact (h ⟨this.1,this.2.1⟩).elim
  rw [e1]
  cases e:cO (rJ a b).F no with
  | none=>rfl
  | some c=>
   obtain ⟨f,hf,h3,_⟩:=qaK e
   rw [qCZ] at hf
   have:=qb0 (m:=8) (k:=0) hf
   exact (h ⟨by omega,by omega⟩).elim
theorem qKU (a b:qa):(rJ a b).ID=a.ID:=rfl
theorem qm4 (a b:qa):(rJ a b).qX=mxS a.qX b.qX:=rfl
theorem qGY {a b:qf} (ha:stB a=true) (hb:stB b=true) (h:mxS a b=zSt):a=zSt∧b=zSt:=by
 by_cases e:b=zSt
 ·subst e
  unfold mxS at h
  by_cases hs:slB a zSt=true
  ·exfalso
   by_cases ea:a=zSt
   ·subst ea; rw [Zy] at hs; simp at hs
   ·have:=qa0 (qyg ha ea) hs
    rw [Zy] at this; simp at this
  ·rw [if_neg hs] at h; exact ⟨h,rfl⟩
 ·exfalso
  unfold mxS at h
  by_cases hs:slB a b=true
  ·rw [if_pos hs] at h; exact e h
  ·rw [if_neg hs] at h
   subst h
   exact hs (qyg hb e)
theorem Jj {a b:qa} (ha:je a=true) (hb:je b=true):je (rJ a b)=true:=by
 have hA:=YS.1 ha
 have hB:=YS.1 hb
 refine YS.2 ⟨?_,?_,by rw [qCZ]; exact qj4,fun f hf=>?_⟩
 ·rw [qm4]
  rcases qKa a.qX b.qX with e | e
  ·rw [e]; exact hA.1
  ·rw [e]; exact hB.1
 ·by_cases hz:(rJ a b).qX=zSt
  ·left
   intro hF
   obtain ⟨za,zb⟩:=qGY hA.1 hB.1 hz
   have hne:a.F≠[]:=hA.2.1.resolve_right (fun h=>h za)
   obtain ⟨f,l,e⟩:=List.exists_cons_of_ne_nil hne
   have hf:f∈a.F:=by rw [e]; exact List.mem_cons_self ..
   have hca:=qDl hA.2.2.1 hf
   have hfl:=(hA.2.2.2 f hf).2.2.2
   have hn:cO (rJ a b).F f.No=none:=by rw [hF]; rfl
   rw [qgn ha hb,hca] at hn
   rw [qm4] at hz
   rw [hz] at hn
   rw [za] at hfl
   cases hcb:cO b.F f.No with
   | none=>
    rw [hcb] at hn
    have hn:(some f.C).filter (fun c=>slB zSt c.S)=none:=hn
    rw [Option.filter_some,if_pos hfl] at hn; cases hn
   | some y=>
    rw [hcb] at hn
    have hn:(some (cJ f.C y)).filter (fun c=>slB zSt c.S)=none:=hn
    rw [Option.filter_some,if_pos (qJ1 qKZ.1 hfl)] at hn; cases hn
  ·exact .inr hz
 ·rw [qCZ] at hf
  have h1:=qb0 (m:=8) (k:=0) hf
  have h2:=qwx ha hb h1.2.2.1
  exact ⟨h2.1,h2.2.1,h2.2.2,h1.2.2.2⟩
theorem qp7:∀ {l l':List qc},qio l→qio l'→(∀ no,cO l no=cO l' no)→l=l'
 | [],[],_,_,_=>rfl
 | [],y::l',_,h',h=>by
  have:=h y.No
  rw [qhv,Vi,if_pos rfl] at this; cases this
 | x::l,[],hl,_,h=>by
  have:=h x.No
  rw [qhv,Vi,if_pos rfl] at this; cases this
 | x::l,y::l',hl,hl',h=>by
  have pl:=List.pairwise_cons.1 hl
  have pl':=List.pairwise_cons.1 hl'
  have hno:x.No=y.No:=by
   have h1:=h x.No
   rw [Vi,if_pos rfl] at h1
   have h2:=h y.No
   rw [Vi (f:=y),if_pos rfl] at h2
   obtain ⟨f,hf,e,_⟩:=qaK h1.symm
   obtain ⟨g,hg,e',_⟩:=qaK h2
   rcases List.mem_cons.1 hf with rfl | hf
   ·exact e.symm
   ·rcases List.mem_cons.1 hg with rfl | hg
    ·exact e'
    ·have:=pl'.1 f hf
     have:=pl.1 g hg
     omega
  have hc:x.C=y.C:=by
   have h1:=h x.No
   rw [Vi,if_pos rfl,Vi,if_pos hno.symm] at h1
   exact Option.some.inj h1
  have hxy:x=y:=by
   obtain ⟨n,c⟩:=x
   obtain ⟨n',c'⟩:=y
   have hno:n=n':=hno
   have hc:c=c':=hc
   rw [hno,hc]
  subst hxy
  rw [qp7 pl.2 pl'.2 fun no=>?_]
  by_cases e:x.No=no
  ·have n1 : cO l no = none := by
      cases hc:cO l no with
      | none=>rfl
      | some c=>
       obtain ⟨f,hf,e',_⟩:=qaK hc
       have:=pl.1 f hf; omega
   have n2:cO l' no=none:=by
    cases hc:cO l' no with
    | none=>rfl
    | some c=>
     obtain ⟨f,hf,e',_⟩:=qaK hc
     have:=pl'.1 f hf; omega
   rw [n1,n2]
  ·have:=h no
   rw [Vi,Vi,if_neg e,if_neg e] at this; exact this
theorem qsI {r s:qa} (hr:je r=true) (hs:je s=true) (h1:r.ID=s.ID) (h2:r.qX=s.qX) (h3:∀ no,cO r.F no=cO s.F no):r=s:=by
 have:=qp7 (YS.1 hr).2.2.1 (YS.1 hs).2.2.1 h3
 obtain ⟨a,b,c⟩:=r
 obtain ⟨a',b',c'⟩:=s
 have h1:a=a':=h1
 have h2:b=b':=h2
 have this:c=c':=this
 rw [h1,h2,this]
def rO (l:List qa) (id:Vector UInt8 16):Option qa:=l.find? fun r=>decide (r.ID=id)
theorem qvU {id:Vector UInt8 16}:rO [] id=none:=rfl
theorem Y5 {r:qa} {l:List qa} {id:Vector UInt8 16}:rO (r::l) id=if r.ID=id then some r else rO l id:=by
 unfold rO
 rw [List.find?_cons]
 by_cases h:r.ID=id
 ·rw [decide_eq_true h,if_pos h]
 ·rw [decide_eq_false h,if_neg h]
theorem ZY {l:List qa} {id:Vector UInt8 16} {r:qa} (h:rO l id=some r):r∈l∧r.ID=id:=
 ⟨List.mem_of_find?_eq_some h,of_decide_eq_true (List.find?_some (p:=fun r:qa=>decide (r.ID=id)) h)⟩
abbrev qcw (l:List qa):Prop:=l.Pairwise fun a b=>lbB a.ID b.ID=true
def qqh (l:List qa):Prop:=qcw l∧∀ r∈l,je r=true
theorem ZL {b:qb}:zy b=true↔qqh b.R∧b.R.length≤10:=by
 rw [qcT]
 refine and_congr ?_ Iff.rfl
 have ht:∀ a b c:qa,lbB a.ID b.ID=true→lbB b.ID c.ID=true→lbB a.ID c.ID=true:=fun _ _ _ h1 h2=>qmf h1 h2
 constructor
 ·intro h
  refine ⟨(qf3 (R:=fun a b:qa=>lbB a.ID b.ID=true) ht (d:=zR)).1 fun k hk=>?_,(qeZ (d:=zR)).1 fun k hk=>(h k hk).1⟩
  rcases (h (k + 1) hk).2 with e | e
  ·omega
  ·exact e
 ·rintro ⟨h1,h2⟩ k hk
  refine ⟨(qeZ (d:=zR)).2 h2 k hk,?_⟩
  by_cases h0:k=0
  ·exact .inl h0
  ·have:=(qf3 (R:=fun a b:qa=>lbB a.ID b.ID=true) ht (d:=zR)).2 h1 (k - 1) (by omega)
   rw [show k - 1 + 1=k by omega] at this
   exact .inr this
theorem qFv {l:List qa} (h:qcw l) {r:qa} (hr:r∈l):rO l r.ID=some r:=by
 induction l with
 | nil=>exact absurd hr List.not_mem_nil
 | cons x l ih=>
  rw [Y5]
  have hp:=List.pairwise_cons.1 h
  rcases List.mem_cons.1 hr with rfl | hr
  ·rw [if_pos rfl]
  ·have:=hp.1 r hr
   rw [if_neg (fun e=>by rw [e,qfn] at this; cases this),ih hp.2 hr]
theorem qwv:∀ {l l':List qa},qcw l→qcw l'→(∀ id,rO l id=rO l' id)→l=l'
 | [],[],_,_,_=>rfl
 | [],y::l',_,h',h=>by
  have:=h y.ID
  rw [qvU,Y5,if_pos rfl] at this; cases this
 | x::l,[],hl,_,h=>by
  have:=h x.ID
  rw [qvU,Y5,if_pos rfl] at this; cases this
 | x::l,y::l',hl,hl',h=>by
  have pl:=List.pairwise_cons.1 hl
  have pl':=List.pairwise_cons.1 hl'
  have h1:=h x.ID
  rw [Y5,if_pos rfl] at h1
  have h2:=h y.ID
  rw [Y5 (r:=y),if_pos rfl] at h2
  have hxy:x=y:=by
   rcases List.mem_cons.1 (ZY h1.symm).1 with e | hf
   ·exact e
   ·rcases List.mem_cons.1 (ZY h2).1 with e | hg
    ·exact e.symm
    ·have a1:=pl'.1 x hf
     have a2:=pl.1 y hg
     have:=qmf a1 a2
     rw [qfn] at this; cases this
  subst hxy
  rw [qwv pl.2 pl'.2 fun id=>?_]
  by_cases e:x.ID=id
  ·have n1 : rO l id = none := by
      cases hc:rO l id with
      | none=>rfl
      | some c=>
       have:=pl.1 c (ZY hc).1
       rw [e,(ZY hc).2,qfn] at this; cases this
   have n2:rO l' id=none:=by
    cases hc:rO l' id with
    | none=>rfl
    | some c=>
     have:=pl'.1 c (ZY hc).1
     rw [e,(ZY hc).2,qfn] at this; cases this
   rw [n1,n2]
  ·have:=h id
   rw [Y5,Y5,if_neg e,if_neg e] at this; exact this
def jR:Option qa→Option qa→Option qa
 | some x,some y=>some (rJ x y)
 | some x,none=>some x
 | none,y=>y
def qe6 (a b c:List qa):Prop:=qcw c∧∀ id,rO c id=jR (rO a id) (rO b id)
theorem qCA {a b c d:List qa} (h:qe6 a b c) (h':qe6 a b d):c=d:=qwv h.1 h'.1 fun id=>(h.2 id).trans (h'.2 id).symm
theorem qFK {a b c:List qa} (ha:qqh a) (hb:qqh b) (h:qe6 a b c):qqh c:=by
 refine ⟨h.1,fun r hr=>?_⟩
 have e:=h.2 r.ID
 rw [qFv h.1 hr] at e
 cases ea:rO a r.ID with
 | none=>
  rw [ea] at e
  have e:some r=rO b r.ID:=e
  exact hb.2 r (ZY e.symm).1
 | some x=>
  rw [ea] at e
  cases eb:rO b r.ID with
  | none=>
   rw [eb] at e
   obtain rfl:=Option.some.inj e
   exact ha.2 r (ZY ea).1
  | some y=>
   rw [eb] at e
   obtain rfl:=Option.some.inj e
   exact Jj (ha.2 x (ZY ea).1) (hb.2 y (ZY eb).1)
end Go.Rx
end
set_option maxRecDepth 100000
noncomputable section
namespace Go.Rx
open Go.Proofs
theorem qIQ {a b:qd} (h1:a.S=b.S) (h2:a.V=b.V):a=b:=by
 obtain ⟨s,v⟩:=a
 obtain ⟨s',v'⟩:=b
 have h1:s=s':=h1
 have h2:v=v':=h2
 rw [h1,h2]
theorem qJJ (a b:Vector UInt8 32):(ltD a b=true∧ltD b a=false)∨a=b∨(ltD b a=true∧ltD a b=false):=by
 rcases qes a.toList b.toList with h | h | h
 ·exact .inl h
 ·exact .inr (.inl (Vector.toList_inj.1 h))
 ·exact .inr (.inr h)
theorem qkU (a b:qd):(j9 a b=true∧j9 b a=false)∨a=b∨(j9 b a=true∧j9 a b=false):=by
 unfold j9
 by_cases h1:a.S=b.S
 ·rw [if_pos h1,if_pos h1.symm]
  by_cases h2:Zh a.V=Zh b.V
  ·rw [if_pos h2,if_pos h2.symm]
   rcases qes a.V b.V with h | h | h
   ·exact .inl h
   ·exact .inr (.inl (qIQ h1 h))
   ·exact .inr (.inr h)
  ·rw [if_neg h2,if_neg (fun h=>h2 h.symm)]
   rcases qJJ (Zh a.V) (Zh b.V) with h | h | h
   ·exact .inl h
   ·exact (h2 h).elim
   ·exact .inr (.inr h)
 ·rw [if_neg h1,if_neg (fun h=>h1 h.symm)]
  rcases Y4 a.S b.S with h | h | h
  ·exact .inl h
  ·exact (h1 h).elim
  ·exact .inr (.inr h)
theorem qES {a b c:Vector UInt8 32} (h1:ltD a b=true) (h2:ltD b c=true):ltD a c=true:=qlY h1 h2
theorem qKb {a b:Vector UInt8 32} (h:ltD a b=true):a≠b:=fun e=>by subst e; unfold ltD at h; rw [Xz] at h; cases h
theorem qKw {a b:qf} (h:slB a b=true):a≠b:=fun e=>by subst e; rw [Zy] at h; cases h
theorem qow {a b c:qd} (h1:j9 a b=true) (h2:j9 b c=true):j9 a c=true:=by
 unfold j9 at *
 by_cases e1:a.S=b.S
 ·by_cases e2:b.S=c.S
  ·rw [if_pos e1] at h1
   rw [if_pos e2] at h2
   rw [if_pos (e1.trans e2)]
   by_cases d1:Zh a.V=Zh b.V
   ·by_cases d2:Zh b.V=Zh c.V
    ·rw [if_pos d1] at h1
     rw [if_pos d2] at h2
     rw [if_pos (d1.trans d2)]
     exact qlY h1 h2
    ·rw [if_neg d2] at h2
     rw [if_neg (fun h=>d2 (d1.symm.trans h)),d1]
     exact h2
   ·rw [if_neg d1] at h1
    by_cases d2:Zh b.V=Zh c.V
    ·rw [if_neg (fun h=>d1 (h.trans d2.symm)),← d2]
     exact h1
    ·rw [if_neg d2] at h2
     have:=qES h1 h2
     rw [if_neg (qKb this)]
     exact this
  ·rw [if_neg e2] at h2
   rw [if_neg (fun h=>e2 (e1.symm.trans h)),e1]
   exact h2
 ·rw [if_neg e1] at h1
  by_cases e2:b.S=c.S
  ·rw [if_neg (fun h=>e1 (h.trans e2.symm)),← e2]
   exact h1
  ·rw [if_neg e2] at h2
   have:=qa0 h1 h2
   rw [if_neg (qKw this)]
   exact this
theorem qFw (a:qd):j9 a a=false:=by
 rcases qkU a a with h | h | h
 ·exact h.2
 ·unfold j9; rw [if_pos rfl,if_pos rfl,Xz]
 ·exact h.2
theorem qc3 {a b:qd} (h:j9 a b=true):cJ a b=b:=if_pos h
theorem qbK {a b:qd} (h:j9 a b=false):cJ a b=a:=if_neg (by rw [h]; simp)
theorem qJv (a:qd):cJ a a=a:=qbK (qFw a)
theorem qI3 (a b:qd):cJ a b=cJ b a:=by
 rcases qkU a b with h | h | h
 ·rw [qc3 h.1,qbK h.2]
 ·subst h; rfl
 ·rw [qbK h.2,qc3 h.1]
theorem qG1 (a b c:qd):cJ (cJ a b) c=cJ a (cJ b c):=by
 cases h1:j9 a b with
 | true=>
  rw [qc3 h1]
  cases h2:j9 b c with
  | true=>rw [qc3 h2,qc3 (qow h1 h2)]
  | false=>rw [qbK h2,qc3 h1]
 | false=>
  rw [qbK h1]
  cases h2:j9 b c with
  | true=>rw [qc3 h2]
  | false=>
   rw [qbK h2,qbK h1]
   refine qbK ?_
   cases h3:j9 a c with
   | false=>rfl
   | true=>
    rcases qkU a b with h | h | h
    ·rw [h1] at h; exact absurd h.1 (by simp)
    ·subst h; rw [h3] at h2; cases h2
    ·have:=qow h.1 h3; rw [h2] at this; cases this
theorem qIZ (o:Option qd):jC o o=o:=by
 cases o with
 | none=>rfl
 | some c=>exact congrArg some (qJv c)
theorem qsh (o p:Option qd):jC o p=jC p o:=by
 cases o<;>cases p<;>first | rfl | exact congrArg some (qI3 _ _)
theorem qHM (o p q:Option qd):jC (jC o p) q=jC o (jC p q):=by
 cases o<;>cases p<;>cases q<;>first | rfl | exact congrArg some (qG1 _ _ _)
theorem qa3 {a b:qf} (h:slB a b=true):mxS a b=b:=if_pos h
theorem Ke {a b:qf} (h:slB a b=false):mxS a b=a:=if_neg (by rw [h]; simp)
theorem qoE (a:qf):mxS a a=a:=Ke (Zy a)
theorem qpA (a b:qf):mxS a b=mxS b a:=by
 rcases Y4 a b with h | h | h
 ·rw [qa3 h.1,Ke h.2]
 ·subst h; rfl
 ·rw [Ke h.2,qa3 h.1]
theorem qt4 (a b c:qf):mxS (mxS a b) c=mxS a (mxS b c):=by
 cases h1:slB a b with
 | true=>
  rw [qa3 h1]
  cases h2:slB b c with
  | true=>rw [qa3 h2,qa3 (qa0 h1 h2)]
  | false=>rw [Ke h2,qa3 h1]
 | false=>
  rw [Ke h1]
  cases h2:slB b c with
  | true=>rw [qa3 h2]
  | false=>
   rw [Ke h2,Ke h1]
   refine Ke ?_
   cases h3:slB a c with
   | false=>rfl
   | true=>
    rcases Y4 a b with h | h | h
    ·rw [h1] at h; exact absurd h.1 (by simp)
    ·subst h; rw [h3] at h2; cases h2
    ·have:=qa0 h.1 h3; rw [h2] at this; cases this
theorem qDE (a b:qf):slB (mxS a b) a=false:=by
 rcases Y4 a b with h | h | h
 ·rw [qa3 h.1]; exact h.2
 ·subst h; rw [qoE,Zy]
 ·rw [Ke h.2,Zy]
abbrev fl (d:qf) (o:Option qd):Option qd:=o.filter fun c=>slB d c.S
theorem qh0 {d:qf} {c:qd}:fl d (some c)=if slB d c.S=true then some c else none:=by
 show Option.filter _ (some c)=_
 rw [Option.filter_some]
theorem qJO {a b:qd} (h:j9 a b=false):slB a.S b.S=false:=by
 unfold j9 at h
 by_cases e:a.S=b.S
 ·rw [e,Zy]
 ·rw [if_neg e] at h; exact h
theorem qqe {a b c:qf} (h1:slB a b=false) (h2:slB b c=false):slB a c=false:=by
 cases h:slB a c with
 | false=>rfl
 | true=>
  rcases Y4 a b with h' | h' | h'
  ·rw [h1] at h'; exact absurd h'.1 (by simp)
  ·subst h'; rw [h] at h2; cases h2
  ·have:=qa0 h'.1 h; rw [h2] at this; cases this
theorem qAw {d d1:qf} (hd:slB d d1=false) (u z:Option qd):fl d (jC (fl d1 u) z)=fl d (jC u z):=by
 cases u with
 | none=>rfl
 | some c=>
  rw [qh0]
  by_cases h:slB d1 c.S=true
  ·rw [if_pos h]
  ·rw [if_neg h]
   have hc:slB d c.S=false:=qqe hd (by cases e:slB d1 c.S with | false=>rfl | true=>exact (h e).elim)
   cases z with
   | none=>
    show none=fl d (some c)
    rw [qh0,if_neg (by rw [hc]; simp)]
   | some y=>
    show fl d (some y)=fl d (some (cJ c y))
    cases hl:j9 c y with
    | true=>rw [qc3 hl]
    | false=>
     have:slB d y.S=false:=qqe hc (qJO hl)
     rw [qbK hl,qh0,qh0,if_neg (by rw [this]; simp),if_neg (by rw [hc]; simp)]
theorem qHr {d d1:qf} (hd:slB d d1=false) (u z:Option qd):fl d (jC z (fl d1 u))=fl d (jC z u):=by
 rw [qsh,qAw hd,qsh]
theorem qJj {r:qa} (h:je r=true) (no:Int):fl r.qX (cO r.F no)=cO r.F no:=by
 cases e:cO r.F no with
 | none=>rfl
 | some c=>rw [qh0,if_pos (qiN h e).2.2.2]
theorem qIL {r:qa} (h:je r=true):rJ r r=r:=
 qsI (Jj h h) h rfl (qoE _) fun no=>by rw [qgn h h,qIZ,qoE]; exact qJj h no
theorem qIG {r s:qa} (h:je r=true) (h':je s=true) (hid:r.ID=s.ID):rJ r s=rJ s r:=
 qsI (Jj h h') (Jj h' h) hid (qpA _ _) fun no=>by rw [qgn h h',qgn h' h,qsh,qpA]
theorem qHj {r s t:qa} (h:je r=true) (h':je s=true) (h'':je t=true):rJ (rJ r s) t=rJ r (rJ s t):=
 qsI (Jj (Jj h h') h'') (Jj h (Jj h' h'')) rfl (qt4 _ _ _) fun no=>by
  rw [qgn (Jj h h') h'',qgn h (Jj h' h''),qgn h h',qgn h' h'',qm4,qm4]
  have e1:=qAw (d:=mxS (mxS r.qX s.qX) t.qX) (d1:=mxS r.qX s.qX) (qDE _ _) (jC (cO r.F no) (cO s.F no)) (cO t.F no)
  have e2:=qHr (d:=mxS r.qX (mxS s.qX t.qX)) (d1:=mxS s.qX t.qX) (by rw [qpA]; exact qDE _ _) (jC (cO s.F no) (cO t.F no)) (cO r.F no)
  show fl (mxS (mxS r.qX s.qX) t.qX) (jC (fl (mxS r.qX s.qX) (jC (cO r.F no) (cO s.F no))) (cO t.F no))=fl (mxS r.qX (mxS s.qX t.qX)) (jC (cO r.F no) (fl (mxS s.qX t.qX) (jC (cO s.F no) (cO t.F no))))
  rw [e1,e2,qt4,qHM]
def VO (id:Vector UInt8 16) (o:Option qa):Prop:=∀ r,o=some r→je r=true∧r.ID=id
theorem qIR {id:Vector UInt8 16}:VO id none:=fun _ h=>by cases h
theorem qBd {l:List qa} (h:∀ r∈l,je r=true) (id:Vector UInt8 16):VO id (rO l id):=fun r hr=>⟨h r (ZY hr).1,(ZY hr).2⟩
theorem qve {id:Vector UInt8 16} {o p:Option qa} (ho:VO id o) (hp:VO id p):VO id (jR o p):=by
 cases o with
 | none=>exact hp
 | some r=>
  cases p with
  | none=>exact ho
  | some s=>
   intro t ht
   obtain rfl:=Option.some.inj ht
   exact ⟨Jj (ho r rfl).1 (hp s rfl).1,(ho r rfl).2⟩
theorem qAi {id:Vector UInt8 16} {o:Option qa} (ho:VO id o):jR o o=o:=by
 cases o with
 | none=>rfl
 | some r=>exact congrArg some (qIL (ho r rfl).1)
theorem qI2 {id:Vector UInt8 16} {o p:Option qa} (ho:VO id o) (hp:VO id p):jR o p=jR p o:=by
 cases o with
 | none=>cases p<;>rfl
 | some r=>
  cases p with
  | none=>rfl
  | some s=>exact congrArg some (qIG (ho r rfl).1 (hp s rfl).1 ((ho r rfl).2.trans (hp s rfl).2.symm))
theorem qeK {id:Vector UInt8 16} {o p q:Option qa} (ho:VO id o) (hp:VO id p) (hq:VO id q):jR (jR o p) q=jR o (jR p q):=by
 cases o with
 | none=>rfl
 | some r=>
  cases p with
  | none=>rfl
  | some s=>
   cases q with
   | none=>rfl
   | some t=>exact congrArg some (qHj (ho r rfl).1 (hp s rfl).1 (hq t rfl).1)
theorem qzX {id:Vector UInt8 16} {o p:Option qa} (ho:VO id o) (hp:VO id p):jR (jR o p) p=jR o p:=by
 rw [qeK ho hp hp,qAi hp]
theorem qJE {id:Vector UInt8 16} {o p q:Option qa} (ho:VO id o) (hp:VO id p) (hq:VO id q):jR (jR (jR o p) q) p=jR (jR o p) q:=by
 rw [qeK (qve ho hp) hq hp,qI2 hq hp,← qeK (qve ho hp) hp hq,qzX ho hp]
theorem qI6 {id:Vector UInt8 16} {o p:Option qa} (ho:VO id o) (hp:VO id p):jR o (jR o p)=jR o p:=by
 rw [← qeK ho ho hp,qAi ho]
end Go.Rx
end
set_option maxRecDepth 100000
noncomputable section
namespace Go.Rx
open Go.Proofs
open Go.Lib (compareBytes)
section g
variable {α:Type}
theorem qv2 {p q:List α} {x:α} {n:Nat} (h:(p++x::q).length=n):KH (p++x::q) n p.length=some x:=by
 unfold KH
 rw [if_pos h,List.getElem?_append_right (Nat.le_refl _),Nat.sub_self]; rfl
theorem qs0 {x y:α} {q:List α}:∀ {p:List α},(p++x::q).set p.length y=p++y::q
 | []=>rfl
 | z::p=>by
  show z::(p++x::q).set p.length y=_
  rw [qs0]; rfl
end g
def Xg (rp:List (Vector UInt8 16)) (x:Vector UInt8 16) (q:List (Vector UInt8 16)):List (Vector UInt8 16):=match rp with
 | []=>x::q
 | y::r=>if lbB x y=true then Xg r x (y::q) else (y::r).reverse++x::q
def vT (l:List (Vector UInt8 16)):List (Vector UInt8 16):=l.foldl (fun p x=>Xg p.reverse x []) []
theorem qlK {x:Vector UInt8 16}:∀ {rp q:List (Vector UInt8 16)},(Xg rp x q).Perm (x::(rp++q))
 | [],q=>List.Perm.refl _
 | y::r,q=>by
  unfold Xg
  split
  ·exact qlK.trans (List.Perm.cons _ List.perm_middle)
  ·exact List.perm_middle.trans (List.Perm.cons _ ((List.reverse_perm _).append_right _))
theorem qtd {x:Vector UInt8 16} {s:List (Vector UInt8 16)}:∀ {rp q:List (Vector UInt8 16)},Xg rp x (q++s)=Xg rp x q++s
 | [],q=>rfl
 | y::r,q=>by
  unfold Xg
  split
  ·exact qtd (q:=y::q)
  ·rw [List.append_assoc]; rfl
abbrev qey (l:List (Vector UInt8 16)):Prop:=l.Pairwise fun a b=>lbB a b=true
theorem qof {x:Vector UInt8 16}:∀ {rp q:List (Vector UInt8 16)},qey (rp.reverse++q)→(∀ y∈q,lbB x y=true)→x∉rp→qey (Xg rp x q)
 | [],q,h,hq,_=>List.pairwise_cons.2 ⟨hq,h⟩
 | y::r,q,h,hq,hx=>by
  rw [List.mem_cons,not_or] at hx
  unfold Xg
  split
  ·rename_i hlt
   refine qof (rp:=r) (q:=y::q) ?_ (fun z hz=>?_) hx.2
   ·rw [List.reverse_cons,List.append_assoc] at h; exact h
   ·rcases List.mem_cons.1 hz with rfl | hz
    ·exact hlt
    ·exact hq z hz
  ·rename_i hlt
   have hyx:lbB y x=true:=by
    rcases qI1 x y with h1 | h1 | h1
    ·exact (hlt h1.1).elim
    ·exact (hx.1 h1).elim
    ·exact h1.1
   obtain ⟨h1,h2,h3⟩:=List.pairwise_append.1 h
   refine List.pairwise_append.2 ⟨h1,List.pairwise_cons.2 ⟨hq,h2⟩,fun a ha b hb=>?_⟩
   have hay:lbB a x=true:=by
    rw [List.reverse_cons,List.mem_append,List.mem_singleton] at ha
    rcases ha with ha | rfl
    ·rw [List.reverse_cons] at h1
     exact qmf ((List.pairwise_append.1 h1).2.2 a ha y (List.mem_singleton.2 rfl)) hyx
    ·exact hyx
   rcases List.mem_cons.1 hb with rfl | hb
   ·exact hay
   ·exact h3 a ha b hb
theorem qtY:∀ {l p:List (Vector UInt8 16)},qey p→(p++l).Nodup→qey (l.foldl (fun p x=>Xg p.reverse x []) p)∧(l.foldl (fun p x=>Xg p.reverse x []) p).Perm (p++l)
 | [],p,h,_=>⟨h,by rw [List.append_nil]; exact List.Perm.refl _⟩
 | x::l,p,h,hn=>by
  have hp:(Xg p.reverse x []).Perm (x::p):=qlK.trans (List.Perm.cons _ (by rw [List.append_nil]; exact List.reverse_perm _))
  have hx:x∉p:=fun hx=>by
   have:=(List.nodup_append.1 hn).2.2 x hx x (List.mem_cons_self ..)
   exact this rfl
  have hs:qey (Xg p.reverse x []):=qof (by rw [List.reverse_reverse,List.append_nil]; exact h) (fun y hy=>absurd hy (List.not_mem_nil)) (by rw [List.mem_reverse]; exact hx)
  have hpl:(Xg p.reverse x []++l).Perm (p++x::l):=(hp.append_right l).trans List.perm_middle.symm
  obtain ⟨h1,h2⟩:=qtY (l:=l) hs (hpl.nodup_iff.2 hn)
  exact ⟨h1,h2.trans hpl⟩
theorem qGA {l:List (Vector UInt8 16)} (h:l.Nodup):qey (vT l)∧(vT l).Perm l:=by
 have:=qtY (l:=l) (p:=[]) List.Pairwise.nil (by simpa using h)
 rw [List.nil_append] at this
 exact this
section
variable {N:Nat} [Q0 N]
theorem qHE (a b:Vector UInt8 16):∃ n:Int,qfr a b=some n∧decide (n < 0)=lbB a b:=by
 refine ⟨compareBytes a.toList b.toList,rfl,?_⟩
 rw [qm3]; rfl
theorem qz3 {s2 s8 : Int} : ∀ (rp : List (Vector UInt8 16)) (x : Vector UInt8 16) (q : List (Vector UInt8 16)) (n m : Nat), (rp.reverse ++ x :: q).length = n → n ≤ 1000 → rp.length < m →
    ∃ j b,q_ (z_ N n 0 s2 s8) some m (rp.reverse++x::q,(rp.length:Int))=some (Xg rp x q,j,b)
 | _,_,_,_,0,_,_,hm=>by omega
 | [],x,q,n,m + 1,hn,hs,hm=>by
  refine ⟨((0:Nat):Int),false,?_⟩
  rw [zM (x:=(([]:List (Vector UInt8 16)).reverse++x::q,((0:Nat):Int),false)) (by unfold z_; exact w_f rfl (qD rfl)) m]
  rfl
 | y::r,x,q,n,m + 1,hn,hs,hm=>by
  have hl:(y::r).reverse.length=r.length + 1:=by simp
  have e0:(y::r).reverse++x::q=r.reverse++y::(x::q):=by rw [List.reverse_cons,List.append_assoc]; rfl
  have hrl:r.reverse.length=r.length:=List.length_reverse
  have hnl:r.length + 1 < n:=by rw [← hn,List.length_append,hl,List.length_cons]; omega
  obtain ⟨c,hc,hlt⟩:=qHE x y
  have c0:(0:Int)≤((r.length + 1:Nat):Int)∧((r.length + 1:Nat):Int) < ((n:Nat):Int):=by omega
  have c1:qz (((r.length + 1:Nat):Int) - 1):=by unfold qz; omega
  have c2:(0:Int)≤((r.length + 1:Nat):Int) - 1∧((r.length + 1:Nat):Int) - 1 < ((n:Nat):Int):=by omega
  have g1:KH ((y::r).reverse++x::q) n (((r.length + 1:Nat):Int)).toNat=some x:=by
   have:=qv2 (p:=(y::r).reverse) (x:=x) (q:=q) hn
   rw [hl] at this; exact this
  have t1:(((r.length + 1:Nat):Int) - 1).toNat=r.length:=by omega
  have g2:KH ((y::r).reverse++x::q) n (((r.length + 1:Nat):Int) - 1).toNat=some y:=by
   rw [t1,e0]
   have:=qv2 (p:=r.reverse) (x:=y) (q:=x::q) (n:=n) (by rw [← e0]; exact hn)
   rw [hrl] at this; exact this
  cases hb:lbB x y with
  | false=>
   refine ⟨((r.length + 1:Nat):Int),decide (c < 0),?_⟩
   rw [zM (x:=((y::r).reverse++x::q,((r.length + 1:Nat):Int),decide (c < 0))) (by
    unfold z_
    exact w_t (decide_eq_true (by show (0:Int) < ((r.length + 1:Nat):Int); omega)) (q6 c0 (qy g1 (q6 c1 (q6 c2 (qy g2 (qy hc (w_f (hlt.trans hb) (qD rfl)))))))) ) m]
   unfold Xg
   rw [if_neg (by rw [hb]; simp)]
  | true=>
   obtain ⟨j,b,h⟩:=qz3 r x (y::q) n m (by rw [← hn,e0]; simp) hs (by simp at hm; omega)
   refine ⟨j,b,?_⟩
   have s1:((y::r).reverse++x::q).set (((r.length + 1:Nat):Int)).toNat y=(y::r).reverse++y::q:=by
    have:=qs0 (p:=(y::r).reverse) (x:=x) (y:=y) (q:=q)
    rw [hl] at this; exact this
   have s2:((y::r).reverse++y::q).set (((r.length + 1:Nat):Int) - 1).toNat x=r.reverse++x::(y::q):=by
    rw [t1,show (y::r).reverse++y::q=r.reverse++y::(y::q) by rw [List.reverse_cons,List.append_assoc]; rfl]
    have:=qs0 (p:=r.reverse) (x:=y) (y:=x) (q:=y::q)
    rw [hrl] at this; exact this
   have v1:qgh ((y::r).reverse++x::q).length n (((r.length + 1:Nat):Int)).toNat:=⟨hn,by omega⟩
   have v2:qgh (((y::r).reverse++x::q).set (((r.length + 1:Nat):Int)).toNat y).length n (((r.length + 1:Nat):Int) - 1).toNat:=⟨by rw [List.length_set]; exact hn,by omega⟩
   rw [JI (v':=(r.reverse++x::(y::q),(r.length:Int))) (by
    unfold z_
    refine w_t (decide_eq_true (by show (0:Int) < ((r.length + 1:Nat):Int); omega)) (q6 c0 (qy g1 (q6 c1 (q6 c2 (qy g2 (qy hc (w_t (hlt.trans hb) (q6 c1 (q6 c1 (q6 c2 (qy g2 (q6 c0 (qy g1 (q6 c0 (q6 v1 (q6 c2 (q6 v2 (q6 c1 (qD ?_)))))))))))))))))))
    show some (Sum.inl ((((y::r).reverse++x::q).set (((r.length + 1:Nat):Int)).toNat y).set (((r.length + 1:Nat):Int) - 1).toNat x,((r.length + 1:Nat):Int) - 1))=_
    rw [s1,s2,show ((r.length + 1:Nat):Int) - 1=(r.length:Int) by omega]) m]
   unfold Xg
   rw [if_pos hb]
   exact h
theorem qCH {l:List (Vector UInt8 16)} (hs:l.length≤1000) (h0:l≠[]):zK N l 0 (l.length:Int)=some (vT l):=by
 have hN:=big N
 have hpos:0 < l.length:=List.length_pos_iff.2 h0
 have key:jO N l.length 0 (l.length:Int) l 1=some (vT l,(l.length:Int),false):=by
  have h:=qjU (B:=zu N l.length 0 (l.length:Int)) (g:=some) (I:=fun v=>∃ k:Nat,1≤k∧k≤l.length∧v=(vT (l.take k)++l.drop k,(k:Int))) (Q:=fun y=>y=(vT l,(l.length:Int),false)) (fun v=>l.length - v.2.toNat) ?_ N (l,((1:Nat):Int))
   ⟨1,Nat.le_refl _,hpos,by
    cases l with
    | nil=>exact (h0 rfl).elim
    | cons x r=>rfl⟩ (by simp; omega)
  ·obtain ⟨y,e,rfl⟩:=h
   exact e
  rintro v ⟨k,h1,hk,rfl⟩
  have hlen:∀ j,j≤l.length→(vT (l.take j)).length=j:=by
   intro j hj
   have:∀ (m p:List (Vector UInt8 16)),(m.foldl (fun p x=>Xg p.reverse x []) p).length=p.length + m.length:=by
    intro m
    induction m with
    | nil=>intro p; rfl
    | cons x m ih=>
     intro p
     rw [List.foldl_cons,ih,qlK.length_eq]
     simp; omega
   unfold vT
   rw [this]; simp; omega
  by_cases h:k < l.length
  ·left
   have ed:l.drop k=l.getD k (Vector.replicate 16 0)::l.drop (k + 1):=by
    rw [List.drop_eq_getElem_cons h,List.getD_eq_getElem?_getD,List.getElem?_eq_getElem h]; rfl
   have et:vT (l.take (k + 1))=Xg (vT (l.take k)).reverse (l.getD k (Vector.replicate 16 0)) []:=by
    unfold vT
    rw [List.take_succ_eq_append_getElem h,List.foldl_append,List.getD_eq_getElem?_getD,List.getElem?_eq_getElem h]; rfl
   have hll:(vT (l.take k)).reverse.length=k:=by rw [List.length_reverse,hlen k hk]
   obtain ⟨j,b,e⟩:=qz3 (N:=N) (s2:=(l.length:Int)) (s8:=(k:Int)) (vT (l.take k)).reverse (l.getD k (Vector.replicate 16 0)) (l.drop (k + 1)) l.length N (by
    rw [List.reverse_reverse,← ed,List.length_append,hlen k hk,List.length_drop]; omega) hs (by omega)
   rw [List.reverse_reverse,← ed,hll] at e
   have er:Xg (vT (l.take k)).reverse (l.getD k (Vector.replicate 16 0)) (l.drop (k + 1))=vT (l.take (k + 1))++l.drop (k + 1):=by
    rw [et,← qtd]; rfl
   rw [er] at e
   refine ⟨(vT (l.take (k + 1))++l.drop (k + 1),((k + 1:Nat):Int)),?_,⟨k + 1,by omega,h,rfl⟩,by simp only [Int.toNat_natCast]; omega⟩
   unfold zu
   exact w_t (dec_lt h) (qy e (q6 (Q9 (by omega)) (qD (by rw [zB]))))
  ·right
   obtain rfl:k=l.length:=by omega
   refine ⟨(vT l,(l.length:Int),false),_,?_,rfl,rfl⟩
   unfold zu
   refine w_f (jt (Nat.lt_irrefl _)) (qD ?_)
   dsimp only
   rw [jt (Nat.lt_irrefl _),List.take_of_length_le (Nat.le_refl _),List.drop_of_length_le (Nat.le_refl _),List.append_nil]
 unfold zK j8
 exact q6 (by unfold qz; omega) (qy key (qD rfl))
theorem qyX:zK N [] 0 ((([]:List (Vector UInt8 16)).length:Nat):Int)=some []:=by
 have key:jO N 0 0 ((0:Nat):Int) [] 1=some ([],1,false):=by
  obtain ⟨M,hM⟩:∃ M,N=M + 1:=⟨N - 1,by have:=big N; omega⟩
  show q_ (zu N 0 0 ((0:Nat):Int)) some N ([],1)=_
  have:∀ K,K=M + 1→q_ (zu N 0 0 ((0:Nat):Int)) some K ([],1)=some ([],1,false):=by
   rintro K rfl
   rw [zM (x:=([],1,false)) (by unfold zu; exact w_f rfl (qD rfl))]
  exact this N hM
 unfold zK j8
 exact q6 (by unfold qz; omega) (qy key (qD rfl))
theorem qIJ {l:List (Vector UInt8 16)} (h:l.length≤12):Vo N l=some (vT l):=by
 have e1:zK N l 0 ((l.length:Nat):Int)=some (vT l):=by
  cases l with
  | nil=>exact qyX
  | cons x r=>exact qCH (by omega) (by simp)
 have e2:∀ z:Int,Q3 N l 0 ((l.length:Nat):Int) z=some (vT l):=fun z=>by
  have key:ZR N l 0 ((l.length:Nat):Int) z=some (vT l):=by
   obtain ⟨M,hM⟩:∃ M,N=M + 1:=⟨N - 1,by have:=big N; omega⟩
   show q_ (vK N l 0 ((l.length:Nat):Int) z) some N ()=_
   have:∀ K,K=M + 1→q_ (vK N l 0 ((l.length:Nat):Int) z) some K ()=some (vT l):=by
    rintro K rfl
    rw [zM (x:=vT l) (by unfold vK; exact q6 (by unfold qz; omega) (w_t (decide_eq_true (by omega)) (qy ((jK rfl).trans e1) (qD rfl))))]
   exact this N hM
  unfold Q3 Jg
  exact qy ((jK rfl).trans key) (qD rfl)
 have e3:∃ z,qal (IntKind.u64.wrap ((l.length:Nat):Int))=some z:=by
  rw [qGF (by omega)]
  have:∀ k,k≤12→(qal ((k:Nat):Int)).isSome=true:=by decide +kernel
  exact Option.isSome_iff_exists.1 (this _ h)
 obtain ⟨z,e3⟩:=e3
 unfold Vo XO
 exact qy e3 (qy ((jK rfl).trans (e2 z)) (qD rfl))
end
end Go.Rx
end
set_option maxRecDepth 100000
noncomputable section
namespace Go.Rx
open Go.Proofs
open Go.Lib (compareBytes)
section
variable {N:Nat} [Q0 N]
theorem qrL (a b:Vector UInt8 32):qfp a b=some (ltD a b):=by
 unfold qfp qjz ltD
 rw [qJ,eqD]
 by_cases h:a=b
 ·subst h; rw [decide_eq_true rfl,Xz]; rfl
 ·rw [decide_eq_false h]; rfl
end
end Go.Rx
end
set_option maxRecDepth 100000
noncomputable section
namespace Go.Rx
open Go.Proofs
open Go.Lib (compareBytes)
section
variable {N:Nat} [Q0 N]
theorem qIj {x y : Bool} {p : Prop} (h : (x = true ∧ y = false) ∨ p ∨ (y = true ∧ x = false)) (hp : p → x = false ∧ y = false) :
    ∃ n:Int,(Tree.cond x (.ret (-1:Int)) (.cond y (.ret 1) (.ret 0))).run some=some n∧(decide (n=0)=true↔p)∧(¬ p→decide (n < 0)=x):=by
 rcases h with ⟨h1,h2⟩ | h1 | ⟨h1,h2⟩
 ·subst h1; subst h2
  exact ⟨-1,rfl,⟨fun h=>by simp at h,fun h=>by have:=(hp h).1; simp at this⟩,fun _=>rfl⟩
 ·obtain ⟨h2,h3⟩:=hp h1
  subst h2; subst h3
  exact ⟨0,rfl,⟨fun _=>h1,fun _=>rfl⟩,fun h=>(h h1).elim⟩
 ·subst h1; subst h2
  exact ⟨1,rfl,⟨fun h=>by simp at h,fun h=>by have:=(hp h).2; simp at this⟩,fun _=>rfl⟩
theorem qET (a b:qf):∃ n:Int,XR N a b=some n∧(decide (n=0)=true↔a=b)∧(a≠b→decide (n < 0)=slB a b):=by
 obtain ⟨n,h1,h2,h3⟩:=qIj (Y4 a b) fun h=>by subst h; exact ⟨Zy a,Zy a⟩
 refine ⟨n,?_,h2,h3⟩
 unfold XR Ym
 rw [run_bind,qcX,Option.bind_some,← h1,qJ,qJ,run_bind,qcX,Option.bind_some]
theorem qC9 (a b:Vector UInt8 32):∃ n:Int,VZ a b=some n∧(decide (n=0)=true↔a=b)∧(a≠b→decide (n < 0)=ltD a b):=by
 have ht:(ltD a b=true∧ltD b a=false)∨a=b∨(ltD b a=true∧ltD a b=false):=by
  rcases qes a.toList b.toList with h | h | h
  ·exact .inl h
  ·exact .inr (.inl (Vector.toList_inj.1 h))
  ·exact .inr (.inr h)
 obtain ⟨n,h1,h2,h3⟩:=qIj ht fun h=>by subst h; exact ⟨Xz _,Xz _⟩
 refine ⟨n,?_,h2,h3⟩
 unfold VZ WK
 rw [run_bind,qrL,Option.bind_some,← h1,qJ,qJ,run_bind,qrL,Option.bind_some]
theorem qIU (a b:List UInt8):∃ n:Int,Vn a b=some n∧(decide (n=0)=true↔a=b)∧(a≠b→decide (n < 0)=ltB a b):=by
 have e:∀ x:List UInt8,X5 x=some ():=fun x=>rfl
 have g:(!(Op.bytesLess a b||decide (a=b)))=ltB b a:=by
  rw [qp6]
  rcases qes a b with h | h | h
  ·rw [h.1,h.2]; rfl
  ·subst h; rw [decide_eq_true rfl,Xz]; rfl
  ·have:a≠b:=fun e=>by subst e; rw [Xz] at h; simp at h
   rw [h.1,h.2,decide_eq_false this]; rfl
 obtain ⟨n,h1,h2,h3⟩:=qIj (qes a b) fun h=>by subst h; exact ⟨Xz _,Xz _⟩
 refine ⟨n,?_,h2,h3⟩
 unfold Vn XX
 refine qy (e a) (qy (e b) (w_f (by rw [decide_eq_true rfl]; rfl) (w_f (by rw [decide_eq_true rfl]; rfl) ?_)))
 rw [← h1,qJ,qJ,qJ,qJ,qp6 a b,← g,qp6 a b]
theorem qFY {a b:qd} (ha:a.V.length≤50000) (hb:b.V.length≤50000):qfU N a b=some (j9 a b):=by
 obtain ⟨n1,e1,z1,l1⟩:=qET (N:=N) a.S b.S
 obtain ⟨n2,e2,z2,l2⟩:=qC9 (Zh a.V) (Zh b.V)
 obtain ⟨n3,e3,z3,l3⟩:=qIU a.V b.V
 have f1:qcB N a b=some n1:=by unfold qcB qdH; exact qy e1 (qD rfl)
 have f2:qcA N a b=some n2:=by unfold qcA qdq; exact qy (qo8 ha) (qy (qo8 hb) (qy e2 (qD rfl)))
 have f3:qcz a b=some n3:=by unfold qcz qdB; exact qy e3 (qD rfl)
 have key:∃ M,N=M + 1:=⟨N - 1,by have:=big N; omega⟩
 obtain ⟨M,hM⟩:=key
 have z:∀ {n:Int} {p:Prop},(decide (n=0)=true↔p)→p→(!decide (n=0))=false:=fun h hp=>by rw [h.2 hp]; rfl
 have nz:∀ {n:Int} {p:Prop},(decide (n=0)=true↔p)→¬ p→(!decide (n=0))=true:=fun {n} {p} h hp=>by
  cases e:decide (n=0) with
  | false=>rfl
  | true=>exact (hp (h.1 e)).elim
 have hl:qbM N a b=some (if a.S=b.S∧Zh a.V=Zh b.V∧a.V=b.V then .inr () else .inl (j9 a b)):=by
  have s1:qbM N a b=q_ (Y7 N a b) (qcb N N (a,b)) (M + 1) ():=by rw [← hM]; rfl
  rw [s1]
  by_cases h1:a.S=b.S
  ·rw [zM (x:=.inl ()) (by unfold Y7; exact q6 (by omega) (qy f1 (w_f (z z1 h1) (qD rfl))))]
   show q_ (Q_ N a b) (Jp N N (a,b)) N ()=_
   rw [show q_ (Q_ N a b) (Jp N N (a,b)) N ()=q_ (Q_ N a b) (Jp N N (a,b)) (M + 1) () by rw [← hM]]
   by_cases h2:Zh a.V=Zh b.V
   ·rw [zM (x:=.inl ()) (by unfold Q_; exact q6 (by omega) (qy f2 (w_f (z z2 h2) (qD rfl))))]
    show q_ (Ze N a b) (Jq N N (a,b)) N ()=_
    rw [show q_ (Ze N a b) (Jq N N (a,b)) N ()=q_ (Ze N a b) (Jq N N (a,b)) (M + 1) () by rw [← hM]]
    by_cases h3:a.V=b.V
    ·rw [zM (x:=.inl ()) (by unfold Ze; exact q6 (by omega) (qy f3 (w_f (z z3 h3) (qD rfl))))]
     show q_ (Jv N a b) some N ()=_
     rw [show q_ (Jv N a b) some N ()=q_ (Jv N a b) some (M + 1) () by rw [← hM]]
     rw [zM (x:=.inr ()) (by unfold Jv; exact qD rfl),if_pos ⟨h1,h2,h3⟩]
    ·rw [zM (x:=.inr (.inl (decide (n3 < 0)))) (by unfold Ze; exact q6 (by omega) (qy f3 (w_t (nz z3 h3) (qD rfl)))),if_neg (fun h=>h3 h.2.2)]
     show some (Sum.inl (decide (n3 < 0)))=_
     rw [l3 h3]
     unfold j9
     rw [if_pos h1,if_pos h2]
   ·rw [zM (x:=.inr (.inl (decide (n2 < 0)))) (by unfold Q_; exact q6 (by omega) (qy f2 (w_t (nz z2 h2) (qD rfl)))),if_neg (fun h=>h2 h.2.1)]
    show some (Sum.inl (decide (n2 < 0)))=_
    rw [l2 h2]
    unfold j9
    rw [if_pos h1,if_neg h2]
  ·rw [zM (x:=.inr (.inl (decide (n1 < 0)))) (by unfold Y7; exact q6 (by omega) (qy f1 (w_t (nz z1 h1) (qD rfl)))),if_neg (fun h=>h1 h.1)]
   show some (Sum.inl (decide (n1 < 0)))=_
   rw [l1 h1]
   unfold j9
   rw [if_neg h1]
 unfold qfU qg_
 refine qy hl ?_
 by_cases h:a.S=b.S∧Zh a.V=Zh b.V∧a.V=b.V
 ·rw [if_pos h]
  show some false=_
  unfold j9
  rw [if_pos h.1,if_pos h.2.1,h.2.2,Xz]
 ·rw [if_neg h]; rfl
theorem qKS {a b:qd} (ha:a.V.length≤50000) (hb:b.V.length≤50000):qgc N a b=some (cJ a b):=by
 unfold qgc qhs cJ
 refine qy (qFY ha hb) ?_
 cases j9 a b<;>rfl
theorem qKB (a b:qf):qf7 N a b=some (mxS a b):=by
 unfold qf7 qg5 mxS
 refine qy (qcX _ _) ?_
 cases slB a b<;>rfl
end
end Go.Rx
end
set_option maxRecDepth 100000
noncomputable section
namespace Go.Rx
open Go.Proofs
section
variable {N:Nat} [Q0 N]
theorem qI7 {l : List qc} (h8 : l.length ≤ 600) (hV : ∀ k, k < l.length → (l.getD k zF).C.V.length ≤ 200) {c : Nat} {M : List (Int × qd × Nat)} {g : Int → Option qd} (hM : ∀ no, YQ no M = g no) (hg : qd3 g) :
    ∃ c' M',WT N l ((l.length:Nat):Int) c M 0=some (c',M',((l.length:Nat):Int),false)∧(∀ no,YQ no M'=l.foldl Vy g no)∧qd3 (l.foldl Vy g):=by
 have key:∃ y,q_ (QI N l ((l.length:Nat):Int)) some N (c,M,((0:Nat):Int))=some y∧∃ c' M',y=(c',M',((l.length:Nat):Int),false)∧(∀ no,YQ no M'=l.foldl Vy g no)∧qd3 (l.foldl Vy g):=by
  refine qjU (I:=fun v=>∃ (k c':Nat) (M':List (Int×qd×Nat)),k≤l.length∧v=(c',M',(k:Int))∧(∀ no,YQ no M'=(l.take k).foldl Vy g no)∧qd3 ((l.take k).foldl Vy g)) (fun v=>l.length - v.2.2.toNat) ?_ N _ ⟨0,c,M,Nat.zero_le _,rfl,hM,hg⟩ (by have:=big N; simp; omega)
  rintro v ⟨k,c',M',hk,rfl,hi,hs⟩
  by_cases h:k < l.length
  ·left
   have et:(l.take (k + 1)).foldl Vy g=Vy ((l.take k).foldl Vy g) (l.getD k zF):=by
    rw [List.take_succ_eq_append_getElem h,List.foldl_append,List.getD_eq_getElem?_getD,List.getElem?_eq_getElem h]; rfl
   have hs':qd3 ((l.take (k + 1)).foldl Vy g):=by rw [et]; exact qAS hs (hV k h)
   have hno:=hi (l.getD k zF).No
   unfold YQ at hno
   cases e:fnd (β:=qd) (.i .i64) (l.getD k zF).No M' with
   | none=>
    rw [e] at hno
    refine ⟨((QT (.i .i64) (qc.No (l.getD k zF)) (qc.C (l.getD k zF)) c' M').1,(QT (.i .i64) (qc.No (l.getD k zF)) (qc.C (l.getD k zF)) c' M').2,((k + 1:Nat):Int)),?_,⟨k + 1,_,_,h,rfl,?_,hs'⟩,by simp only [Int.toNat_natCast]; omega⟩
    ·unfold QI
     exact w_t (dec_lt h) (qy (jV (d:=zF) h) (qxY e (q6 (Q9 (by omega)) (qD (by rw [zB])))))
    ·intro no
     rw [qww,et,qxQ]
     by_cases hq:no=(l.getD k zF).No
     ·rw [if_pos hq,if_pos hq.symm,hq,← hno]; rfl
     ·rw [if_neg hq,if_neg (fun e=>hq e.symm),hi no]
   | some x=>
    rw [e] at hno
    have hx:x.1.V.length≤200:=hs _ _ hno.symm
    refine ⟨((QT (.i .i64) (qc.No (l.getD k zF)) (cJ x.1 (qc.C (l.getD k zF))) c' M').1,(QT (.i .i64) (qc.No (l.getD k zF)) (cJ x.1 (qc.C (l.getD k zF))) c' M').2,((k + 1:Nat):Int)),?_,⟨k + 1,_,_,h,rfl,?_,hs'⟩,by simp only [Int.toNat_natCast]; omega⟩
    ·unfold QI
     exact w_t (dec_lt h) (qy (jV (d:=zF) h) (qql e (qy (qKS (by omega) (by have:(l.getD k zF).C.V.length≤200:=hV k h; omega)) (q6 (Q9 (by omega)) (qD (by rw [zB]))))))
    ·intro no
     rw [qww,et,qxQ]
     by_cases hq:no=(l.getD k zF).No
     ·rw [if_pos hq,if_pos hq.symm,hq,← hno]; rfl
     ·rw [if_neg hq,if_neg (fun e=>hq e.symm),hi no]
  ·right
   obtain rfl:k=l.length:=by omega
   refine ⟨(c',M',((l.length:Nat):Int),false),_,?_,rfl,c',M',rfl,?_⟩
   ·unfold QI
    exact w_f (jt (Nat.lt_irrefl _)) (qD (by rw [jt (Nat.lt_irrefl _)]))
   ·rw [List.take_of_length_le (Nat.le_refl _)] at hi hs
    exact ⟨hi,hs⟩
 obtain ⟨y,e,c',M',rfl,h⟩:=key
 exact ⟨c',M',e,h⟩
theorem qzS {r : qa} (hr : je r = true) {c : Nat} {M : List (Int × qd × Nat)} {g : Int → Option qd} (hM : ∀ no, YQ no M = g no) (hg : qd3 g) :
    ∃ c' M',JX N c M r=some (c',M')∧(∀ no,YQ no M'=jC (g no) (cO r.F no))∧qd3 (r.F.foldl Vy g):=by
 have h8:=qct hr
 obtain ⟨c',M',e,h,hs⟩:=qI7 (N:=N) (l:=r.F) (by omega) (fun k hk=>qwS (VG.1 ((Wd.1 hr).2.2 k hk)).2.2.1) (c:=c) hM hg
 refine ⟨c',M',?_,fun no=>?_,hs⟩
 ·unfold JX Yx
  exact qy e (qD rfl)
 ·rw [h,qse (qxA hr)]
theorem qFI {o : List qc} {c : Nat} {M : List (Int × qd × Nat)} {o5 : Vector UInt8 16} {o6 : qf} {o7 : Vector UInt8 16} {o8 dead : qf} :
    Z3 N o [] c M o5 o6 o7 o8 dead=some (Zf (fun no=>YQ no M) dead 8 0):=by
 have key:J2 N o c M o5 o6 o7 o8 dead [] 0=some (VB (fun k s=>s++qga dead k (YQ (k:Int) M)) 8 0 [],(8:Int),false):=by
  refine ZS (σ:=List qc) (B:=Qq N o c M o5 o6 o7 o8 dead) (g:=some) (at_:=fun k s=>(s,(k:Int))) (I:=fun k s=>s.length≤k) (f:=fun k s=>s++qga dead k (YQ (k:Int) M)) (n:=8)
   (fin:=fun s=>(s,(8:Int),false)) (fun k s hk hs=>⟨?_,?_⟩) (fun s _=>?_) N 0 [] (Nat.le_refl _) (Nat.zero_le _) (by have:=big N; omega)
  ·have d8:decide ((k:Int) < 8)=true:=decide_eq_true (by omega)
   unfold Qq
   refine w_t d8 ?_
   unfold YQ
   cases e:fnd (β:=qd) (.i .i64) (k:Int) M with
   | none=>exact qxY rfl (q6 (Q9 (by omega)) (qD (by rw [zB]; show _=some (Sum.inl (s++[],_)); rw [List.append_nil])))
   | some x=>
    refine qql rfl (qy (qcX _ _) ?_)
    have hk2:qga dead k (Option.map (fun x=>x.1) (some x))=if slB dead x.1.S=true then [qc.mk (k:Int) x.1] else []:=rfl
    rw [hk2]
    cases hb:slB dead (qd.S x.1) with
    | false=>
     rw [if_neg (by simp),List.append_nil]
     exact w_f rfl (q6 (Q9 (by omega)) (qD (by rw [zB])))
    | true=>
     rw [if_pos rfl]
     have er:XM o s c M o5 o6 o7 o8 dead (qc.mk (k:Int) x.1)=some ():=by
      unfold XM Yp
      exact q6 ⟨rfl,by rw [List.length_append]; unfold zi; simp; omega⟩ (qD rfl)
     exact w_t rfl (qy ((jK rfl).trans ((jK rfl).trans er)) (q6 (Q9 (by omega)) (qD (by rw [zB]))))
  ·have:=qt3 (dead:=dead) (k:=k) (c:=YQ (k:Int) M)
   rw [List.length_append]; omega
  ·unfold Qq
   exact w_f rfl (qD rfl)
 unfold Z3 Va
 refine qy ((jK rfl).trans ((jK rfl).trans key)) (qD ?_)
 rw [qk1 (g:=fun no=>YQ no M),List.nil_append]
theorem qKN {a b:qa} (ha:je a=true) (hb:je b=true) (hid:a.ID=b.ID):qjO N a b=some (rJ a b,true):=by
 have hN:=big N
 have h8a:=qct ha
 have h8b:=qct hb
 obtain ⟨c1,M1,e1,h1,s1⟩:=qzS (N:=N) ha (c:=0) (M:=[]) (g:=fun _=>none) (fun no=>rfl) (fun no c h=>by cases h)
 obtain ⟨c2,M2,e2,h2,_⟩:=qzS (N:=N) hb (c:=c1) (M:=M1) (g:=fun no=>cO a.F no) (fun no=>by rw [h1]; rfl) (by
  have:(a.F.foldl Vy fun _=>none)=fun no=>cO a.F no:=by funext no; rw [qse (qxA ha)]; rfl
  rw [← this]; exact s1)
 have ef:=qFI (N:=N) (o:=[]) (c:=c2) (M:=M2) (o5:=Vector.replicate 16 0) (o6:=qf.mk 0 0) (o7:=a.ID) (o8:=mxS a.qX b.qX) (dead:=mxS a.qX b.qX)
 have eg:(fun no=>YQ no M2)=fun no=>jC (cO a.F no) (cO b.F no):=funext h2
 rw [eg] at ef
 unfold qjO qiX
 exact qy (qno (by omega) (by omega)) (w_f (by rw [ha]; rfl) (qy (qno (by omega) (by omega)) (w_f (by rw [hb]; rfl) (w_f (by rw [qwF]; show (!decide (a.ID=b.ID))=false; rw [decide_eq_true hid]; rfl)
  (qy e1 (qy e2 (qy (qKB _ _) (qy rfl (qy ((jK rfl).trans ((jK rfl).trans ef)) (q6 rfl (qD rfl)))))))))))
end
end Go.Rx
end
set_option maxRecDepth 100000
noncomputable section
namespace Go.Rx
open Go.Proofs
section n
variable {N:Nat} [Q0 N]
theorem qDY {l:List qa} {id:Vector UInt8 16} (h:l.length≤600):JA N id l=some (qKq (qsZ l id)):=by
 have key:=qgg (B:=vE N id l ((l.length:Nat):Int)) (g:=some) (p:=fun k=>decide ((l.getD k zR).ID=id)) (n:=l.length) (hit:=fun k=>.inl (k:Int)) (fin:=.inr (((l.length:Nat):Int),false)) (fun k hk=>by
  unfold vE qhh qdr
  rw [qJ,dec_lt hk,cond_true,run_bind,jV (d:=zR) hk,Option.bind_some,run_bind,qS,Option.bind_some,qJ,qwF,qS,zA,qm (show qz ((k:Int) + 1) by unfold qz; omega),qS,zB]
  cases decide ((l.getD k zR).ID=id)<;>rfl) (by
  unfold vE
  rw [qJ,jt (Nat.lt_irrefl _),cond_false,qS]) N 0 (Nat.zero_le _) (by have:=big N; omega)
 have e:Vb N id l ((l.length:Nat):Int) 0=q_ (vE N id l ((l.length:Nat):Int)) some N ((0:Nat):Int):=rfl
 unfold JA VK
 rw [run_bind,e,key,Nat.sub_zero]
 unfold qsZ
 cases Jo (fun k=>decide ((l.getD k zR).ID=id)) l.length 0<;>rfl
theorem qEl {l:List qc} {no:Int} (h:l.length≤600):ZN N no l=some (qKq (qxj l no)):=by
 have key:=qgg (B:=jU N no l ((l.length:Nat):Int)) (g:=some) (p:=fun k=>decide ((l.getD k zF).No=no)) (n:=l.length) (hit:=fun k=>.inl (k:Int)) (fin:=.inr (((l.length:Nat):Int),false)) (fun k hk=>by
  unfold jU qjL qeV
  rw [qJ,dec_lt hk,cond_true,run_bind,jV (d:=zF) hk,Option.bind_some,run_bind,qS,Option.bind_some,qJ,qS,zA,qm (show qz ((k:Int) + 1) by unfold qz; omega),qS,zB]
  cases decide ((l.getD k zF).No=no)<;>rfl) (by
  unfold jU
  rw [qJ,jt (Nat.lt_irrefl _),cond_false,qS]) N 0 (Nat.zero_le _) (by have:=big N; omega)
 have e:JC N no l ((l.length:Nat):Int) 0=q_ (jU N no l ((l.length:Nat):Int)) some N ((0:Nat):Int):=rfl
 unfold ZN J4
 rw [run_bind,e,key,Nat.sub_zero]
 unfold qxj
 cases Jo (fun k=>decide ((l.getD k zF).No=no)) l.length 0<;>rfl
theorem qtK {l:List qc} (h:l.length≤1000000):Qk l=some ():=by
 unfold Qk
 cases l with
 | nil=>kernel_rfl
 | cons x r=>
  show Yn (x::r)=_
  unfold Yn XT
  have h2:VN ([]:List qc).length 0 ([]++x::r).length 40:=⟨rfl,by rw [List.nil_append]; unfold zi; omega⟩
  rw [zA,qm (List.isEmpty_cons),zA,qm h2,zA,qm rfl,qS]
theorem qHv {b:qb} (h:zy b=true) (id:Vector UInt8 16):qfL N b id=some (recAt b id):=by
 have hb:=qcT.1 h
 unfold qfL qgD recAt
 rw [run_bind,qDY (by omega),Option.bind_some]
 cases e:qsZ b.R id with
 | none=>rfl
 | some i=>
  have hi:=(qk2 e).1
  have hn:decide (((i:Nat):Int) < 0)=false:=decide_eq_false (by omega)
  have hF:=qct (hb.1 i hi).1
  have ho:qaw (b.R.getD i zR)=some ():=by
   unfold qaw qel
   rw [run_bind,qtK (by omega),Option.bind_some,qS]
  show (Tree.cond (decide (((i:Nat):Int) < 0)) _ (Tree.bind (zn (qb.R b) ((i:Nat):Int)) _)).run some=_
  rw [qJ,hn,cond_false,run_bind,jV (d:=zR) hi,Option.bind_some,run_bind,ho,Option.bind_some,qS]
  rfl
theorem qFN {r:qa} (h:r.F.length≤8) (no:Int):qiw N r no=some (cellAt r no):=by
 unfold qiw qiL cellAt
 rw [run_bind,qEl (by omega),Option.bind_some]
 cases e:qxj r.F no with
 | none=>rfl
 | some i=>
  have hi:=(qk2 e).1
  have hn:decide (((i:Nat):Int) < 0)=false:=decide_eq_false (by omega)
  show (Tree.cond (decide (((i:Nat):Int) < 0)) _ (Tree.bind (zn (qa.F r) ((i:Nat):Int)) _)).run some=_
  rw [qJ,hn,cond_false,run_bind,jV (d:=zF) hi,Option.bind_some,qS]
end n
end Go.Rx
end
set_option maxRecDepth 100000
noncomputable section
namespace Go.Rx
open Go.Proofs
def qnj (g:Vector UInt8 16→Option qa) (r:qa) (id:Vector UInt8 16):Option qa:=if r.ID=id then jR (g id) (some r) else g id
theorem qpx {g:Vector UInt8 16→Option qa} {r:qa} {id:Vector UInt8 16}:qnj g r id=if r.ID=id then jR (g id) (some r) else g id:=rfl
theorem qsT {x:Option qa}:jR x none=x:=by cases x<;>rfl
theorem qs7:∀ {l:List qa} {g:Vector UInt8 16→Option qa} {id:Vector UInt8 16},qcw l→l.foldl qnj g id=jR (g id) (rO l id)
 | [],g,id,_=>by rw [qvU,qsT]; rfl
 | r::l,g,id,h=>by
  have hp:=List.pairwise_cons.1 h
  rw [List.foldl_cons,qs7 hp.2,Y5,qpx]
  by_cases e:r.ID=id
  ·rw [if_pos e,if_pos e]
   have:rO l id=none:=by
    cases hc:rO l id with
    | none=>rfl
    | some x=>
     have:=hp.1 x (ZY hc).1
     rw [e,(ZY hc).2,qfn] at this; cases this
   rw [this,qsT]
  ·rw [if_neg e,if_neg e]
def Jz (id:Vector UInt8 16) (M:List (Vector UInt8 16×qa×Nat)):Option qa:=(fnd (β:=qa) (.ba 16) id M).map (·.1)
theorem qxe {q k:Vector UInt8 16} {p:qa} {c:Nat} {M:List (Vector UInt8 16×qa×Nat)}:Jz q (QT (β:=qa) (.ba 16) k p c M).2=if q=k then some p else Jz q M:=by
 have:=@qo2 (El (.ba 16)) qa (JE (.ba 16)) k q p c M
 rw [show Jz q (QT (β:=qa) (.ba 16) k p c M).2=@qoM (El (.ba 16)) qa (JE (.ba 16)) q (@qeX (El (.ba 16)) qa (JE (.ba 16)) k p c M).2 from rfl,this]
 by_cases h:q=k
 ·rw [if_pos h]; exact if_pos h
 ·rw [if_neg h]; exact if_neg h
structure qF8 (l:List qa) (nm:List (Vector UInt8 16)) (M:List (Vector UInt8 16×qa×Nat)):Prop where
 nd:nm.Nodup
 val:∀ id,Jz id M=l.foldl qnj (fun _=>none) id
 mem:∀ id,id∈nm↔Jz id M≠none
 ok:∀ id r,Jz id M=some r→je r=true∧r.ID=id
 len:nm.length≤l.length
def KC (M:List (Vector UInt8 16×qa×Nat)) (l:List (Vector UInt8 16)):List qa:=l.map fun id=>(Jz id M).getD zR
theorem qDm {M:List (Vector UInt8 16×qa×Nat)} {id:Vector UInt8 16}:∀ {l:List (Vector UInt8 16)},(∀ i∈l,∃ r,Jz i M=some r∧r.ID=i)→rO (KC M l) id=if id∈l then Jz id M else none
 | [],_=>by rw [if_neg List.not_mem_nil]; rfl
 | i::l,h=>by
  obtain ⟨r,e,hr⟩:=h i (List.mem_cons_self ..)
  show rO ((Jz i M).getD zR::KC M l) id=_
  rw [e,Y5,qDm fun j hj=>h j (List.mem_cons_of_mem _ hj)]
  by_cases c:i=id
  ·subst c
   rw [if_pos (show (Option.getD (some r) zR).ID=i from hr),if_pos (List.mem_cons_self ..),e]; rfl
  ·rw [if_neg (show ¬ (Option.getD (some r) zR).ID=id from fun h'=>c (hr.symm.trans h'))]
   by_cases m:id∈l
   ·rw [if_pos m,if_pos (List.mem_cons_of_mem _ m)]
   ·rw [if_neg m,if_neg (fun hm=>by rcases List.mem_cons.1 hm with e' | e'; exact c e'.symm; exact m e')]
section
variable {N:Nat} [Q0 N]
theorem qtT {α:Type} {l:List (List α)} {k:Nat} (h:k < l.length):(l.take (k + 1)).flatten=(l.take k).flatten++l.getD k []:=by
 rw [qiG (d:=[]) h,List.flatten_append]; simp
theorem qAf {α:Type} {l:List (List α)} {k:Nat}:(l.take k).flatten.length≤l.flatten.length:=by
 have:(l.take k).flatten++(l.drop k).flatten=l.flatten:=by rw [← List.flatten_append,List.take_append_drop]
 rw [← this,List.length_append]; omega
theorem qBR {l:List (List qa)} (hl:l.length≤1000) (hf:l.flatten.length≤1000):VY N l=some l.flatten:=by
 have hN:=big N
 have k1:X_ N l l ((l.length:Nat):Int) 0 0=some (((l.flatten.length:Nat):Int),((l.length:Nat):Int),false):=by
  refine ZS (σ:=Unit) (B:=ZM N l l ((l.length:Nat):Int)) (g:=some) (at_:=fun k _=>((((l.take k).flatten.length:Nat):Int),(k:Int))) (I:=fun _ _=>True) (f:=fun _ s=>s) (n:=l.length)
   (fin:=fun _=>(((l.flatten.length:Nat):Int),((l.length:Nat):Int),false)) (fun k s hk _=>⟨?_,trivial⟩) (fun s _=>?_) N 0 () trivial (Nat.zero_le _) (by omega)
  ·have e1:(((l.take k).flatten.length:Nat):Int) + (((l.getD k []).length:Nat):Int)=(((l.take (k + 1)).flatten.length:Nat):Int):=by rw [qtT hk,List.length_append]; omega
   have h2:=qAf (l:=l) (k:=k + 1)
   unfold ZM
   refine w_t (dec_lt hk) (qy (jV (d:=[]) hk) ?_)
   dsimp only
   rw [e1]
   exact q6 (by unfold qz; omega) (w_f (decide_eq_false (by omega)) (q6 (Q9 (by omega)) (qD (by rw [zB]))))
  ·unfold ZM
   exact w_f (jt (Nat.lt_irrefl _)) (qD (by rw [jt (Nat.lt_irrefl _),List.take_of_length_le (Nat.le_refl _)]))
 have k2:Z4 N l ((l.length:Nat):Int) [] 0=some (l.flatten,((l.length:Nat):Int),false):=by
  refine ZS (σ:=Unit) (B:=Zn N l ((l.length:Nat):Int)) (g:=some) (at_:=fun k _=>((l.take k).flatten,(k:Int))) (I:=fun _ _=>True) (f:=fun _ s=>s) (n:=l.length)
   (fin:=fun _=>(l.flatten,((l.length:Nat):Int),false)) (fun k s hk _=>⟨?_,trivial⟩) (fun s _=>?_) N 0 () trivial (Nat.zero_le _) (by omega)
  ·have h2:=qAf (l:=l) (k:=k + 1)
   unfold Zn
   refine w_t (dec_lt hk) (qy (jV (d:=[]) hk) ?_)
   dsimp only
   rw [← qtT hk]
   exact q6 ⟨rfl,by unfold zi; omega⟩ (q6 (Q9 (by omega)) (qD (by rw [zB])))
  ·unfold Zn
   exact w_f (jt (Nat.lt_irrefl _)) (qD (by rw [jt (Nat.lt_irrefl _),List.take_of_length_le (Nat.le_refl _)]))
 unfold VY WI
 refine qy k1 ?_
 by_cases h0:l.flatten.length=0
 ·have kg : ZU ((l.flatten.length : Nat) : Int) = some (.inr ()) := by
     unfold ZU V4
     exact w_f (decide_eq_false (by omega)) (q6 (by unfold qz; omega) (w_f (decide_eq_false (by omega)) (qD rfl)))
  exact qy kg (w_r rfl (qy ((jK rfl).trans k2) (q6 rfl (qD rfl))))
 ·have kg : ZU ((l.flatten.length : Nat) : Int) = some (.inl ()) := by
     unfold ZU V4
     exact w_f (decide_eq_false (by omega)) (q6 (by unfold qz; omega) (w_t (decide_eq_true (by omega)) (q6 ⟨by omega,by unfold zi; omega⟩ (qD rfl))))
  exact qy kg (w_l rfl (qy ((jK rfl).trans k2) (q6 rfl (qD rfl))))
theorem qIK {r:qa} (h:je r=true):qaw r=some ():=by
 unfold qaw qel
 exact qy (qtK (by have:=qct h; omega)) (qD rfl)
theorem qG3 {L : List qa} (hl : L.length ≤ 1000) (hr : ∀ r ∈ L, je r = true) :
    ∃ nm c M,qfh N [] L ((L.length:Nat):Int) [] 0 [] 0=some (nm,c,M,((L.length:Nat):Int),false)∧qF8 L nm M:=by
 have hN:=big N
 have key:∃ y,q_ (Xc N [] L ((L.length:Nat):Int)) some N ([],0,[],((0:Nat):Int))=some y∧∃ nm c M,y=(nm,c,M,((L.length:Nat):Int),false)∧qF8 L nm M:=by
  refine qjU (I:=fun v=>∃ (k:Nat) (nm:List (Vector UInt8 16)) (c:Nat) (M:List (Vector UInt8 16×qa×Nat)),k≤L.length∧v=(nm,c,M,(k:Int))∧qF8 (L.take k) nm M) (fun v=>L.length - v.2.2.2.toNat) ?_ N _ ⟨0,[],0,[],Nat.zero_le _,rfl,⟨List.nodup_nil,fun _=>rfl,fun id=>⟨fun h=>absurd h List.not_mem_nil,fun h=>(h rfl).elim⟩,fun _ _ h=>(by cases h),Nat.le_refl _⟩⟩ (by simp; omega)
  rintro v ⟨k,nm,c,M,hk,rfl,hi⟩
  by_cases h:k < L.length
  ·left
   have hmem:L.getD k zR∈L:=by rw [List.getD_eq_getElem?_getD,List.getElem?_eq_getElem h]; exact List.getElem_mem h
   have hrec:=hr _ hmem
   have et:∀ id,(L.take (k + 1)).foldl qnj (fun _=>none) id=qnj ((L.take k).foldl qnj fun _=>none) (L.getD k zR) id:=fun id=>by
    rw [qiG (d:=zR) h,List.foldl_append]; rfl
   have hlk:(L.take k).length=k:=by rw [List.length_take]; omega
   have hlk1:(L.take (k + 1)).length=k + 1:=by rw [List.length_take]; omega
   have hv:=hi.val (L.getD k zR).ID
   have hnl:=hi.len
   cases e:fnd (β:=qa) (.ba 16) (L.getD k zR).ID M with
   | none=>
    have hn:Jz (L.getD k zR).ID M=none:=by unfold Jz; rw [e]; rfl
    rw [hn] at hv
    refine ⟨(nm++[(L.getD k zR).ID],(QT (.ba 16) (qa.ID (L.getD k zR)) (L.getD k zR) c M).1,(QT (.ba 16) (qa.ID (L.getD k zR)) (L.getD k zR) c M).2,((k + 1:Nat):Int)),?_,⟨k + 1,_,_,_,h,rfl,?_⟩,by simp only [Int.toNat_natCast]; omega⟩
    ·unfold Xc
     exact w_t (dec_lt h) (qy (jV (d:=zR) h) (qxY e (q6 ⟨rfl,by rw [List.length_append]; unfold zi; simp; omega⟩ (qy (qIK hrec) (q6 (Q9 (by omega)) (qD (by rw [zB]; rfl)))))))
    ·have hpv:∀ id,Jz id (QT (.ba 16) (qa.ID (L.getD k zR)) (L.getD k zR) c M).2=if id=(L.getD k zR).ID then some (L.getD k zR) else Jz id M:=fun id=>qxe
     refine ⟨?_,fun id=>?_,fun id=>?_,fun id r hr'=>?_,?_⟩
     ·refine List.nodup_append.2 ⟨hi.nd,List.nodup_cons.2 ⟨List.not_mem_nil,List.nodup_nil⟩,fun a ha b hb=>?_⟩
      obtain rfl:=List.mem_singleton.1 hb
      intro hab
      rw [hab] at ha
      exact (hi.mem _).1 ha hn
     ·rw [hpv,et,qpx]
      by_cases q:id=(L.getD k zR).ID
      ·rw [if_pos q,if_pos q.symm,q,← hv]; rfl
      ·rw [if_neg q,if_neg (fun x=>q x.symm),hi.val]
     ·rw [hpv,List.mem_append,List.mem_singleton,hi.mem]
      by_cases q:id=(L.getD k zR).ID
      ·rw [if_pos q]; exact ⟨fun _=>by simp,fun _=>.inr q⟩
      ·rw [if_neg q]; exact ⟨fun x=>x.resolve_right q,fun x=>.inl x⟩
     ·rw [hpv] at hr'
      by_cases q:id=(L.getD k zR).ID
      ·rw [if_pos q] at hr'
       obtain rfl:=Option.some.inj hr'
       exact ⟨hrec,q.symm⟩
      ·rw [if_neg q] at hr'; exact hi.ok id r hr'
     ·rw [hlk1,List.length_append]; simp; omega
   | some x=>
    have hn:Jz (L.getD k zR).ID M=some x.1:=by unfold Jz; rw [e]; rfl
    rw [hn] at hv
    have hx:=hi.ok _ _ hn
    have ej:=qKN (N:=N) hx.1 hrec hx.2
    refine ⟨(nm,(QT (.ba 16) (qa.ID (L.getD k zR)) (rJ x.1 (L.getD k zR)) c M).1,(QT (.ba 16) (qa.ID (L.getD k zR)) (rJ x.1 (L.getD k zR)) c M).2,((k + 1:Nat):Int)),?_,⟨k + 1,_,_,_,h,rfl,?_⟩,by simp only [Int.toNat_natCast]; omega⟩
    ·unfold Xc
     exact w_t (dec_lt h) (qy (jV (d:=zR) h) (qql e (qy ej (q6 (Q9 (by omega)) (qD (by rw [zB]))))))
    ·have hpv:∀ id,Jz id (QT (.ba 16) (qa.ID (L.getD k zR)) (rJ x.1 (L.getD k zR)) c M).2=if id=(L.getD k zR).ID then some (rJ x.1 (L.getD k zR)) else Jz id M:=fun id=>qxe
     refine ⟨hi.nd,fun id=>?_,fun id=>?_,fun id r hr'=>?_,?_⟩
     ·rw [hpv,et,qpx]
      by_cases q:id=(L.getD k zR).ID
      ·rw [if_pos q,if_pos q.symm,q,← hv]; rfl
      ·rw [if_neg q,if_neg (fun x=>q x.symm),hi.val]
     ·rw [hpv,hi.mem]
      by_cases q:id=(L.getD k zR).ID
      ·rw [if_pos q,q,hn]; simp
      ·rw [if_neg q]
     ·rw [hpv] at hr'
      by_cases q:id=(L.getD k zR).ID
      ·rw [if_pos q] at hr'
       obtain rfl:=Option.some.inj hr'
       exact ⟨Jj hx.1 hrec,by rw [qKU,hx.2,q]⟩
      ·rw [if_neg q] at hr'; exact hi.ok id r hr'
     ·rw [hlk1]; omega
  ·right
   obtain rfl:k=L.length:=by omega
   rw [List.take_of_length_le (Nat.le_refl _)] at hi
   refine ⟨(nm,c,M,((L.length:Nat):Int),false),_,?_,rfl,nm,c,M,rfl,hi⟩
   unfold Xc
   exact w_f (jt (Nat.lt_irrefl _)) (qD (by rw [jt (Nat.lt_irrefl _)]))
 obtain ⟨y,e,nm,c,M,rfl,h⟩:=key
 exact ⟨nm,c,M,e,h⟩
theorem qJA {nm : List (Vector UInt8 16)} {c n : Nat} {M : List (Vector UInt8 16 × qa × Nat)} (hn : nm.length = n) (hl : n ≤ 1000) (h : ∀ i ∈ nm, ∃ r, Jz i M = some r ∧ r.ID = i) :
    qdp N [] nm c M n ((n:Nat):Int) [] 0=some (KC M nm,((n:Nat):Int),false):=by
 subst hn
 have hN:=big N
 refine ZS (σ:=Unit) (B:=WU N [] nm c M nm.length ((nm.length:Nat):Int)) (g:=some) (at_:=fun k _=>(KC M (nm.take k),(k:Int))) (I:=fun _ _=>True) (f:=fun _ s=>s) (n:=nm.length)
  (fin:=fun _=>(KC M nm,((nm.length:Nat):Int),false)) (fun k s hk _=>⟨?_,trivial⟩) (fun s _=>?_) N 0 () trivial (Nat.zero_le _) (by omega)
 ·have hmem:nm.getD k (Vector.replicate 16 0)∈nm:=by rw [List.getD_eq_getElem?_getD,List.getElem?_eq_getElem hk]; exact List.getElem_mem hk
  obtain ⟨r,hr,_⟩:=h _ hmem
  have hf:∃ x,fnd (β:=qa) (.ba 16) (nm.getD k (Vector.replicate 16 0)) M=some x∧x.1=r:=by
   unfold Jz at hr
   cases e:fnd (β:=qa) (.ba 16) (nm.getD k (Vector.replicate 16 0)) M with
   | none=>rw [e] at hr; cases hr
   | some x=>rw [e] at hr; exact ⟨x,rfl,Option.some.inj hr⟩
  obtain ⟨x,ex,hx⟩:=hf
  have eo:KC M (nm.take (k + 1))=KC M (nm.take k)++[x.1]:=by
   unfold KC
   rw [qiG (d:=Vector.replicate 16 0) hk,List.map_append,List.map_cons,hr,hx]; rfl
  have cav:VN (KC M (nm.take k)).length (KC M (nm.take k)).length (KC M (nm.take k)++[x.1]).length 56:=⟨rfl,by
   rw [List.length_append]; unfold KC; rw [List.length_map,List.length_take]; unfold zi; simp; omega⟩
  unfold WU
  exact w_t (dec_lt hk) (q6 ⟨by show (0:Int)≤(k:Int); omega,by show (k:Int) < _; omega⟩ (qy (qJ7 rfl hk) (qql ex (q6 cav (q6 (Q9 (by omega)) (qD (by rw [zB,eo])))))))
 ·unfold WU
  exact w_f (jt (Nat.lt_irrefl _)) (qD (by rw [jt (Nat.lt_irrefl _),List.take_of_length_le (Nat.le_refl _)]))
theorem qcc {b:qb} (h:zy b=true):jN N b:=by
 have hN:=big N
 have hb:=qcT.1 h
 exact ⟨by omega,by omega,fun k hk=>by have:=qct (hb.1 k hk).1; exact ⟨by omega,by omega⟩⟩
def qgo (c:List qa):qb×Int:=if c.length≤10 then (qb.mk c,0) else (qb.mk [],4)
theorem qye {a b:qb} (ha:zy a=true) (hb:zy b=true):∃ c,qe6 a.R b.R c∧Vv N a b=some (qgo c):=by
 have hA:=ZL.1 ha
 have hB:=ZL.1 hb
 have hfl:[a.R,b.R].flatten=a.R++b.R:=by simp
 have hll:(a.R++b.R).length≤20:=by rw [List.length_append]; omega
 have ec:=qBR (N:=N) (l:=[a.R,b.R]) (by simp) (by rw [hfl]; omega)
 rw [hfl] at ec
 obtain ⟨nm,c,M,el,hi⟩:=qG3 (N:=N) (L:=a.R++b.R) (by omega) (fun r hr=>by
  rcases List.mem_append.1 hr with h | h
  ·exact hA.1.2 r h
  ·exact hB.1.2 r h)
 have hval:∀ id,Jz id M=jR (rO a.R id) (rO b.R id):=fun id=>by
  rw [hi.val,List.foldl_append,qs7 hB.1.1,qs7 hA.1.1]; rfl
 obtain ⟨hs,hp⟩:=qGA hi.nd
 have hin:∀ i∈vT nm,∃ r,Jz i M=some r∧r.ID=i:=fun i h=>by
  have:=(hi.mem i).1 (hp.mem_iff.1 h)
  cases e:Jz i M with
  | none=>exact (this e).elim
  | some r=>exact ⟨r,rfl,(hi.ok i r e).2⟩
 have hlen:(KC M (vT nm)).length=nm.length:=by unfold KC; rw [List.length_map,hp.length_eq]
 refine ⟨KC M (vT nm),⟨?_,fun id=>?_⟩,?_⟩
 ·unfold qcw KC
  rw [List.pairwise_map]
  refine (List.Pairwise.and_mem.1 hs).imp fun {i j} h=>?_
  obtain ⟨r,e1,h1⟩:=hin i h.1
  obtain ⟨s,e2,h2⟩:=hin j h.2.1
  rw [e1,e2]
  show lbB r.ID s.ID=true
  rw [h1,h2]; exact h.2.2
 ·rw [qDm hin,← hval]
  by_cases m:id∈vT nm
  ·rw [if_pos m]
  ·rw [if_neg m]
   cases e:Jz id M with
   | none=>rfl
   | some r=>exact (m (hp.mem_iff.2 ((hi.mem id).2 (by rw [e]; simp)))).elim
 ·have hnl:=hi.len
  unfold Vv qcL
  refine qy (qcE (qcc ha)) (w_f (by rw [ha]; rfl) (qy (qcE (qcc hb)) (w_f (by rw [hb]; rfl) (qy ec (qy ((jK rfl).trans ((jK rfl).trans el)) ?_)))))
  unfold qgo
  rw [hlen]
  by_cases h10:nm.length≤10
  ·rw [if_pos h10]
   exact w_f (decide_eq_false (by show ¬ (10:Int) < ((nm.length:Nat):Int); omega)) (qy ((jK rfl).trans (qIJ (by show nm.length≤12; omega))) (qy ((jK rfl).trans ((jK rfl).trans (qJA hp.length_eq (by show nm.length≤1000; omega) hin))) (q6 rfl (qD rfl))))
  ·rw [if_neg h10]
   exact w_t (decide_eq_true (by show (10:Int) < ((nm.length:Nat):Int); omega)) (q6 rfl (qD rfl))
theorem qvz {a b:qb} (fa:jN N a) (fb:jN N b) (h:¬ (zy a=true∧zy b=true)):Vv N a b=some (qb.mk [],1):=by
 unfold Vv qcL
 refine qy (qcE fa) ?_
 cases ha:zy a with
 | false=>exact w_t rfl (q6 rfl (qD rfl))
 | true=>
  refine w_f rfl (qy (qcE fb) ?_)
  cases hb:zy b with
  | false=>exact w_t rfl (q6 rfl (qD rfl))
  | true=>exact (h ⟨ha,hb⟩).elim
end
end Go.Rx
end
set_option maxRecDepth 100000
noncomputable section
namespace Go.Rx
open Go.Proofs
def ZZ (p:qa):Bool:=decide (p.qX=zSt)&&decide (p.F.length=0)
end Go.Rx
end
set_option maxRecDepth 100000
noncomputable section
namespace Go.Rx
open Go.Proofs
def jB (N:Nat) (a b:qb):qb×Int:=(Vv N a b).getD (qb.mk [],0)
def Z1 (p:qa):qa:=qa.mk p.ID p.qX []
def Q5 (p:qa):qa:=qa.mk p.ID zSt p.F
def vN (N:Nat) (b:qb) (e:qa):qb×Int:=if ZZ e=true then (b,0) else jB N b (qb.mk [e])
theorem qxO {N:Nat} {b:qb} {e:qa} (h:ZZ e=true):vN N b e=(b,0):=if_pos h
theorem qxp {N:Nat} {b:qb} {e:qa} (h:ZZ e=false):vN N b e=jB N b (qb.mk [e]):=if_neg (by rw [h]; simp)
def qjJ (N:Nat) (b:qb) (e1 e2:qa):qb×Int:=
 if (vN N b e1).2=0 then (if (vN N (vN N b e1).1 e2).2=0 then ((vN N (vN N b e1).1 e2).1,0) else (qb.mk [],(vN N (vN N b e1).1 e2).2)) else (qb.mk [],(vN N b e1).2)
def qo3 (b:qb) (p:qa):Bool:=zy b&&(!ZZ p&&(stB p.qX&&(decide (p.F.length=0)||je (Q5 p))))
def jx (N:Nat) (b:qb) (p:qa):qb×Int:=if qo3 b p=true then qjJ N b (Z1 p) (Q5 p) else (qb.mk [],1)
section
variable {N:Nat} [Q0 N]
theorem qIx {a b:qb} (fa:jN N a) (fb:jN N b):Vv N a b=some (jB N a b):=by
 unfold jB
 by_cases h:zy a=true∧zy b=true
 ·obtain ⟨c,_,e⟩:=qye (N:=N) h.1 h.2
  rw [e]; rfl
 ·rw [qvz fa fb h]; rfl
theorem qxg {a b:qb} (ha:zy a=true) (hb:zy b=true):∃ c,qe6 a.R b.R c∧jB N a b=qgo c:=by
 obtain ⟨c,hc,e⟩:=qye (N:=N) ha hb
 exact ⟨c,hc,by unfold jB; rw [e]; rfl⟩
theorem qIA {a b:qb} (fa:jN N a) (fb:jN N b) (h:¬ (zy a=true∧zy b=true)):jB N a b=(qb.mk [],1):=by
 unfold jB
 rw [qvz fa fb h]; rfl
theorem qAF {a b:qb} (fa:jN N a) (fb:jN N b) (h:(jB N a b).2=0):zy a=true∧zy b=true∧qe6 a.R b.R (jB N a b).1.R∧zy (jB N a b).1=true:=by
 by_cases hab:zy a=true∧zy b=true
 ·obtain ⟨c,hc,e⟩:=qxg (N:=N) hab.1 hab.2
  rw [e] at h ⊢
  unfold qgo at h ⊢
  by_cases h10:c.length≤10
  ·rw [if_pos h10] at h ⊢
   exact ⟨hab.1,hab.2,hc,ZL.2 ⟨qFK (ZL.1 hab.1).1 (ZL.1 hab.2).1 hc,h10⟩⟩
  ·rw [if_neg h10] at h; cases h
 ·rw [qIA fa fb hab] at h; cases h
theorem qzY {a b:qb} (ha:zy a=true) (hb:zy b=true) {c:List qa} (hc:qe6 a.R b.R c):jB N a b=qgo c:=by
 obtain ⟨d,hd,e⟩:=qxg (N:=N) ha hb
 rw [e,qCA hc hd]
theorem qi_ {e:qa} (h1:e.F.length < N) (h2:e.F.length≤4611686018427387904):jN N (qb.mk [e]):=by
 have:=big N
 refine ⟨by show 1 < N; omega,by show 1≤4611686018427387904; omega,fun k hk=>?_⟩
 have hk:k < 1:=hk
 obtain rfl:k=0:=by omega
 exact ⟨h1,h2⟩
theorem qtN {b:qb} {e:qa} (fb:jN N b) (h1:e.F.length < N) (h2:e.F.length≤4611686018427387904) (h:(vN N b e).2=0):jN N (vN N b e).1:=by
 unfold vN at *
 split
 ·exact fb
 ·rename_i hn
  rw [if_neg hn] at h
  exact qcc (qAF fb (qi_ h1 h2) h).2.2.2
theorem qt6 {b : qb} {e : qa} {s47 : List qa} {k : Nat} (hk : k < s47.length) (hs : s47.length ≤ 10) (he : s47.getD k zR = e) (fb : jN N b) (h1 : e.F.length < N) (h2 : e.F.length ≤ 4611686018427387904) :
    (Xp N [] s47 ((s47.length:Nat):Int) (b,(k:Int))).run some=some (if (vN N b e).2=0 then .inl ((vN N b e).1,((k + 1:Nat):Int)) else .inr (.inr (vN N b e).2)):=by
 unfold Xp
 refine w_t (dec_lt hk) <| qy ((jV (d:=zR) hk).trans (by rw [he])) <| qy (by
  have e0:eqE qn (qa.qX e) (qf.mk 0 0)=decide (e.qX=zSt):=qkV _ _
  have e2:decide (((e.F.length:Nat):Int)=0)=decide (e.F.length=0):=decide_eq_decide.2 (by omega)
  show X4 e=some (ZZ e)
  unfold X4 qb1 ZZ
  refine vu e0 (fun h=>qD ?_) fun h=>qD ?_
  ·rw [h]; exact congrArg some e2
  ·rw [h]; rfl) ?_
 cases hn:ZZ e with
 | true=>
  rw [qxO hn]
  exact w_t rfl <| q6 (Q9 (by omega)) <| qD (by rw [zB]; rfl)
 | false=>
  rw [qxp hn]
  refine w_f rfl <| qy (qIx fb (qi_ h1 h2)) ?_
  by_cases hz:(jB N b (qb.mk [e])).2=0
  ·rw [if_pos hz]
   exact w_f (by rw [decide_eq_true hz]; rfl) <| q6 (Q9 (by omega)) <| qD (by rw [zB])
  ·rw [if_neg hz]
   exact w_t (by rw [decide_eq_false hz]; rfl) <| qD rfl
theorem qGE {b : qb} {e1 e2 : qa} (fb : jN N b) (h1 : e1.F.length < N ∧ e1.F.length ≤ 4611686018427387904) (h2 : e2.F.length < N ∧ e2.F.length ≤ 4611686018427387904) :
    ∃ z,Xt N [] [e1,e2] ((([e1,e2]:List qa).length:Nat):Int) b 0=some z∧(match z with | .inl w=>(w.1,(0:Int)) | .inr e=>(qb.mk [],e))=qjJ N b e1 e2:=by
 obtain ⟨M,hM⟩:∃ M,N=M + 3:=⟨N - 3,by have:=big N; omega⟩
 have s0:Xt N [] [e1,e2] ((([e1,e2]:List qa).length:Nat):Int) b 0=q_ (Xp N [] [e1,e2] ((([e1,e2]:List qa).length:Nat):Int)) some (M + 3) (b,((0:Nat):Int)):=by rw [← hM]; rfl
 rw [s0]
 have r1:=qt6 (N:=N) (b:=b) (e:=e1) (s47:=[e1,e2]) (k:=0) (by simp) (by simp) rfl fb h1.1 h1.2
 unfold qjJ
 by_cases z1:(vN N b e1).2=0
 ·rw [if_pos z1] at r1 ⊢
  rw [JI r1]
  have r2:=qt6 (N:=N) (b:=(vN N b e1).1) (e:=e2) (s47:=[e1,e2]) (k:=1) (by simp) (by simp) rfl (qtN fb h1.1 h1.2 z1) h2.1 h2.2
  by_cases z2:(vN N (vN N b e1).1 e2).2=0
  ·rw [if_pos z2] at r2 ⊢
   rw [JI r2,zM (x:=.inl ((vN N (vN N b e1).1 e2).1,((2:Nat):Int),false)) (by
    unfold Xp
    exact w_f rfl (qD rfl))]
   exact ⟨_,rfl,rfl⟩
  ·rw [if_neg z2] at r2 ⊢
   rw [zM r2]
   exact ⟨_,rfl,rfl⟩
 ·rw [if_neg z1] at r1 ⊢
  rw [zM r1]
  exact ⟨_,rfl,rfl⟩
theorem qxw {b:qb} {p:qa} (fb:jN N b) (h1:p.F.length < N) (h2:p.F.length≤4611686018427387904):XD N b p=some (jx N b p):=by
 have hN:=big N
 have hn:X4 p=some (ZZ p):=by
  have e0:eqE qn (qa.qX p) (qf.mk 0 0)=decide (p.qX=zSt):=qkV _ _
  have e2:decide (((p.F.length:Nat):Int)=0)=decide (p.F.length=0):=decide_eq_decide.2 (by omega)
  unfold X4 qb1 ZZ
  refine vu e0 (fun h=>qD ?_) fun h=>qD ?_
  ·rw [h]; exact congrArg some e2
  ·rw [h]; rfl
 obtain ⟨z,ez,hz⟩:=qGE (N:=N) (b:=b) (e1:=Z1 p) (e2:=Q5 p) fb ⟨by show 0 < N; omega,Nat.zero_le _⟩ ⟨h1,h2⟩
 have fin:(Tree.bind (vg [(([]:List qa).length,0)] (Xt N [] [Z1 p,Q5 p] ((([Z1 p,Q5 p]:List qa).length:Nat):Int) b 0)) fun z5=>.sum z5 (fun z6=>.ret (z6.1,(0:Int))) fun z6=>.chk (0=0) (.ret (qb.mk [],z6))).run some=some (qjJ N b (Z1 p) (Q5 p)):=by
  refine qy ((jK rfl).trans ez) ?_
  rw [← hz]
  cases z with
  | inl w=>rfl
  | inr e=>exact w_r rfl <| q6 rfl <| qD rfl
 unfold XD qhe jx qo3
 refine qy (qcE fb) ?_
 cases hb:zy b with
 | false=>exact w_t rfl <| q6 rfl <| qD rfl
 | true=>
  refine w_f rfl <| qy hn ?_
  cases hnp:ZZ p with
  | true=>exact w_t rfl <| q6 rfl <| qD rfl
  | false=>
   refine w_f rfl <| qy (qjo _) ?_
   have hst:stB (qa.qX p)=stB p.qX:=rfl
   rw [hst]
   cases hs:stB p.qX with
   | false=>exact w_t rfl <| q6 rfl <| qD rfl
   | true=>
    refine w_f rfl ?_
    by_cases h0:p.F.length=0
    ·rw [decide_eq_true h0]
     exact w_f (decide_eq_false (by show ¬ (0:Int) < ((p.F.length:Nat):Int); omega)) fin
    ·rw [decide_eq_false h0]
     refine w_t (decide_eq_true (by show (0:Int) < ((p.F.length:Nat):Int); omega)) <| qy (qno (r:=Q5 p) h1 h2) ?_
     cases hr:je (Q5 p) with
     | false=>exact w_t rfl <| q6 rfl <| qD rfl
     | true=>exact w_f rfl fin
end
end Go.Rx
end
set_option maxRecDepth 100000
noncomputable section
namespace Go.Rx
open Go.Proofs
theorem qIy {l : Option (Unit ⊕ (Int × Bool))} {n m : Nat} {q : Nat → Bool} (h : n = m → l = some (if Qw q n then .inr (((n : Nat) : Int), false) else .inl ())) :
    (Tree.cond (!decide (((n:Nat):Int)=((m:Nat):Int))) (.ret false) (.bind l fun z=>.sum z (fun _=>.ret false) fun _=>.ret true)).run some=some (decide (n=m)&&Qw q n):=by
 have e:decide (((n:Nat):Int)=((m:Nat):Int))=decide (n=m):=decide_eq_decide.2 (by omega)
 rw [qJ,e,qS,run_bind]
 by_cases hn:n=m
 ·rw [decide_eq_true hn,h hn]
  cases Qw q n<;>rfl
 ·rw [decide_eq_false hn]; rfl
theorem qvH {α:Type} {d:α}:∀ {a b:List α},a.length=b.length→(∀ k,k < a.length→a.getD k d=b.getD k d)→a=b
 | [],[],_,_=>rfl
 | [],_::_,h,_=>by simp at h
 | _::_,[],h,_=>by simp at h
 | x::a,y::b,h,hk=>by
  have h0:=hk 0 (by simp)
  simp only [List.getD_cons_zero] at h0
  rw [h0,qvH (a:=a) (b:=b) (by simpa using h) fun k hk'=>by
   have:=hk (k + 1) (by simp; omega)
   simpa using this]
theorem qz2 {t:Ty} {sz:Nat} (a b:List (El t)) (d:El t):(decide (a.length=b.length)&&Qw (fun k=>eqE t (a.getD k d) (b.getD k d)) a.length)=eqE (.sl sz t) a b:=by
 refine Bool.eq_iff_iff.2 (Iff.trans ?_ (Qj (.sl sz t) a b).symm)
 rw [Bool.and_eq_true,decide_eq_true_iff,J0]
 constructor
 ·rintro ⟨h1,h2⟩
  exact qvH (d:=d) h1 fun k hk=>(Qj t _ _).1 (h2 k hk)
 ·intro h
  subst h
  exact ⟨rfl,fun k _=>(Qj t _ _).2 rfl⟩
end Go.Rx
end
set_option maxRecDepth 100000
noncomputable section
namespace Go.Rx
open Go.Proofs
section n
variable {N:Nat} [Q0 N]
theorem qzL {a b:List qc} (hN:a.length < N) (h62:a.length≤4611686018427387904):Vm N a b=some (eqE (.sl 4 qp) a b):=by
 unfold Vm XK
 rw [qIy (q:=fun k=>eqE qp (a.getD k zF) (b.getD k zF)) fun hl=>?_]
 ·rw [show (decide (a.length=b.length)&&Qw (fun k=>eqE qp (a.getD k zF) (b.getD k zF)) a.length)=eqE (.sl 4 qp) a b from qz2 (t:=qp) a b zF]
 ·refine XH (B:=Zi N a b ((a.length:Nat):Int)) (g:=some) (fun k hk=>?_) ?_ hN
  ·have hk2:k < b.length:=by omega
   unfold Zi
   rw [qJ,dec_lt hk,cond_true,run_bind,jV (d:=zF) hk,Option.bind_some,run_bind,jV (d:=zF) hk2,Option.bind_some,qJ,qS,zA,qm (show qz ((k:Int) + 1) by unfold qz; omega),qS,zB]
   cases eqE qp (a.getD k zF) (b.getD k zF)<;>rfl
  ·unfold Zi
   rw [qJ,jt (Nat.lt_irrefl _),cond_false,qS]
theorem qKL (r s:qa):eqE qh r s=(eqE (.ba 16) r.ID s.ID&&(eqE qn r.qX s.qX&&eqE (.sl 4 qp) r.F s.F)):=by
 show (eqE (.ba 16) _ _&&(eqE qn _ _&&(eqE (.sl 4 qp) _ _&&true)))=_
 rw [Bool.and_true]
 rfl
theorem qAZ {r s:qa} (hN:r.F.length < N) (h62:r.F.length≤4611686018427387904):qiR N r s=some (eqE qh r s):=by
 unfold qiR qi8
 rw [qKL,qJ,qS,qJ,qS,run_bind,qzL hN h62,Option.bind_some,qS]
 cases eqE (.ba 16) r.ID s.ID<;>cases eqE qn r.qX s.qX<;>rfl
theorem qED {a b:List qa} (hN:a.length < N) (h62:a.length≤4611686018427387904) (hF:∀ k,k < a.length→(a.getD k zR).F.length < N∧(a.getD k zR).F.length≤4611686018427387904):JF N a b=some (eqE (.sl 19 qh) a b):=by
 unfold JF VF
 rw [qIy (q:=fun k=>eqE qh (a.getD k zR) (b.getD k zR)) fun hl=>?_]
 ·rw [show (decide (a.length=b.length)&&Qw (fun k=>eqE qh (a.getD k zR) (b.getD k zR)) a.length)=eqE (.sl 19 qh) a b from qz2 (t:=qh) a b zR]
 ·refine XH (B:=QN N b a ((a.length:Nat):Int)) (g:=some) (fun k hk=>?_) ?_ hN
  ·have hk2:k < b.length:=by omega
   unfold QN
   rw [qJ,dec_lt hk,cond_true,run_bind,jV (d:=zR) hk,Option.bind_some,run_bind,jV (d:=zR) hk2,Option.bind_some,run_bind,qAZ (hF k hk).1 (hF k hk).2,Option.bind_some,qJ,qS,zA,qm (show qz ((k:Int) + 1) by unfold qz; omega),qS,zB]
   cases eqE qh (a.getD k zR) (b.getD k zR)<;>rfl
  ·unfold QN
   rw [qJ,jt (Nat.lt_irrefl _),cond_false,qS]
theorem qxM {a b:qb} (hf:jN N a):YM N a b=some (eqE (.sl 19 qh) a.R b.R):=by
 unfold YM qg4
 rw [run_bind,qED hf.1 hf.2.1 hf.2.2,Option.bind_some,qS]
end n
end Go.Rx
end
set_option maxRecDepth 100000
noncomputable section
namespace Go.Rx
open Go.Proofs
def oP (e:qa) (id:Vector UInt8 16):Option qa:=if ZZ e=true then none else rO [e] id
theorem qsF {p:qa} (hs:stB p.qX=true):ZZ (Z1 p)=true∨je (Z1 p)=true:=by
 by_cases h:p.qX=zSt
 ·left
  show (decide (p.qX=zSt)&&true)=true
  rw [decide_eq_true h]; rfl
 ·right
  exact YS.2 ⟨hs,.inr h,List.Pairwise.nil,fun f hf=>absurd hf List.not_mem_nil⟩
theorem qva {e:qa} (he:ZZ e=true∨je e=true) (id:Vector UInt8 16):VO id (oP e id):=by
 unfold oP
 split
 ·exact qIR
 ·rename_i hn
  have hr:=he.resolve_left hn
  exact qBd (fun r hr'=>by rw [List.mem_singleton.1 hr']; exact hr) id
section
variable {N:Nat} [Q0 N]
theorem qtv {b : qb} {e : qa} (hb : zy b = true) (h1 : e.F.length < N) (h2 : e.F.length ≤ 4611686018427387904) (h : (vN N b e).2 = 0) :
    zy (vN N b e).1=true∧∀ id,rO (vN N b e).1.R id=jR (rO b.R id) (oP e id):=by
 cases hn:ZZ e with
 | true=>
  rw [qxO hn]
  refine ⟨hb,fun id=>?_⟩
  unfold oP
  rw [if_pos hn,qsT]
 | false=>
  rw [qxp hn] at h ⊢
  obtain ⟨_,_,hj,hv⟩:=qAF (qcc hb) (qi_ h1 h2) h
  refine ⟨hv,fun id=>?_⟩
  rw [hj.2 id]
  unfold oP
  rw [if_neg (by rw [hn]; simp)]; rfl
theorem qtJ {c:qb} {e:qa} (hc:zy c=true) (he:ZZ e=true∨je e=true) (h:∀ id,jR (rO c.R id) (oP e id)=rO c.R id):vN N c e=(c,0):=by
 cases hn:ZZ e with
 | true=>exact qxO hn
 | false=>
  have hr:je e=true:=he.resolve_left (by rw [hn]; simp)
  have hC:=ZL.1 hc
  have hb1:zy (qb.mk [e])=true:=ZL.2 ⟨⟨List.pairwise_singleton _ _,fun r hr'=>by rw [List.mem_singleton.1 hr']; exact hr⟩,by show 1≤10; omega⟩
  rw [qxp hn,qzY hc hb1 (c:=c.R) ⟨hC.1.1,fun id=>by
   have:=h id
   unfold oP at this
   rw [if_neg (by rw [hn]; simp)] at this
   exact this.symm⟩]
  unfold qgo
  rw [if_pos hC.2]; rfl
theorem qw_ {b:qb} {p:qa} (h:(jx N b p).2≠0):(jx N b p).1=qb.mk []:=by
 unfold jx qjJ at *
 split at h
 ·rename_i h1
  rw [if_pos h1]
  split at h
  ·rename_i h2
   rw [if_pos h2]
   split at h
   ·exact (h rfl).elim
   ·rename_i h3
    rw [if_neg h3]
  ·rename_i h2
   rw [if_neg h2]
 ·rename_i h1
  rw [if_neg h1]
theorem qmc {b:qb} {p:qa} (h:(jx N b p).2=0):qo3 b p=true∧(vN N b (Z1 p)).2=0∧(vN N (vN N b (Z1 p)).1 (Q5 p)).2=0∧jx N b p=((vN N (vN N b (Z1 p)).1 (Q5 p)).1,0):=by
 unfold jx qjJ at *
 split at h
 ·rename_i h1
  rw [if_pos h1]
  split at h
  ·rename_i h2
   rw [if_pos h2]
   split at h
   ·rename_i h3
    rw [if_pos h3]
    exact ⟨h1,h2,h3,rfl⟩
   ·rename_i h3
    exact (h3 h).elim
  ·rename_i h2
   exact (h2 h).elim
 ·cases h
theorem qiD {b:qb} {p:qa}:qo3 b p=true↔zy b=true∧ZZ p=false∧stB p.qX=true∧(p.F.length=0∨je (Q5 p)=true):=by
 unfold qo3
 rw [Bool.and_eq_true,Bool.and_eq_true,Bool.and_eq_true,Bool.or_eq_true,Bool.not_eq_true',decide_eq_true_iff]
theorem qsQ {p:qa} (h:p.F.length=0∨je (Q5 p)=true):ZZ (Q5 p)=true∨je (Q5 p)=true:=by
 refine h.imp (fun h0=>?_) id
 show (true&&decide (p.F.length=0))=true
 rw [decide_eq_true h0]; rfl
theorem qAN {b : qb} {p : qa} (h1 : p.F.length < N) (h2 : p.F.length ≤ 4611686018427387904) (h : (jx N b p).2 = 0) :
    zy b=true∧zy (jx N b p).1=true∧(∀ id,rO (jx N b p).1.R id=jR (jR (rO b.R id) (oP (Z1 p) id)) (oP (Q5 p) id)):=by
 obtain ⟨ha,z1,z2,e⟩:=qmc h
 obtain ⟨hb,hn,hs,hl⟩:=qiD.1 ha
 obtain ⟨v1,r1⟩:=qtv (e:=Z1 p) hb (by have:=big N; show 0 < N; omega) (Nat.zero_le _) z1
 obtain ⟨v2,r2⟩:=qtv (e:=Q5 p) v1 h1 h2 z2
 rw [e]
 exact ⟨hb,v2,fun id=>by rw [r2,r1]⟩
end
end Go.Rx
end
set_option maxRecDepth 100000
noncomputable section
namespace Go.Rx
open Go.Proofs
def qA1 (o:qe):qa:=qa.mk o.ID o.S []
def qsC (o:qe) (v:List UInt8):qa:=qa.mk o.ID zSt [qc.mk o.No (qd.mk o.S v)]
def JD (b:qb) (id:Vector UInt8 16) (no:Int):List UInt8×Int:=
 if (cellAt (recAt b id).1 no).2=true then ((cellAt (recAt b id).1 no).1.V,0) else ([],6)
def qfc (o:qe) (x:List UInt8×Int):List UInt8×Int:=if x.2=0 then (if Zh x.1=o.D then x else ([],7)) else x
def qpB (N:Nat) (b:qb) (o:qe) (x:List UInt8×Int):qb×Int:=if x.2=0 then jx N b (qsC o x.1) else (qb.mk [],x.2)
theorem qAV {b:qb} (h:zy b=true) (id:Vector UInt8 16):(recAt b id).1.F.length≤8:=by
 unfold recAt
 cases e:qsZ b.R id with
 | none=>exact Nat.zero_le _
 | some i=>exact qct ((qcT.1 h).1 i (qk2 e).1).1
theorem qoz {b:qb} (h:zy b=true) (id:Vector UInt8 16) (no:Int):(cellAt (recAt b id).1 no).1.V.length≤200:=by
 unfold cellAt
 cases e:qxj (recAt b id).1.F no with
 | none=>exact Nat.zero_le _
 | some j=>
  unfold recAt at e ⊢
  cases e2:qsZ b.R id with
  | none=>rw [e2] at e; cases e
  | some i=>
   rw [e2] at e
   exact qwS (qBv ((qcT.1 h).1 i (qk2 e2).1).1 j (qk2 e).1)
section
variable {N:Nat} [Q0 N]
theorem qxm {b:qb} (h:zy b=true) (o:qe) (id:Vector UInt8 16) (no:Int):Xu N (qW.mk b o) id no=some (JD b id no):=by
 unfold Xu qat JD
 refine qy (qHv h id) <| qy (qFN (qAV h id) no) ?_
 cases e:(cellAt (recAt b id).1 no).2 with
 | true=>exact w_f rfl (qD rfl)
 | false=>exact w_t rfl (qD rfl)
theorem qAO (b:qb) (o:qe) {v:List UInt8} {e:Int} (h:v.length≤50000):Jw N (qW.mk b o) v e=some (qfc o (v,e)):=by
 unfold Jw WS qfc
 refine vu rfl (fun h0=>?_) fun h0=>qD (by rw [if_neg (of_decide_eq_false h0)])
 rw [if_pos (of_decide_eq_true h0)]
 refine qy (qo8 h) ?_
 have e2:eqE (.ba 32) (Zh v) (qe.D (qW.o (qW.mk b o)))=decide (Zh v=o.D):=qKp _ _
 refine vu (by rw [e2]) (fun h1=>qD ?_) fun h1=>qD ?_
 ·rw [Bool.not_eq_true'] at h1
  exact congrArg some (if_neg (of_decide_eq_false h1)).symm
 ·rw [Bool.not_eq_false'] at h1
  exact congrArg some (if_pos (of_decide_eq_true h1)).symm
theorem qFJ {b:qb} (h:zy b=true) (o:qe):We N (qW.mk b o)=some (qfc o (JD b o.jA o.Jt)):=by
 unfold We YK
 have hl:(JD b o.jA o.Jt).1.length≤50000:=by
  unfold JD
  split
  ·have:=qoz h o.jA o.Jt; show (cellAt (recAt b o.jA).1 o.Jt).1.V.length≤50000; omega
  ·exact Nat.zero_le _
 exact qy (qxm h o _ _) <| qy (qAO b o hl) <| qD rfl
def Yg (b:qb) (o:qe) (m:List UInt8×Int):List UInt8×Int:=if o.Kind=1 then (o.V,0) else if o.Kind=2 then qfc o (JD b o.jA o.Jt) else m
def doD (N:Nat) (b:qb) (o:qe) (m:List UInt8×Int):qb×Int:=
 if zy b=true∧opB o=true then (if o.Kind=0 then jx N b (qA1 o) else qpB N b o (Yg b o m)) else (qb.mk [],1)
theorem qHh {o:qe} (h:opB o=true):0≤o.Kind∧o.Kind < 4:=by
 unfold opB at h
 simp only [Bool.and_eq_true,Bool.not_eq_true',decide_eq_false_iff_not] at h
 omega
theorem qKT {b:qb} {o:qe} (fb:jN N b) (hl:(qe.P o).length < N) (hl2:(qe.P o).length≤1000000000000000) (hk:o.Kind≠3) (m:List UInt8×Int):qi1 N b o=some (doD N b o m):=by
 have hN:=big N
 have add1:∀ v,XD N b (qsC o v)=some (jx N b (qsC o v)):=fun v=>qxw fb (by show 1 < N; omega) (by show 1≤4611686018427387904; omega)
 unfold qi1 qnh doD
 refine qy (qcE fb) ?_
 cases hb:zy b with
 | false=>exact w_t rfl <| q6 rfl <| qD (by rw [if_neg (fun h=>by cases h.1)])
 | true=>
  refine w_f rfl <| qy (qwu hl hl2) ?_
  cases ho:opB o with
  | false=>exact w_t rfl <| q6 rfl <| qD (by rw [if_neg (fun h=>by cases h.2)])
  | true=>
   refine w_f rfl ?_
   rw [if_pos ⟨rfl,rfl⟩]
   unfold Yg
   refine vu rfl (fun h0=>?_) fun h0=>?_
   ·rw [if_pos (of_decide_eq_true h0)]
    exact q6 (by omega) <| qy (qxw (p:=qA1 o) fb (by show 0 < N; omega) (Nat.zero_le _)) <| qD rfl
   rw [if_neg (of_decide_eq_false h0)]
   refine vu rfl (fun h1=>?_) fun h1=>?_
   ·rw [if_pos (of_decide_eq_true h1)]
    exact q6 (by omega) <| qy (show qdA (qW.mk b o)=some () from rfl) <| qy (add1 o.V) <| qD rfl
   rw [if_neg (of_decide_eq_false h1)]
   refine vu rfl (fun h2=>?_) fun h2=>?_
   ·rw [if_pos (of_decide_eq_true h2)]
    refine q6 (by omega) <| qy (qFJ hb o) ?_
    unfold qpB
    by_cases hz:(qfc o (JD b o.jA o.Jt)).2=0
    ·rw [if_pos hz]
     exact w_f (by rw [decide_eq_true hz]; rfl) <| qy (add1 _) <| qD rfl
    ·rw [if_neg hz]
     exact w_t (by rw [decide_eq_false hz]; rfl) <| q6 rfl <| qD rfl
   have:=qHh ho
   have h0:=of_decide_eq_false h0; have h1:=of_decide_eq_false h1; have h2:=of_decide_eq_false h2
   exact (hk (by omega)).elim
theorem qwU {b : qb} {o : qe} {m : List UInt8 × Int} (h : (doD N b o m).2 = 0) :
    zy b=true∧opB o=true∧∃ p:qa,p.F.length≤1∧p.ID=o.ID∧doD N b o m=jx N b p∧(o.Kind=0∧p=qA1 o∨o.Kind≠0∧(Yg b o m).2=0∧p=qsC o (Yg b o m).1):=by
 unfold doD at h ⊢
 by_cases hb:zy b=true∧opB o=true
 ·rw [if_pos hb] at h ⊢
  refine ⟨hb.1,hb.2,?_⟩
  by_cases h0:o.Kind=0
  ·rw [if_pos h0] at h ⊢
   exact ⟨qA1 o,Nat.zero_le _,rfl,rfl,.inl ⟨h0,rfl⟩⟩
  ·rw [if_neg h0] at h ⊢
   unfold qpB at h ⊢
   by_cases hz:(Yg b o m).2=0
   ·rw [if_pos hz] at h ⊢
    exact ⟨qsC o (Yg b o m).1,Nat.le_refl _,rfl,rfl,.inr ⟨h0,hz,rfl⟩⟩
   ·rw [if_neg hz] at h
    exact (hz h).elim
 ·rw [if_neg hb] at h; cases h
end
end Go.Rx
end
set_option maxRecDepth 100000
noncomputable section
namespace Go.Rx
open Go.Proofs
section
variable {N:Nat} [Q0 N]
theorem qFU (o:qe):∃ x,Qz N o=some x∧(x=true→(qe.P o).length≤80∧(qe.V o).length≤300∧∀ k,k < (qe.P o).length→((qe.P o).getD k zP).Lit.length≤300):=by
 have hN:=big N
 by_cases h1:(qe.P o).length≤80
 ·by_cases h2:(qe.V o).length≤300
  ·have hl : WR N o 0 = some (if Qw (fun k => decide (((qe.P o).getD k zP).Lit.length ≤ 300)) (qe.P o).length then .inr (((qe.P o).length : Nat), false) else .inl ()) := by
      refine (XH (B:=Z6 N o) (g:=some) (q:=fun k=>decide (((qe.P o).getD k zP).Lit.length≤300)) (n:=(qe.P o).length) (hit:=()) (fun k hk=>?_) ?_ (by omega))
      ·unfold Z6
       refine w_t (dec_lt hk) <| qy (jV (d:=zP) hk) ?_
       by_cases h:((qe.P o).getD k zP).Lit.length≤300
       ·rw [decide_eq_true h]
        exact w_f (decide_eq_false (by show ¬ (300:Int) < ((((qe.P o).getD k zP).Lit.length:Nat):Int); omega)) <| q6 (Q9 (by omega)) <| qD (by rw [zB]; rfl)
       ·rw [decide_eq_false h]
        exact w_t (decide_eq_true (by show (300:Int) < ((((qe.P o).getD k zP).Lit.length:Nat):Int); omega)) <| qD rfl
      ·unfold Z6
       exact w_f (jt (Nat.lt_irrefl _)) (qD (by rw [jt (Nat.lt_irrefl _)]))
   refine ⟨Qw (fun k=>decide (((qe.P o).getD k zP).Lit.length≤300)) (qe.P o).length,?_,fun h=>⟨h1,h2,fun k hk=>of_decide_eq_true (J0.1 h k hk)⟩⟩
   unfold Qz ZP
   refine w_f (decide_eq_false (by omega)) <| w_f (decide_eq_false (by omega)) <| qy hl ?_
   cases Qw (fun k=>decide (((qe.P o).getD k zP).Lit.length≤300)) (qe.P o).length<;>rfl
  ·refine ⟨false,?_,fun h=>by cases h⟩
   unfold Qz ZP
   exact w_f (decide_eq_false (by omega)) <| w_t (decide_eq_true (by omega)) <| qD rfl
 ·refine ⟨false,?_,fun h=>by cases h⟩
  unfold Qz ZP
  exact w_t (decide_eq_true (by omega)) <| qD rfl
theorem qF7 (o:qe):∃ x,Qz N o=some x:=by
 obtain ⟨x,h,_⟩:=qFU (N:=N) o
 exact ⟨x,h⟩
end
end Go.Rx
end
set_option maxRecDepth 100000
noncomputable section
namespace Go.Rx
open Go.Proofs
end Go.Rx
end
set_option maxRecDepth 100000
noncomputable section
namespace Go.Rx
open Go.Proofs
end Go.Rx
end
set_option maxRecDepth 100000
noncomputable section
namespace Go.Rx
open Go.Proofs
end Go.Rx
end
set_option maxRecDepth 100000
noncomputable section
namespace Go.Rx
open Go.Proofs
end Go.Rx
end
set_option maxRecDepth 100000
noncomputable section
namespace Go.Rx
open Go.Proofs
end Go.Rx
end
set_option maxRecDepth 100000
noncomputable section
namespace Go.Rx
open Go.Proofs
end Go.Rx
end
set_option maxRecDepth 100000
noncomputable section
namespace Go.Rx
open Go.Proofs
end Go.Rx
end
set_option maxRecDepth 100000
noncomputable section
namespace Go.Rx
open Go.Proofs
end Go.Rx
end
set_option maxRecDepth 100000
noncomputable section
namespace Go.Rx
open Go.Proofs
end Go.Rx
end
set_option maxRecDepth 100000
noncomputable section
namespace Go.Rx
open Go.Proofs
end Go.Rx
end
set_option maxRecDepth 100000
noncomputable section
namespace Go.Rx
open Go.Proofs
end Go.Rx
end
set_option maxRecDepth 100000
noncomputable section
namespace Go.Rx
open Go.Proofs
structure Cod {α:Type} (V:α→Prop) (put:α→List UInt8) (get:List UInt8→Option (α×Nat)):Prop where
 back:∀ a r,V a→get (put a++r)=some (a,(put a).length)
 forth:∀ b a n,get b=some (a,n)→V a∧n≤b.length∧b.take n=put a
theorem Cod.cut {α:Type} {V:α→Prop} {put:α→List UInt8} {get:List UInt8→Option (α×Nat)} (C:Cod V put get) {a:α} (h:V a) {k:Nat} (hk:k < (put a).length):get ((put a).take k)=none:=by
 cases e:get ((put a).take k) with
 | none=>rfl
 | some x=>
  obtain ⟨a',n⟩:=x
  obtain ⟨h1,h2,h3⟩:=C.forth _ _ _ e
  have hn:n≤k:=by rw [List.length_take] at h2; omega
  rw [List.take_take,Nat.min_eq_left hn] at h3
  have h4:=C.back a' ((put a).drop n) h1
  rw [← h3,List.take_append_drop,List.length_take,Nat.min_eq_left (by omega)] at h4
  have h5:=C.back a [] h
  rw [List.append_nil,h4] at h5
  have:n=(put a).length:=(Prod.mk.inj (Option.some.inj h5)).2
  omega
end Go.Rx
end
set_option maxRecDepth 100000
noncomputable section
namespace Go.Rx
open Go.Proofs
theorem qBX {l:List qg}:qaZ l=true↔(∀ p∈l,Jr p=true)∧l.length≤60∧qdE l l.length≤200:=by
 unfold qaZ
 rw [Bool.and_eq_true,Bool.and_eq_true,decide_eq_true_iff,decide_eq_true_iff,J0,and_assoc]
 constructor
 ·rintro ⟨h,h2⟩
  refine ⟨fun p hp=>?_,h2⟩
  obtain ⟨i,hi,rfl⟩:=List.getElem_of_mem hp
  have:=h i hi
  rw [List.getD_eq_getElem?_getD,List.getElem?_eq_getElem hi] at this
  exact this
 ·rintro ⟨h,h2⟩
  refine ⟨fun j hj=>?_,h2⟩
  rw [List.getD_eq_getElem?_getD,List.getElem?_eq_getElem hj]
  exact h _ (List.getElem_mem hj)
end Go.Rx
end
set_option maxRecDepth 100000
noncomputable section
namespace Go.Rx
open Go.Proofs
def KX (a:List UInt8):List qg→List UInt8→List UInt8×Bool
 | [],acc=>(acc,true)
 | p::l,acc=>if p.qbG=true then (if ((a.length:Nat):Int) - p.jA < p.Len then ([],false) else KX a l (acc++p.Lit++(a.take (p.jA + p.Len).toNat).drop p.jA.toNat)) else KX a l (acc++p.Lit)
theorem qyZ {p:qg} (h:Jr p=true):(0≤p.jA∧p.jA≤200)∧(0≤p.Len∧p.Len≤200)∧p.Lit.length≤200∧(p.qbG=true→p.Lit=[]):=by
 have h1:=qk6 h
 unfold Jr inP at h
 cases e:p.qbG with
 | true=>
  rw [e,cond_true] at h
  simp only [Bool.and_eq_true,decide_eq_true_eq] at h
  obtain ⟨⟨h2,h3⟩,h4⟩:=h
  refine ⟨h2,⟨by omega,by omega⟩,by rw [h4]; simp,fun _=>h4⟩
 | false=>
  rw [e,cond_false] at h
  simp only [Bool.and_eq_true,decide_eq_true_eq] at h
  obtain ⟨h2,h3⟩:=h
  have e1:p.jA=0:=by rw [h2]; rfl
  have e2:p.Len=0:=by rw [h2]; rfl
  rw [e1,e2]
  exact ⟨⟨by omega,by omega⟩,⟨by omega,by omega⟩,by omega,fun e=>by cases e⟩
theorem qms {a:List UInt8} (ha:a.length≤50000):∀ {l:List qg} {acc:List UInt8},(∀ p∈l,Jr p=true)→acc.length + 400 * l.length≤100000→qbX a l acc=some (KX a l acc)∧(KX a l acc).1.length≤acc.length + 400 * l.length
 | [],acc,_,_=>⟨rfl,Nat.le_refl _⟩
 | p::l,acc,h,hl=>by
  obtain ⟨h1,h2,h3,h4⟩:=qyZ (h p (List.mem_cons_self ..))
  have ht:∀ q∈l,Jr q=true:=fun q hq=>h q (List.mem_cons_of_mem _ hq)
  rw [List.length_cons] at hl ⊢
  unfold qbX KX
  cases e:p.qbG with
  | false=>
   have hr:=qms ha (l:=l) (acc:=acc++p.Lit) ht (by rw [List.length_append]; omega)
   rw [List.length_append] at hr
   rw [cond_false,if_neg (by simp)]
   refine ⟨(if_pos (by omega)).trans hr.1,by omega⟩
  | true=>
   rw [cond_true,if_pos rfl]
   by_cases hs:((a.length:Nat):Int) - p.jA < p.Len
   ·rw [if_pos hs]
    refine ⟨(if_pos (by unfold qz; omega)).trans ?_,Nat.zero_le _⟩
    rw [decide_eq_true hs]; rfl
   ·rw [if_neg hs]
    have hd:((a.take (p.jA + p.Len).toNat).drop p.jA.toNat).length≤200:=by rw [List.length_drop,List.length_take]; omega
    have hr:=qms ha (l:=l) (acc:=acc++p.Lit++(a.take (p.jA + p.Len).toNat).drop p.jA.toNat) ht (by rw [List.length_append,List.length_append]; omega)
    rw [List.length_append,List.length_append] at hr
    refine ⟨(if_pos (by unfold qz; omega)).trans ?_,by omega⟩
    rw [decide_eq_false hs]
    exact (if_pos ⟨by unfold qz; omega,by omega,by omega⟩).trans hr.1
def V0 (b:qb) (o:qe):List UInt8×Int:=
 if (JD b o.ID o.No).2=0 then (if (KX (JD b o.ID o.No).1 o.P []).2=true then qfc o ((KX (JD b o.ID o.No).1 o.P []).1,0) else ([],7)) else ([],(JD b o.ID o.No).2)
theorem qDC {b:qb} (h:zy b=true) (id:Vector UInt8 16) (no:Int):(JD b id no).1.length≤200:=by
 unfold JD
 split
 ·exact qoz h id no
 ·exact Nat.zero_le _
section
variable {N:Nat} [Q0 N]
theorem qEo {a:List UInt8} {l:List qg} (ha:a.length≤50000) (h:qaZ l=true):qcI N a l=some (KX a l [])∧(KX a l []).1.length≤24000:=by
 have hN:=big N
 obtain ⟨h1,h2,_⟩:=qBX.1 h
 have hr:=qms ha (l:=l) (acc:=[]) h1 (by rw [List.length_nil]; omega)
 rw [List.length_nil] at hr
 refine ⟨?_,by omega⟩
 unfold qcI
 rw [qtq (by omega) (by omega),Option.bind_some,h,cond_true]
 exact (if_pos (by omega)).trans hr.1
theorem qJL {b:qb} (h:zy b=true) {o:qe} (ho:qaZ o.P=true):Y3 N (qW.mk b o)=some (V0 b o):=by
 have hl:=qDC h o.ID o.No
 have e0:=qxm (N:=N) h o o.ID o.No
 obtain ⟨e1,e2⟩:=qEo (N:=N) (a:=(JD b o.ID o.No).1) (l:=o.P) (by omega) ho
 unfold Y3 qau V0
 generalize JD b o.ID o.No=c at *
 generalize KX c.1 o.P []=z at *
 have e3:=qAO (N:=N) b o (v:=z.1) (e:=0) (by omega)
 generalize qfc o (z.1,0)=y at *
 refine qy e0 ?_
 by_cases h0:c.2=0
 ·rw [if_pos h0]
  refine w_f (by rw [decide_eq_true h0]; rfl) <| qy e1 ?_
  cases e4:z.2 with
  | true=>exact w_f rfl <| qy e3 <| qD rfl
  | false=>exact w_t rfl <| qD rfl
 ·rw [if_neg h0]
  exact w_t (by rw [decide_eq_false h0]; rfl) <| qD rfl
theorem qzQ {b:qb} {o:qe} (fb:jN N b) (hl:(qe.P o).length < N) (hl2:(qe.P o).length≤1000000000000000):qi1 N b o=some (doD N b o (V0 b o)):=by
 by_cases hk:o.Kind=3
 ·have hN:=big N
  unfold qi1 qnh doD
  refine qy (qcE fb) ?_
  cases hb:zy b with
  | false=>exact w_t rfl <| q6 rfl <| qD (by rw [if_neg (fun h=>by cases h.1)])
  | true=>
   refine w_f rfl <| qy (qwu hl hl2) ?_
   cases ho:opB o with
   | false=>exact w_t rfl <| q6 rfl <| qD (by rw [if_neg (fun h=>by cases h.2)])
   | true=>
    have hp:qaZ o.P=true:=by unfold opB at ho; rw [Bool.and_eq_true] at ho; exact ho.2
    refine w_f rfl ?_
    rw [if_pos ⟨rfl,rfl⟩]
    unfold Yg
    rw [if_neg (by omega),if_neg (by omega),if_neg (by omega)]
    refine w_f (decide_eq_false (by show ¬ o.Kind=0; omega)) <| w_f (decide_eq_false (by show ¬ o.Kind=1; omega)) <| w_f (decide_eq_false (by show ¬ o.Kind=2; omega)) <| w_t (decide_eq_true hk) <| q6 (by omega) <| qy (qJL hb hp) ?_
    unfold qpB
    by_cases hz:(V0 b o).2=0
    ·rw [if_pos hz]
     exact w_f (by rw [decide_eq_true hz]; rfl) <| qy (qxw (p:=qsC o (V0 b o).1) fb (by show 1 < N; omega) (by show 1≤4611686018427387904; omega)) <| qD rfl
    ·rw [if_neg hz]
     exact w_t (by rw [decide_eq_false hz]; rfl) <| q6 rfl <| qD rfl
 ·exact qKT fb hl hl2 hk _
end
end Go.Rx
end
set_option maxRecDepth 100000
noncomputable section
namespace Go.Rx
open Go.Proofs
def qKh (p:qa):Prop:=(ZZ (Z1 p)=true∨je (Z1 p)=true)∧(ZZ (Q5 p)=true∨je (Q5 p)=true)
def jP (a:Option qa) (p:qa) (id:Vector UInt8 16):Option qa:=jR (jR a (oP (Z1 p) id)) (oP (Q5 p) id)
section
variable {N:Nat} [Q0 N]
theorem qt7 {b : qb} {p : qa} (h1 : p.F.length < N) (h2 : p.F.length ≤ 4611686018427387904) (h : (jx N b p).2 = 0) :
    zy b=true∧zy (jx N b p).1=true∧qKh p∧∀ id,rO (jx N b p).1.R id=jP (rO b.R id) p id:=by
 obtain ⟨hb,hc,hr⟩:=qAN h1 h2 h
 obtain ⟨_,_,hs,hl⟩:=qiD.1 (qmc h).1
 exact ⟨hb,hc,⟨qsF hs,qsQ hl⟩,hr⟩
end
end Go.Rx
end
set_option maxRecDepth 100000
noncomputable section
namespace Go.Rx
open Go.Proofs
section
variable {N:Nat} [Q0 N]
def C14 (e:Int):Prop:=e=0∨e=1∨e=4
theorem qJc {a b:qb} (fa:jN N a) (fb:jN N b):C14 (jB N a b).2:=by
 by_cases hab:zy a=true∧zy b=true
 ·obtain ⟨c,_,e⟩:=qxg (N:=N) hab.1 hab.2
  rw [e]
  unfold qgo
  split
  ·exact .inl rfl
  ·exact .inr (.inr rfl)
 ·rw [qIA fa fb hab]; exact .inr (.inl rfl)
theorem qtf {b:qb} {e:qa} (fb:jN N b) (h1:e.F.length < N) (h2:e.F.length≤4611686018427387904):C14 (vN N b e).2:=by
 unfold vN
 split
 ·exact .inl rfl
 ·exact qJc fb (qi_ h1 h2)
theorem qtb {b:qb} {p:qa} (fb:jN N b) (h1:p.F.length < N) (h2:p.F.length≤4611686018427387904):C14 (jx N b p).2:=by
 have hN:=big N
 have k1:=qtf (e:=Z1 p) fb (by show 0 < N; omega) (Nat.zero_le _)
 unfold jx qjJ
 split
 ·split
  ·rename_i hz
   have k2:=qtf (e:=Q5 p) (qtN (e:=Z1 p) fb (by show 0 < N; omega) (Nat.zero_le _) hz) h1 h2
   split
   ·exact .inl rfl
   ·exact k2
  ·exact k1
 ·exact .inr (.inl rfl)
theorem qya {b:qb} {p:qa} (fb:jN N b) (h1:p.F.length < N) (h2:p.F.length≤4611686018427387904) (hz:(jx N b p).2=0):qay N b (jx N b p).1=some true:=by
 obtain ⟨hb,hc,hp,hr⟩:=qt7 h1 h2 hz
 have hC:=ZL.1 hc
 have hj:jB N b (jx N b p).1=((jx N b p).1,0):=by
  rw [qzY hb hc (c:=(jx N b p).1.R) ⟨hC.1.1,fun id=>by
   have vb:=qBd (ZL.1 hb).1.2 id
   have v1:=qva hp.1 id
   have v2:=qva hp.2 id
   rw [hr]
   unfold jP
   rw [qeK vb v1 v2,qI6 vb (qve v1 v2)]⟩]
  unfold qgo
  rw [if_pos hC.2]; rfl
 unfold qay qjP
 refine qy (qIx fb (qcc hc)) ?_
 rw [hj]
 exact w_t rfl <| qy (qxM (qcc hc)) <| qD (congrArg some ((Qj (.sl 19 qh) _ _).2 rfl))
theorem qAQ {b:qb} {p:qa} (h1:p.F.length < N) (h2:p.F.length≤4611686018427387904) (hz:(jx N b p).2=0):jx N (jx N b p).1 p=((jx N b p).1,0):=by
 obtain ⟨ha,z1,z2,e⟩:=qmc hz
 obtain ⟨hb,hn,hs,hl⟩:=qiD.1 ha
 obtain ⟨_,hc,hr⟩:=qAN h1 h2 hz
 have hB:=ZL.1 hb
 have vb:∀ id,VO id (rO b.R id):=fun id=>qBd hB.1.2 id
 have vh:∀ id,VO id (oP (Z1 p) id):=fun id=>qva (qsF hs) id
 have vl:∀ id,VO id (oP (Q5 p) id):=fun id=>qva (qsQ hl) id
 have s1:vN N (jx N b p).1 (Z1 p)=((jx N b p).1,0):=qtJ hc (qsF hs) fun id=>by rw [hr]; exact qJE (vb id) (vh id) (vl id)
 have s2:vN N (jx N b p).1 (Q5 p)=((jx N b p).1,0):=qtJ hc (qsQ hl) fun id=>by rw [hr]; exact qzX (qve (vb id) (vh id)) (vl id)
 have hac:qo3 (jx N b p).1 p=true:=qiD.2 ⟨hc,hn,hs,hl⟩
 show (if qo3 (jx N b p).1 p=true then qjJ N (jx N b p).1 (Z1 p) (Q5 p) else _)=_
 rw [if_pos hac]
 unfold qjJ
 rw [s1,if_pos rfl,s2,if_pos rfl]
theorem qt2 {o:qe} {x:List UInt8×Int} (h:x.2=0∨x.2=6∨x.2=7):(qfc o x).2=0∨(qfc o x).2=6∨(qfc o x).2=7:=by
 unfold qfc
 split
 ·split
  ·exact h
  ·exact .inr (.inr rfl)
 ·exact h
theorem qqa (b:qb) (id:Vector UInt8 16) (no:Int):(JD b id no).2=0∨(JD b id no).2=6∨(JD b id no).2=7:=by
 unfold JD
 split
 ·exact .inl rfl
 ·exact .inr (.inl rfl)
theorem qCm (b:qb) (o:qe):(V0 b o).2=0∨(V0 b o).2=6∨(V0 b o).2=7:=by
 unfold V0
 split
 ·split
  ·exact qt2 (.inl rfl)
  ·exact .inr (.inr rfl)
 ·exact qqa b _ _
theorem qJw {b:qb} {o:qe} {m:List UInt8×Int} (h:(doD N b o m).2≠0):(doD N b o m).1=qb.mk []:=by
 unfold doD at h ⊢
 split
 ·rename_i hb
  rw [if_pos hb] at h
  split
  ·rename_i h0; rw [if_pos h0] at h; exact qw_ h
  ·rename_i h0
   rw [if_neg h0] at h
   unfold qpB at h ⊢
   split
   ·rename_i h3; rw [if_pos h3] at h; exact qw_ h
   ·rfl
 ·rfl
theorem qFM {b:qb} {o:qe} {m:List UInt8×Int} (hm:m.2=0∨m.2=6∨m.2=7):(Yg b o m).2=0∨(Yg b o m).2=6∨(Yg b o m).2=7:=by
 unfold Yg
 split
 ·exact .inl rfl
 ·split
  ·exact qt2 (qqa b _ _)
  ·exact hm
theorem qFX {b:qb} {o:qe} {m:List UInt8×Int} (fb:jN N b) (hm:m.2=0∨m.2=6∨m.2=7):(doD N b o m).2≠2∧(doD N b o m).2≠3∧(doD N b o m).2≠5:=by
 have hN:=big N
 have of:∀ {e:Int},C14 e→e≠2∧e≠3∧e≠5:=fun h=>by unfold C14 at h; omega
 unfold doD
 split
 ·split
  ·exact of (qtb fb (by show 0 < N; omega) (Nat.zero_le _))
  ·unfold qpB
   split
   ·exact of (qtb fb (by show 1 < N; omega) (by show 1≤4611686018427387904; omega))
   ·have:=qFM (b:=b) (o:=o) hm
    show (Yg b o m).2≠2∧(Yg b o m).2≠3∧(Yg b o m).2≠5
    omega
 ·exact ⟨by simp,by simp,by simp⟩
theorem qEJ {b:qb} (fb:jN N b) {o:qe} (hl:(qe.P o).length < N) (hl2:(qe.P o).length≤1000000000000000):Qg N b o=some true:=by
 have hN:=big N
 obtain ⟨x,ex⟩:=qJk (N:=N) b
 obtain ⟨y,ey⟩:=qF7 (N:=N) o
 have e1:=qzQ (N:=N) fb hl hl2
 have hcode:=qFX (N:=N) (o:=o) fb (qCm b o)
 have herr:=qJw (N:=N) (b:=b) (o:=o) (m:=V0 b o)
 have hzero:=qwU (N:=N) (b:=b) (o:=o) (m:=V0 b o)
 generalize ed:doD N b o (V0 b o)=d at *
 unfold Qg Xj
 refine qy (show qwV=some true from rfl) <| qy ex <| qy ey <| qy e1 <| w_f rfl ?_
 cases x with
 | false=>rfl
 | true=>
 refine w_f rfl ?_
 cases y with
 | false=>rfl
 | true=>
 refine w_f rfl ?_
 by_cases hz:d.2=0
 ·refine w_f (by rw [decide_eq_true hz]; rfl) ?_
  obtain ⟨hb,ho,p,hp1,hpid,ep,hk⟩:=hzero hz
  subst ep
  have h1:p.F.length < N:=by omega
  have h2:p.F.length≤4611686018427387904:=by omega
  obtain ⟨_,hc,_,_⟩:=qt7 h1 h2 hz
  have fc:=qcc (N:=N) hc
  have leq:=qya fb h1 h2 hz
  have again:=qAQ h1 h2 hz
  have e2:=qzQ (N:=N) (o:=o) fc hl hl2
  have hzero2:=qwU (N:=N) (b:=(jx N b p).1) (o:=o) (m:=V0 (jx N b p).1 o)
  have same:(o.Kind=0∨o.Kind=1)→doD N (jx N b p).1 o (V0 (jx N b p).1 o)=((jx N b p).1,0):=fun h01=>by
   unfold doD
   rw [if_pos ⟨hc,ho⟩]
   rcases hk with ⟨h0,rfl⟩ | ⟨h0,hv,rfl⟩
   ·rw [if_pos h0]; exact again
   ·have hk1:o.Kind=1:=h01.resolve_left h0
    have ev:∀ (c:qb) m,Yg c o m=(o.V,0):=fun c m=>by unfold Yg; rw [if_pos hk1]
    rw [if_neg h0,ev (jx N b _).1]
    unfold qpB
    rw [if_pos rfl]
    have e9:(Yg b o (V0 b o)).1=o.V:=by rw [ev]
    rw [e9] at again ⊢
    exact again
  generalize ed2:doD N (jx N b p).1 o (V0 (jx N b p).1 o)=d2 at *
  refine qy e2 ?_
  have first:(o.Kind=0∨o.Kind=1)→d2.2=0∧YM N (jx N b p).1 d2.1=some true:=fun h=>by
   rw [same h]
   exact ⟨rfl,(qxM fc).trans (congrArg some ((Qj (.sl 19 qh) _ _).2 rfl))⟩
  refine vu rfl (fun h0=>?_) fun h0=>vu rfl (fun h1=>?_) fun h1=>?_
  ·obtain ⟨q1,q2⟩:=first (.inl (of_decide_eq_true h0))
   exact qy leq <| w_t rfl <| qy (qcE fc) <| w_t hc <| w_t (decide_eq_true q1) <| qy q2 <| qD rfl
  ·obtain ⟨q1,q2⟩:=first (.inr (of_decide_eq_true h1))
   exact qy leq <| w_t rfl <| qy (qcE fc) <| w_t hc <| w_t (decide_eq_true q1) <| qy q2 <| qD rfl
  ·refine qy leq <| w_t rfl <| qy (qcE fc) <| w_t hc ?_
   by_cases hz2:d2.2=0
   ·obtain ⟨_,_,q,hq1,_,eq,_⟩:=hzero2 hz2
    subst eq
    exact w_f (by rw [decide_eq_true hz2]; rfl) <| qy (qya fc (by omega) (by omega) hz2) <| qD rfl
   ·exact w_t (by rw [decide_eq_false hz2]; rfl) <| qD rfl
 ·refine w_t (by rw [decide_eq_false hz]; rfl) ?_
  have he:=herr hz
  obtain ⟨d1,d2⟩:=d
  have he:d1=qb.mk []:=he
  subst he
  have hcode:d2≠2∧d2≠3∧d2≠5:=hcode
  exact w_t rfl <| w_t (by rw [decide_eq_false hcode.1]; rfl) <| w_t (by rw [decide_eq_false hcode.2.2]; rfl) <| qD (by rw [decide_eq_false hcode.2.1]; rfl)
end
theorem qKy (b:qb) (o:qe) (h1:b.R.length≤4611686018427387904) (h2:∀ k,k < b.R.length→(b.R.getD k zR).F.length≤4611686018427387904) (h3:(qe.P o).length≤1000000000000000):∃ N:Nat,Qg N b o=some true:=by
 obtain ⟨M,hM⟩:=qKQ b h1 h2
 have:Q0 (100000 + M + (qe.P o).length):=Q0.of (by omega)
 exact ⟨_,qEJ (hM (100000 + M + (qe.P o).length) (by omega)) (by omega) h3⟩
end Go.Rx
end
