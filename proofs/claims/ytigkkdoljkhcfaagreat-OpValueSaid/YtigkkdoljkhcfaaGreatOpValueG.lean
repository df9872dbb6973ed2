/- A part of the proof of OpValue: the law returns true for every input, and its arguments read as before. No condition. -/
import Derived.Test.YtigkkdoljkhcfaaGreatOpValueF
set_option linter.unusedSimpArgs false
set_option linter.unusedVariables false
set_option linter.unusedSectionVars false
set_option maxRecDepth 100000
noncomputable section
namespace Go.Rx
open Go.Proofs
theorem qCI {α:Type} {d:α} {l:List α} {k:Nat} (h:k < l.length):l.drop k=l.getD k d::l.drop (k + 1):=by
 rw [List.drop_eq_getElem_cons h,List.getD_eq_getElem?_getD,List.getElem?_eq_getElem h]; rfl
theorem qh4 {α:Type} {p:α→Bool} {d:α} {l:List α}:∀ {m k:Nat},k + m=l.length→(Zg (fun j=>p (l.getD j d)) m k).map (fun i=>l.getD i d)=(l.drop k).find? p
 | 0,k,h=>by rw [List.drop_of_length_le (by omega)]; rfl
 | m + 1,k,h=>by
  rw [qCI (d:=d) (by omega),List.find?_cons]
  unfold Zg
  cases hp:p (l.getD k d) with
  | true=>rw [if_pos rfl]; rfl
  | false=>rw [if_neg (by simp)]; exact qh4 (by omega)
def cO (l:List qd) (no:Int):Option qc:=(l.find? fun f=>decide (f.No=no)).map fun f=>f.C
theorem qCF {l:List qd} {no:Int}:(qh1 l no).map (fun i=>(l.getD i zF).C)=cO l no:=by
 unfold qh1 cO
 have:=qh4 (p:=fun f:qd=>decide (f.No=no)) (d:=zF) (l:=l) (m:=l.length) (k:=0) (by omega)
 rw [List.drop_zero] at this
 rw [← this,Option.map_map]; rfl
theorem qpK {no:Int}:cO [] no=none:=rfl
theorem qgF {f:qd} {l:List qd} {no:Int}:cO (f::l) no=if f.No=no then some f.C else cO l no:=by
 unfold cO
 rw [List.find?_cons]
 by_cases h:f.No=no
 ·rw [decide_eq_true h,if_pos h]; rfl
 ·rw [decide_eq_false h,if_neg h]
theorem qmn {l:List qd} {no:Int} {c:qc} (h:cO l no=some c):∃ f,f∈l∧f.No=no∧f.C=c:=by
 unfold cO at h
 obtain ⟨f,h1,h2⟩:=Option.map_eq_some_iff.1 h
 exact ⟨f,List.mem_of_find?_eq_some h1,of_decide_eq_true (List.find?_some (p:=fun f:qd=>decide (f.No=no)) h1),h2⟩
def jC:Option qc→Option qc→Option qc
 | some x,some y=>some (cJ x y)
 | some x,none=>some x
 | none,y=>y
def JZ (g:Int→Option qc) (f:qd) (no:Int):Option qc:=if f.No=no then jC (g no) (some f.C) else g no
theorem quU {g:Int→Option qc} {f:qd} {no:Int}:JZ g f no=if f.No=no then jC (g no) (some f.C) else g no:=rfl
theorem qrb:∀ {l:List qd} {g:Int→Option qc} {no:Int},(l.map fun f=>f.No).Nodup→l.foldl JZ g no=jC (g no) (cO l no)
 | [],g,no,_=>by rw [qpK]; show g no=_; cases g no<;>rfl
 | f::l,g,no,h=>by
  rw [List.map_cons,List.nodup_cons] at h
  rw [List.foldl_cons,qrb h.2,qgF]
  unfold JZ
  by_cases e:f.No=no
  ·rw [if_pos e,if_pos e]
   have:cO l no=none:=by
    cases hc:cO l no with
    | none=>rfl
    | some c=>
     obtain ⟨x,hx,hx2,_⟩:=qmn hc
     exact (h.1 (List.mem_map.2 ⟨x,hx,by rw [hx2,e]⟩)).elim
   rw [this]
   cases g no<;>rfl
  ·rw [if_neg e,if_neg e]
def Ym (no:Int) (M:List (Int×qc×Nat)):Option qc:=(fnd (β:=qc) (.i .i64) no M).map (·.1)
theorem qvm {q k:Int} {p:qc} {c:Nat} {M:List (Int×qc×Nat)}:Ym q (QE (β:=qc) (.i .i64) k p c M).2=if q=k then some p else Ym q M:=by
 have:=@qoJ (El (.i .i64)) qc (Jb (.i .i64)) k q p c M
 rw [show Ym q (QE (β:=qc) (.i .i64) k p c M).2=@qoS (El (.i .i64)) qc (Jb (.i .i64)) q (@qdO (El (.i .i64)) qc (Jb (.i .i64)) k p c M).2 from rfl,this]
 by_cases h:q=k
 ·rw [if_pos h]; exact if_pos h
 ·rw [if_neg h]; exact if_neg h
def qeU (dead:qe) (k:Nat):Option qc→List qd
 | some c=>if slB dead c.S=true then [qd.mk (k:Int) c] else []
 | none=>[]
def QW (g:Int→Option qc) (dead:qe):Nat→Nat→List qd
 | 0,_=>[]
 | m + 1,k=>qeU dead k (g (k:Int))++QW g dead m (k + 1)
theorem qj0 {g:Int→Option qc} {dead:qe}:∀ {m k:Nat} {s:List qd},J9 (fun k s=>s++qeU dead k (g (k:Int))) m k s=s++QW g dead m k
 | 0,_,s=>by unfold J9 QW; rw [List.append_nil]
 | m + 1,k,s=>by
  unfold J9 QW
  rw [qj0,List.append_assoc]
theorem qr3 {dead:qe} {k:Nat} {c:Option qc}:(qeU dead k c).length≤1:=by
 cases c with
 | none=>exact Nat.zero_le _
 | some c=>
  show (if slB dead c.S=true then [qd.mk (k:Int) c] else []).length≤1
  by_cases h:slB dead c.S=true
  ·rw [if_pos h]; exact Nat.le_refl _
  ·rw [if_neg h]; exact Nat.zero_le _
def rJ (a b:qa):qa:=qa.mk a.ID (mxS a.zi b.zi) (QW (fun no=>jC (cO a.F no) (cO b.F no)) (mxS a.zi b.zi) 8 0)
theorem qwH {r:qa} (h:jM r=true):(r.F.map fun f=>f.No).Nodup:=by
 have hlt:∀ (d a:Nat),a + d + 1 < r.F.length→(r.F.getD a zF).No < (r.F.getD (a + d + 1) zF).No:=by
  intro d
  induction d with
  | zero=>
   intro a ha
   have:=(Vs.1 ((Xv.1 h).2.2 (a + 0 + 1) ha)).1
   rw [if_neg (by omega),show a + 0 + 1 - 1=a by omega] at this
   exact this
  | succ d ih=>
   intro a ha
   have h1:=ih a (by omega)
   have:=(Vs.1 ((Xv.1 h).2.2 (a + (d + 1) + 1) ha)).1
   rw [if_neg (by omega),show a + (d + 1) + 1 - 1=a + d + 1 by omega] at this
   omega
 rw [List.nodup_iff_pairwise_ne,List.pairwise_iff_getElem]
 intro i j hi hj hij
 rw [List.length_map] at hi hj
 have:=hlt (j - i - 1) i (by omega)
 rw [show i + (j - i - 1) + 1=j by omega,List.getD_eq_getElem?_getD,List.getD_eq_getElem?_getD,List.getElem?_eq_getElem hi,List.getElem?_eq_getElem hj] at this
 rw [List.getElem_map,List.getElem_map]
 show r.F[i].No≠r.F[j].No
 have:r.F[i].No < r.F[j].No:=this
 omega
theorem qAf {r:qa} (h:jM r=true):∀ k,k < r.F.length→YS (r.F.getD k zF).C=true:=fun j hj=>(Vs.1 ((Xv.1 h).2.2 j hj)).2.2.1
def qdq (g:Int→Option qc):Prop:=∀ no c,g no=some c→c.V.length≤200
theorem qBa (a b:qc):cJ a b=a∨cJ a b=b:=by
 unfold cJ
 split
 ·exact .inr rfl
 ·exact .inl rfl
theorem qzX {g:Int→Option qc} {f:qd} (hg:qdq g) (hf:f.C.V.length≤200):qdq (JZ g f):=by
 intro no c h
 unfold JZ at h
 split at h
 ·cases e:g no with
  | none=>rw [e] at h; obtain rfl:=Option.some.inj h; exact hf
  | some x=>
   rw [e] at h
   obtain rfl:=Option.some.inj h
   rcases qBa x f.C with h1 | h1
   ·rw [h1]; exact hg no x e
   ·rw [h1]; exact hf
 ·exact hg no c h
end Go.Rx
end
set_option maxRecDepth 100000
noncomputable section
namespace Go.Rx
open Go.Proofs
open Go.Lib (compareBytes)
theorem qsU {a b c:Vector UInt8 16} (h1:lbB a b=true) (h2:lbB b c=true):lbB a c=true:=by
 rw [qmj] at *; exact qDr h1 h2
theorem qHK (a b:Vector UInt8 16):(lbB a b=true∧lbB b a=false)∨a=b∨(lbB b a=true∧lbB a b=false):=by
 rw [qmj,qmj]
 rcases ql6 a.toList b.toList with h | h | h
 ·exact .inl h
 ·exact .inr (.inl (Vector.toList_inj.1 h))
 ·exact .inr (.inr h)
end Go.Rx
end
set_option maxRecDepth 100000
noncomputable section
namespace Go.Rx
open Go.Proofs
theorem qd3 {α:Type} {l:List α} {d:α} {P:α→Prop}:(∀ k,k < l.length→P (l.getD k d))↔∀ x∈l,P x:=by
 constructor
 ·intro h x hx
  obtain ⟨i,hi,rfl⟩:=List.getElem_of_mem hx
  have:=h i hi
  rw [List.getD_eq_getElem?_getD,List.getElem?_eq_getElem hi] at this
  exact this
 ·intro h k hk
  rw [List.getD_eq_getElem?_getD,List.getElem?_eq_getElem hk]
  exact h _ (List.getElem_mem hk)
theorem qfp {α:Type} {R:α→α→Prop} (ht:∀ a b c,R a b→R b c→R a c) {d:α} {l:List α}:(∀ k,k + 1 < l.length→R (l.getD k d) (l.getD (k + 1) d))↔l.Pairwise R:=by
 have gd:∀ k (h:k < l.length),l.getD k d=l[k]:=fun k h=>by rw [List.getD_eq_getElem?_getD,List.getElem?_eq_getElem h]; rfl
 rw [List.pairwise_iff_getElem]
 constructor
 ·intro h i j hi hj hij
  have key:∀ m,∀ hm:i + m + 1 < l.length,R l[i] l[i + m + 1]:=by
   intro m
   induction m with
   | zero=>
    intro hm
    have:=h i hm
    rw [gd i hi,gd (i + 1) hm] at this; exact this
   | succ m ih=>
    intro hm
    have h1:=ih (by omega)
    have h2:=h (i + m + 1) hm
    rw [gd (i + m + 1) (by omega),gd (i + m + 1 + 1) hm] at h2
    exact ht _ _ _ h1 h2
  have:=key (j - i - 1) (by omega)
  have e:i + (j - i - 1) + 1=j:=by omega
  simp only [e] at this
  exact this
 ·intro h k hk
  rw [gd k (by omega),gd (k + 1) hk]
  exact h k (k + 1) (by omega) hk (by omega)
abbrev qqZ (l:List qd):Prop:=l.Pairwise fun f g=>f.No < g.No
theorem qas {r:qa}:jM r=true↔stB r.zi=true∧(r.F≠[]∨r.zi≠zSt)∧qqZ r.F∧∀ f∈r.F,0≤f.No∧f.No < 8∧YS f.C=true∧slB r.zi f.C.S=true:=by
 have hne:r.F.length≠0↔r.F≠[]:=by
  rw [Ne,Ne,List.length_eq_zero_iff]
 constructor
 ·intro h
  have hr:=Xv.1 h
  refine ⟨hr.1,hr.2.1.imp hne.1 id,(qfp (R:=fun f g:qd=>f.No < g.No) (fun a b c h1 h2=>Int.lt_trans h1 h2) (d:=zF)).1 fun k hk=>?_,(qd3 (d:=zF)).1 fun k hk=>?_⟩
  ·have:=(Vs.1 (hr.2.2 (k + 1) hk)).1
   rw [if_neg (by omega)] at this
   exact this
  ·have h1:=Vs.1 (hr.2.2 k hk)
   have h2:=qwB h k hk
   exact ⟨by omega,h1.2.1,h1.2.2.1,h1.2.2.2⟩
 ·rintro ⟨h1,h2,h3,h4⟩
  refine Xv.2 ⟨h1,h2.imp hne.2 id,fun k hk=>Vs.2 ⟨?_,?_⟩⟩
  ·by_cases h0:k=0
   ·rw [if_pos h0]; exact ((qd3 (d:=zF)).2 h4 k hk).1
   ·rw [if_neg h0]
    have:=(qfp (R:=fun f g:qd=>f.No < g.No) (fun a b c h1 h2=>Int.lt_trans h1 h2) (d:=zF)).2 h3 (k - 1) (by omega)
    rw [show k - 1 + 1=k by omega] at this
    exact this
  ·have:=(qd3 (d:=zF)).2 h4 k hk
   exact this.2
theorem qbl {g:Int→Option qc} {dead:qe}:∀ {m k:Nat} {f:qd},f∈QW g dead m k→(k:Int)≤f.No∧f.No < ((k + m:Nat):Int)∧g f.No=some f.C∧slB dead f.C.S=true
 | 0,_,_,h=>absurd h List.not_mem_nil
 | m + 1,k,f,h=>by
  unfold QW at h
  rcases List.mem_append.1 h with h | h
  ·cases e:g (k:Int) with
   | none=>rw [e] at h; exact absurd h List.not_mem_nil
   | some c=>
    rw [e] at h
    have h:f∈(if slB dead c.S=true then [qd.mk (k:Int) c] else []):=h
    split at h
    ·rename_i hs
     obtain rfl:=List.mem_singleton.1 h
     exact ⟨Int.le_refl _,by show (k:Int) < _; omega,e,hs⟩
    ·exact absurd h List.not_mem_nil
  ·have:=qbl h
   exact ⟨by omega,by omega,this.2.2⟩
theorem qjh {g:Int→Option qc} {dead:qe}:∀ {m k:Nat},qqZ (QW g dead m k)
 | 0,_=>List.Pairwise.nil
 | m + 1,k=>by
  unfold QW
  refine List.pairwise_append.2 ⟨?_,qjh,fun a ha b hb=>?_⟩
  ·have:=qr3 (dead:=dead) (k:=k) (c:=g (k:Int))
   match hk:qeU dead k (g (k:Int)),this with
   | [],_=>exact List.Pairwise.nil
   | [x],_=>exact List.pairwise_singleton _ _
  ·have h1:=qbl hb
   cases e:g (k:Int) with
   | none=>rw [e] at ha; exact absurd ha List.not_mem_nil
   | some c=>
    rw [e] at ha
    have ha:a∈(if slB dead c.S=true then [qd.mk (k:Int) c] else []):=ha
    split at ha
    ·obtain rfl:=List.mem_singleton.1 ha
     show (k:Int) < b.No
     omega
    ·exact absurd ha List.not_mem_nil
theorem qBt {l:List qd} (h:qqZ l) {f:qd} (hf:f∈l):cO l f.No=some f.C:=by
 induction l with
 | nil=>exact absurd hf List.not_mem_nil
 | cons x l ih=>
  rw [qgF]
  have hp:=List.pairwise_cons.1 h
  rcases List.mem_cons.1 hf with rfl | hf
  ·rw [if_pos rfl]
  ·have:=hp.1 f hf
   rw [if_neg (by omega),ih hp.2 hf]
theorem qed {r:qa} (h:jM r=true) {no:Int} {c:qc} (hc:cO r.F no=some c):0≤no∧no < 8∧YS c=true∧slB r.zi c.S=true:=by
 obtain ⟨f,hf,rfl,rfl⟩:=qmn hc
 exact (qas.1 h).2.2.2 f hf
theorem qD7 {g:Int→Option qc} {dead:qe} {no:Int} (h0:0≤no) (h8:no < 8):cO (QW g dead 8 0) no=(g no).filter fun c=>slB dead c.S:=by
 have key:∀ (m k:Nat),(k:Int)≤no→no < ((k + m:Nat):Int)→cO (QW g dead m k) no=(g no).filter fun c=>slB dead c.S:=by
  intro m
  induction m with
  | zero=>intro k h1 h2; omega
  | succ m ih=>
   intro k h1 h2
   unfold QW
   have app:∀ (a b:List qd),cO (a++b) no=(cO a no).or (cO b no):=by
    intro a b
    unfold cO
    rw [List.find?_append]
    cases List.find? (fun f:qd=>decide (f.No=no)) a<;>rfl
   rw [app]
   by_cases e:no=(k:Int)
   ·subst e
    have hn:cO (QW g dead m (k + 1)) (k:Int)=none:=by
     cases hc:cO (QW g dead m (k + 1)) (k:Int) with
     | none=>rfl
     | some c=>
      obtain ⟨f,hf,h3,_⟩:=qmn hc
      have:=(qbl hf).1
      omega
    rw [hn]
    cases hg:g (k:Int) with
    | none=>rfl
    | some c=>
     show (cO (if slB dead c.S=true then [qd.mk (k:Int) c] else []) (k:Int)).or none=_
     rw [Option.or_none]
     by_cases hs:slB dead c.S=true
     ·rw [if_pos hs,qgF,if_pos (show (qd.mk (k:Int) c).No=(k:Int) from rfl),Option.filter_some,if_pos hs]; rfl
     ·rw [if_neg hs,qpK,Option.filter_some,if_neg hs]
   ·have hn : cO (qeU dead k (g (k : Int))) no = none := by
       cases hg:g (k:Int) with
       | none=>rfl
       | some c=>
        show cO (if slB dead c.S=true then [qd.mk (k:Int) c] else []) no=none
        by_cases hs:slB dead c.S=true
        ·rw [if_pos hs,qgF,if_neg (fun h=>e h.symm),qpK]
        ·rw [if_neg hs,qpK]
    rw [hn,Option.none_or,ih (k + 1) (by omega) (by omega)]
 exact key 8 0 (by omega) (by omega)
theorem qII (a b:qe):mxS a b=a∨mxS a b=b:=by
 unfold mxS
 split
 ·exact .inr rfl
 ·exact .inl rfl
theorem qhM {s:qe} (h:stB s=true) (hz:s≠zSt):slB zSt s=true:=by
 unfold stB at h
 rw [decide_eq_false hz] at h
 simp only [Bool.false_or,Bool.and_eq_true,decide_eq_true_iff] at h
 unfold slB
 exact decide_eq_true (.inl h.1.1.1)
theorem qI9 {x y:qc}:slB (cJ x y).S x.S=false∧slB (cJ x y).S y.S=false:=by
 unfold cJ
 by_cases h:qaC x y=true
 ·rw [if_pos h]
  unfold qaC at h
  by_cases e:x.S=y.S
  ·rw [e]; exact ⟨VT _,VT _⟩
  ·rw [if_neg e] at h
   rcases qg2 x.S y.S with h1 | h1 | h1
   ·exact ⟨h1.2,VT _⟩
   ·exact (e h1).elim
   ·rw [h] at h1; simp at h1
 ·rw [if_neg h]
  unfold qaC at h
  by_cases e:x.S=y.S
  ·rw [e]; exact ⟨VT _,VT _⟩
  ·rw [if_neg e] at h
   rcases qg2 x.S y.S with h1 | h1 | h1
   ·exact (h h1.1).elim
   ·exact (e h1).elim
   ·exact ⟨VT _,h1.2⟩
theorem qIN {a b c:qe} (h1:slB b a=false) (h2:slB c a=true):slB c b=true:=by
 rcases qg2 a b with h | h | h
 ·exact qsb h2 h.1
 ·subst h; exact h2
 ·rw [h1] at h; simp at h
theorem quB {a b:qa} (ha:jM a=true) (hb:jM b=true) {no:Int} {c:qc} (h:jC (cO a.F no) (cO b.F no)=some c):0≤no∧no < 8∧YS c=true:=by
 cases ea:cO a.F no with
 | none=>
  rw [ea] at h
  cases eb:cO b.F no with
  | none=>rw [eb] at h; cases h
  | some y=>
   rw [eb] at h
   obtain rfl:=Option.some.inj h
   have:=qed hb eb; exact ⟨this.1,this.2.1,this.2.2.1⟩
 | some x=>
  have hx:=qed ha ea
  rw [ea] at h
  cases eb:cO b.F no with
  | none=>
   rw [eb] at h
   obtain rfl:=Option.some.inj h
   exact ⟨hx.1,hx.2.1,hx.2.2.1⟩
  | some y=>
   have hy:=qed hb eb
   rw [eb] at h
   obtain rfl:=Option.some.inj h
   refine ⟨hx.1,hx.2.1,?_⟩
   rcases qBa x y with e | e
   ·rw [e]; exact hx.2.2.1
   ·rw [e]; exact hy.2.2.1
theorem qAm (a b:qa):(rJ a b).F=QW (fun no=>jC (cO a.F no) (cO b.F no)) (mxS a.zi b.zi) 8 0:=rfl
theorem qGN {a b:qa} (ha:jM a=true) (hb:jM b=true) (no:Int):cO (rJ a b).F no=(jC (cO a.F no) (cO b.F no)).filter fun c=>slB (mxS a.zi b.zi) c.S:=by
 by_cases h:0≤no∧no < 8
 ·rw [qAm,qD7 h.1 h.2]
 ·have e1 : jC (cO a.F no) (cO b.F no) = none := by
     cases e:jC (cO a.F no) (cO b.F no) with
     | none=>rfl
     | some c=>have:=quB ha hb e; exact (h ⟨this.1,this.2.1⟩).elim
  rw [e1]
  cases e:cO (rJ a b).F no with
  | none=>rfl
  | some c=>
   obtain ⟨f,hf,h3,_⟩:=qmn e
   rw [qAm] at hf
   have:=qbl (m:=8) (k:=0) hf
   exact (h ⟨by omega,by omega⟩).elim
theorem qI8 (a b:qa):(rJ a b).ID=a.ID:=rfl
theorem qy7 (a b:qa):(rJ a b).zi=mxS a.zi b.zi:=rfl
theorem qEh {a b:qe} (ha:stB a=true) (hb:stB b=true) (h:mxS a b=zSt):a=zSt∧b=zSt:=by
 by_cases e:b=zSt
 ·subst e
  unfold mxS at h
  by_cases hs:slB a zSt=true
  ·exfalso
   by_cases ea:a=zSt
   ·subst ea; rw [VT] at hs; simp at hs
   ·have:=qsb (qhM ha ea) hs
    rw [VT] at this; simp at this
  ·rw [if_neg hs] at h; exact ⟨h,rfl⟩
 ·exfalso
  unfold mxS at h
  by_cases hs:slB a b=true
  ·rw [if_pos hs] at h; exact e h
  ·rw [if_neg hs] at h
   subst h
   exact hs (qhM hb e)
theorem quV {a b:qa} (ha:jM a=true) (hb:jM b=true):jM (rJ a b)=true:=by
 have hA:=qas.1 ha
 have hB:=qas.1 hb
 refine qas.2 ⟨?_,?_,by rw [qAm]; exact qjh,fun f hf=>?_⟩
 ·rw [qy7]
  rcases qII a.zi b.zi with e | e
  ·rw [e]; exact hA.1
  ·rw [e]; exact hB.1
 ·by_cases hz:(rJ a b).zi=zSt
  ·left
   intro hF
   obtain ⟨za,zb⟩:=qEh hA.1 hB.1 hz
   have hne:a.F≠[]:=hA.2.1.resolve_right (fun h=>h za)
   obtain ⟨f,l,e⟩:=List.exists_cons_of_ne_nil hne
   have hf:f∈a.F:=by rw [e]; exact List.mem_cons_self ..
   have hca:=qBt hA.2.2.1 hf
   have hfl:=(hA.2.2.2 f hf).2.2.2
   have hn:cO (rJ a b).F f.No=none:=by rw [hF]; rfl
   rw [qGN ha hb,hca] at hn
   rw [qy7] at hz
   rw [hz] at hn
   rw [za] at hfl
   cases hcb:cO b.F f.No with
   | none=>
    rw [hcb] at hn
    have hn:(some f.C).filter (fun c=>slB zSt c.S)=none:=hn
    rw [Option.filter_some,if_pos hfl] at hn; cases hn
   | some y=>
    rw [hcb] at hn
    have hn:(some (cJ f.C y)).filter (fun c=>slB zSt c.S)=none:=hn
    rw [Option.filter_some,if_pos (qIN qI9.1 hfl)] at hn; cases hn
  ·exact .inr hz
 ·rw [qAm] at hf
  have h1:=qbl (m:=8) (k:=0) hf
  have h2:=quB ha hb h1.2.2.1
  exact ⟨h2.1,h2.2.1,h2.2.2,h1.2.2.2⟩
def rO (l:List qa) (id:Vector UInt8 16):Option qa:=l.find? fun r=>decide (r.ID=id)
theorem qH4 {id:Vector UInt8 16}:rO [] id=none:=rfl
theorem qhj {r:qa} {l:List qa} {id:Vector UInt8 16}:rO (r::l) id=if r.ID=id then some r else rO l id:=by
 unfold rO
 rw [List.find?_cons]
 by_cases h:r.ID=id
 ·rw [decide_eq_true h,if_pos h]
 ·rw [decide_eq_false h,if_neg h]
theorem qao {l:List qa} {id:Vector UInt8 16} {r:qa} (h:rO l id=some r):r∈l∧r.ID=id:=
 ⟨List.mem_of_find?_eq_some h,of_decide_eq_true (List.find?_some (p:=fun r:qa=>decide (r.ID=id)) h)⟩
theorem qD1 {l:List qa} {id:Vector UInt8 16}:(qkn l id).map (fun i=>l.getD i zR)=rO l id:=by
 unfold qkn rO
 have:=qh4 (p:=fun r:qa=>decide (r.ID=id)) (d:=zR) (l:=l) (m:=l.length) (k:=0) (by omega)
 rw [List.drop_zero] at this
 exact this
abbrev qhg (l:List qa):Prop:=l.Pairwise fun a b=>lbB a.ID b.ID=true
def qqz (l:List qa):Prop:=qhg l∧∀ r∈l,jM r=true
theorem YG {b:qf}:zQ b=true↔qqz b.R∧b.R.length≤10:=by
 rw [qcj]
 refine and_congr ?_ Iff.rfl
 have ht:∀ a b c:qa,lbB a.ID b.ID=true→lbB b.ID c.ID=true→lbB a.ID c.ID=true:=fun _ _ _ h1 h2=>qsU h1 h2
 constructor
 ·intro h
  refine ⟨(qfp (R:=fun a b:qa=>lbB a.ID b.ID=true) ht (d:=zR)).1 fun k hk=>?_,(qd3 (d:=zR)).1 fun k hk=>(h k hk).1⟩
  rcases (h (k + 1) hk).2 with e | e
  ·omega
  ·exact e
 ·rintro ⟨h1,h2⟩ k hk
  refine ⟨(qd3 (d:=zR)).2 h2 k hk,?_⟩
  by_cases h0:k=0
  ·exact .inl h0
  ·have:=(qfp (R:=fun a b:qa=>lbB a.ID b.ID=true) ht (d:=zR)).2 h1 (k - 1) (by omega)
   rw [show k - 1 + 1=k by omega] at this
   exact .inr this
theorem qDj {l:List qa} (h:qhg l) {r:qa} (hr:r∈l):rO l r.ID=some r:=by
 induction l with
 | nil=>exact absurd hr List.not_mem_nil
 | cons x l ih=>
  rw [qhj]
  have hp:=List.pairwise_cons.1 h
  rcases List.mem_cons.1 hr with rfl | hr
  ·rw [if_pos rfl]
  ·have:=hp.1 r hr
   rw [if_neg (fun e=>by rw [e,quj] at this; cases this),ih hp.2 hr]
def jR:Option qa→Option qa→Option qa
 | some x,some y=>some (rJ x y)
 | some x,none=>some x
 | none,y=>y
def qpe (a b c:List qa):Prop:=qhg c∧∀ id,rO c id=jR (rO a id) (rO b id)
theorem qCX {a b c:List qa} (ha:qqz a) (hb:qqz b) (h:qpe a b c):qqz c:=by
 refine ⟨h.1,fun r hr=>?_⟩
 have e:=h.2 r.ID
 rw [qDj h.1 hr] at e
 cases ea:rO a r.ID with
 | none=>
  rw [ea] at e
  have e:some r=rO b r.ID:=e
  exact hb.2 r (qao e.symm).1
 | some x=>
  rw [ea] at e
  cases eb:rO b r.ID with
  | none=>
   rw [eb] at e
   obtain rfl:=Option.some.inj e
   exact ha.2 r (qao ea).1
  | some y=>
   rw [eb] at e
   obtain rfl:=Option.some.inj e
   exact quV (ha.2 x (qao ea).1) (hb.2 y (qao eb).1)
end Go.Rx
end
set_option maxRecDepth 100000
noncomputable section
namespace Go.Rx
open Go.Proofs
theorem qrN {a b:qe} (h:slB a b=true):mxS a b=b:=if_pos h
theorem qrX {a b:qe} (h:slB a b=false):mxS a b=a:=if_neg (by rw [h]; simp)
theorem qFl (a:qe):mxS a a=a:=qrX (VT a)
theorem qF9 (a b:qe):mxS a b=mxS b a:=by
 rcases qg2 a b with h | h | h
 ·rw [qrN h.1,qrX h.2]
 ·subst h; rfl
 ·rw [qrX h.2,qrN h.1]
abbrev fl (d:qe) (o:Option qc):Option qc:=o.filter fun c=>slB d c.S
theorem qyp {d:qe} {c:qc}:fl d (some c)=if slB d c.S=true then some c else none:=by
 show Option.filter _ (some c)=_
 rw [Option.filter_some]
theorem qG8 {r:qa} (h:jM r=true) (no:Int):fl r.zi (cO r.F no)=cO r.F no:=by
 cases e:cO r.F no with
 | none=>rfl
 | some c=>rw [qyp,if_pos (qed h e).2.2.2]
def VO (id:Vector UInt8 16) (o:Option qa):Prop:=∀ r,o=some r→jM r=true∧r.ID=id
theorem qG6 {id:Vector UInt8 16}:VO id none:=fun _ h=>by cases h
theorem qGK {l:List qa} (h:∀ r∈l,jM r=true) (id:Vector UInt8 16):VO id (rO l id):=fun r hr=>⟨h r (qao hr).1,(qao hr).2⟩
end Go.Rx
end
set_option maxRecDepth 100000
noncomputable section
namespace Go.Rx
open Go.Proofs
open Go.Lib (compareBytes)
section g
variable {α:Type}
theorem qu7 {p q:List α} {x:α} {n:Nat} (h:(p++x::q).length=n):Ka (p++x::q) n p.length=some x:=by
 unfold Ka
 rw [if_pos h,List.getElem?_append_right (Nat.le_refl _),Nat.sub_self]; rfl
theorem qrj {x y:α} {q:List α}:∀ {p:List α},(p++x::q).set p.length y=p++y::q
 | []=>rfl
 | z::p=>by
  show z::(p++x::q).set p.length y=_
  rw [qrj]; rfl
end g
def VR (rp:List (Vector UInt8 16)) (x:Vector UInt8 16) (q:List (Vector UInt8 16)):List (Vector UInt8 16):=match rp with
 | []=>x::q
 | y::r=>if lbB x y=true then VR r x (y::q) else (y::r).reverse++x::q
def vH (l:List (Vector UInt8 16)):List (Vector UInt8 16):=l.foldl (fun p x=>VR p.reverse x []) []
theorem qkm {x:Vector UInt8 16}:∀ {rp q:List (Vector UInt8 16)},(VR rp x q).Perm (x::(rp++q))
 | [],q=>List.Perm.refl _
 | y::r,q=>by
  unfold VR
  split
  ·exact qkm.trans (List.Perm.cons _ List.perm_middle)
  ·exact List.perm_middle.trans (List.Perm.cons _ ((List.reverse_perm _).append_right _))
theorem qsu {x:Vector UInt8 16} {s:List (Vector UInt8 16)}:∀ {rp q:List (Vector UInt8 16)},VR rp x (q++s)=VR rp x q++s
 | [],q=>rfl
 | y::r,q=>by
  unfold VR
  split
  ·exact qsu (q:=y::q)
  ·rw [List.append_assoc]; rfl
abbrev qdI (l:List (Vector UInt8 16)):Prop:=l.Pairwise fun a b=>lbB a b=true
theorem qnu {x:Vector UInt8 16}:∀ {rp q:List (Vector UInt8 16)},qdI (rp.reverse++q)→(∀ y∈q,lbB x y=true)→x∉rp→qdI (VR rp x q)
 | [],q,h,hq,_=>List.pairwise_cons.2 ⟨hq,h⟩
 | y::r,q,h,hq,hx=>by
  rw [List.mem_cons,not_or] at hx
  unfold VR
  split
  ·rename_i hlt
   refine qnu (rp:=r) (q:=y::q) ?_ (fun z hz=>?_) hx.2
   ·rw [List.reverse_cons,List.append_assoc] at h; exact h
   ·rcases List.mem_cons.1 hz with rfl | hz
    ·exact hlt
    ·exact hq z hz
  ·rename_i hlt
   have hyx:lbB y x=true:=by
    rcases qHK x y with h1 | h1 | h1
    ·exact (hlt h1.1).elim
    ·exact (hx.1 h1).elim
    ·exact h1.1
   obtain ⟨h1,h2,h3⟩:=List.pairwise_append.1 h
   refine List.pairwise_append.2 ⟨h1,List.pairwise_cons.2 ⟨hq,h2⟩,fun a ha b hb=>?_⟩
   have hay:lbB a x=true:=by
    rw [List.reverse_cons,List.mem_append,List.mem_singleton] at ha
    rcases ha with ha | rfl
    ·rw [List.reverse_cons] at h1
     exact qsU ((List.pairwise_append.1 h1).2.2 a ha y (List.mem_singleton.2 rfl)) hyx
    ·exact hyx
   rcases List.mem_cons.1 hb with rfl | hb
   ·exact hay
   ·exact h3 a ha b hb
theorem qr2:∀ {l p:List (Vector UInt8 16)},qdI p→(p++l).Nodup→qdI (l.foldl (fun p x=>VR p.reverse x []) p)∧(l.foldl (fun p x=>VR p.reverse x []) p).Perm (p++l)
 | [],p,h,_=>⟨h,by rw [List.append_nil]; exact List.Perm.refl _⟩
 | x::l,p,h,hn=>by
  have hp:(VR p.reverse x []).Perm (x::p):=qkm.trans (List.Perm.cons _ (by rw [List.append_nil]; exact List.reverse_perm _))
  have hx:x∉p:=fun hx=>by
   have:=(List.nodup_append.1 hn).2.2 x hx x (List.mem_cons_self ..)
   exact this rfl
  have hs:qdI (VR p.reverse x []):=qnu (by rw [List.reverse_reverse,List.append_nil]; exact h) (fun y hy=>absurd hy (List.not_mem_nil)) (by rw [List.mem_reverse]; exact hx)
  have hpl:(VR p.reverse x []++l).Perm (p++x::l):=(hp.append_right l).trans List.perm_middle.symm
  obtain ⟨h1,h2⟩:=qr2 (l:=l) hs (hpl.nodup_iff.2 hn)
  exact ⟨h1,h2.trans hpl⟩
theorem qFt {l:List (Vector UInt8 16)} (h:l.Nodup):qdI (vH l)∧(vH l).Perm l:=by
 have:=qr2 (l:=l) (p:=[]) List.Pairwise.nil (by simpa using h)
 rw [List.nil_append] at this
 exact this
section
variable {N:Nat} [Q3 N]
theorem qGf (a b:Vector UInt8 16):∃ n:Int,qef a b=some n∧decide (n < 0)=lbB a b:=by
 refine ⟨compareBytes a.toList b.toList,rfl,?_⟩
 rw [qmj]; rfl
theorem qyS {s2 s8 : Int} : ∀ (rp : List (Vector UInt8 16)) (x : Vector UInt8 16) (q : List (Vector UInt8 16)) (n m : Nat), (rp.reverse ++ x :: q).length = n → n ≤ 1000 → rp.length < m →
    ∃ j b,q8 (ja N n 0 s2 s8) some m (rp.reverse++x::q,(rp.length:Int))=some (VR rp x q,j,b)
 | _,_,_,_,0,_,_,hm=>by omega
 | [],x,q,n,m + 1,hn,hs,hm=>by
  refine ⟨((0:Nat):Int),false,?_⟩
  rw [zL (x:=(([]:List (Vector UInt8 16)).reverse++x::q,((0:Nat):Int),false)) (by unfold ja; exact w_f rfl (qC rfl)) m]
  rfl
 | y::r,x,q,n,m + 1,hn,hs,hm=>by
  have hl:(y::r).reverse.length=r.length + 1:=by simp
  have e0:(y::r).reverse++x::q=r.reverse++y::(x::q):=by rw [List.reverse_cons,List.append_assoc]; rfl
  have hrl:r.reverse.length=r.length:=List.length_reverse
  have hnl:r.length + 1 < n:=by rw [← hn,List.length_append,hl,List.length_cons]; omega
  obtain ⟨c,hc,hlt⟩:=qGf x y
  have c0:(0:Int)≤((r.length + 1:Nat):Int)∧((r.length + 1:Nat):Int) < ((n:Nat):Int):=by omega
  have c1:qy (((r.length + 1:Nat):Int) - 1):=by unfold qy; omega
  have c2:(0:Int)≤((r.length + 1:Nat):Int) - 1∧((r.length + 1:Nat):Int) - 1 < ((n:Nat):Int):=by omega
  have g1:Ka ((y::r).reverse++x::q) n (((r.length + 1:Nat):Int)).toNat=some x:=by
   have:=qu7 (p:=(y::r).reverse) (x:=x) (q:=q) hn
   rw [hl] at this; exact this
  have t1:(((r.length + 1:Nat):Int) - 1).toNat=r.length:=by omega
  have g2:Ka ((y::r).reverse++x::q) n (((r.length + 1:Nat):Int) - 1).toNat=some y:=by
   rw [t1,e0]
   have:=qu7 (p:=r.reverse) (x:=y) (q:=x::q) (n:=n) (by rw [← e0]; exact hn)
   rw [hrl] at this; exact this
  cases hb:lbB x y with
  | false=>
   refine ⟨((r.length + 1:Nat):Int),decide (c < 0),?_⟩
   rw [zL (x:=((y::r).reverse++x::q,((r.length + 1:Nat):Int),decide (c < 0))) (by
    unfold ja
    exact w_t (decide_eq_true (by show (0:Int) < ((r.length + 1:Nat):Int); omega)) (qZ c0 (qz g1 (qZ c1 (qZ c2 (qz g2 (qz hc (w_f (hlt.trans hb) (qC rfl)))))))) ) m]
   unfold VR
   rw [if_neg (by rw [hb]; simp)]
  | true=>
   obtain ⟨j,b,h⟩:=qyS r x (y::q) n m (by rw [← hn,e0]; simp) hs (by simp at hm; omega)
   refine ⟨j,b,?_⟩
   have s1:((y::r).reverse++x::q).set (((r.length + 1:Nat):Int)).toNat y=(y::r).reverse++y::q:=by
    have:=qrj (p:=(y::r).reverse) (x:=x) (y:=y) (q:=q)
    rw [hl] at this; exact this
   have s2:((y::r).reverse++y::q).set (((r.length + 1:Nat):Int) - 1).toNat x=r.reverse++x::(y::q):=by
    rw [t1,show (y::r).reverse++y::q=r.reverse++y::(y::q) by rw [List.reverse_cons,List.append_assoc]; rfl]
    have:=qrj (p:=r.reverse) (x:=y) (y:=x) (q:=y::q)
    rw [hrl] at this; exact this
   have v1:qft ((y::r).reverse++x::q).length n (((r.length + 1:Nat):Int)).toNat:=⟨hn,by omega⟩
   have v2:qft (((y::r).reverse++x::q).set (((r.length + 1:Nat):Int)).toNat y).length n (((r.length + 1:Nat):Int) - 1).toNat:=⟨by rw [List.length_set]; exact hn,by omega⟩
   rw [Jl (v':=(r.reverse++x::(y::q),(r.length:Int))) (by
    unfold ja
    refine w_t (decide_eq_true (by show (0:Int) < ((r.length + 1:Nat):Int); omega)) (qZ c0 (qz g1 (qZ c1 (qZ c2 (qz g2 (qz hc (w_t (hlt.trans hb) (qZ c1 (qZ c1 (qZ c2 (qz g2 (qZ c0 (qz g1 (qZ c0 (qZ v1 (qZ c2 (qZ v2 (qZ c1 (qC ?_)))))))))))))))))))
    show some (Sum.inl ((((y::r).reverse++x::q).set (((r.length + 1:Nat):Int)).toNat y).set (((r.length + 1:Nat):Int) - 1).toNat x,((r.length + 1:Nat):Int) - 1))=_
    rw [s1,s2,show ((r.length + 1:Nat):Int) - 1=(r.length:Int) by omega]) m]
   unfold VR
   rw [if_pos hb]
   exact h
theorem qAB {l:List (Vector UInt8 16)} (hs:l.length≤1000) (h0:l≠[]):zH N l 0 (l.length:Int)=some (vH l):=by
 have hN:=big N
 have hpos:0 < l.length:=List.length_pos_iff.2 h0
 have key:jL N l.length 0 (l.length:Int) l 1=some (vH l,(l.length:Int),false):=by
  have h:=qiD (B:=zw N l.length 0 (l.length:Int)) (g:=some) (I:=fun v=>∃ k:Nat,1≤k∧k≤l.length∧v=(vH (l.take k)++l.drop k,(k:Int))) (Q:=fun y=>y=(vH l,(l.length:Int),false)) (fun v=>l.length - v.2.toNat) ?_ N (l,((1:Nat):Int))
   ⟨1,Nat.le_refl _,hpos,by
    cases l with
    | nil=>exact (h0 rfl).elim
    | cons x r=>rfl⟩ (by simp; omega)
  ·obtain ⟨y,e,rfl⟩:=h
   exact e
  rintro v ⟨k,h1,hk,rfl⟩
  have hlen:∀ j,j≤l.length→(vH (l.take j)).length=j:=by
   intro j hj
   have:∀ (m p:List (Vector UInt8 16)),(m.foldl (fun p x=>VR p.reverse x []) p).length=p.length + m.length:=by
    intro m
    induction m with
    | nil=>intro p; rfl
    | cons x m ih=>
     intro p
     rw [List.foldl_cons,ih,qkm.length_eq]
     simp; omega
   unfold vH
   rw [this]; simp; omega
  by_cases h:k < l.length
  ·left
   have ed:l.drop k=l.getD k (Vector.replicate 16 0)::l.drop (k + 1):=by
    rw [List.drop_eq_getElem_cons h,List.getD_eq_getElem?_getD,List.getElem?_eq_getElem h]; rfl
   have et:vH (l.take (k + 1))=VR (vH (l.take k)).reverse (l.getD k (Vector.replicate 16 0)) []:=by
    unfold vH
    rw [List.take_succ_eq_append_getElem h,List.foldl_append,List.getD_eq_getElem?_getD,List.getElem?_eq_getElem h]; rfl
   have hll:(vH (l.take k)).reverse.length=k:=by rw [List.length_reverse,hlen k hk]
   obtain ⟨j,b,e⟩:=qyS (N:=N) (s2:=(l.length:Int)) (s8:=(k:Int)) (vH (l.take k)).reverse (l.getD k (Vector.replicate 16 0)) (l.drop (k + 1)) l.length N (by
    rw [List.reverse_reverse,← ed,List.length_append,hlen k hk,List.length_drop]; omega) hs (by omega)
   rw [List.reverse_reverse,← ed,hll] at e
   have er:VR (vH (l.take k)).reverse (l.getD k (Vector.replicate 16 0)) (l.drop (k + 1))=vH (l.take (k + 1))++l.drop (k + 1):=by
    rw [et,← qsu]; rfl
   rw [er] at e
   refine ⟨(vH (l.take (k + 1))++l.drop (k + 1),((k + 1:Nat):Int)),?_,⟨k + 1,by omega,h,rfl⟩,by simp only [Int.toNat_natCast]; omega⟩
   unfold zw
   exact w_t (dec_lt h) (qz e (qZ (QY (by omega)) (qC (by rw [zG]))))
  ·right
   obtain rfl:k=l.length:=by omega
   refine ⟨(vH l,(l.length:Int),false),_,?_,rfl,rfl⟩
   unfold zw
   refine w_f (jy (Nat.lt_irrefl _)) (qC ?_)
   dsimp only
   rw [jy (Nat.lt_irrefl _),List.take_of_length_le (Nat.le_refl _),List.drop_of_length_le (Nat.le_refl _),List.append_nil]
 unfold zH jV
 exact qZ (by unfold qy; omega) (qz key (qC rfl))
theorem qx2:zH N [] 0 ((([]:List (Vector UInt8 16)).length:Nat):Int)=some []:=by
 have key:jL N 0 0 ((0:Nat):Int) [] 1=some ([],1,false):=by
  obtain ⟨M,hM⟩:∃ M,N=M + 1:=⟨N - 1,by have:=big N; omega⟩
  show q8 (zw N 0 0 ((0:Nat):Int)) some N ([],1)=_
  have:∀ K,K=M + 1→q8 (zw N 0 0 ((0:Nat):Int)) some K ([],1)=some ([],1,false):=by
   rintro K rfl
   rw [zL (x:=([],1,false)) (by unfold zw; exact w_f rfl (qC rfl))]
  exact this N hM
 unfold zH jV
 exact qZ (by unfold qy; omega) (qz key (qC rfl))
theorem qHB {l:List (Vector UInt8 16)} (h:l.length≤12):J1 N l=some (vH l):=by
 have e1:zH N l 0 ((l.length:Nat):Int)=some (vH l):=by
  cases l with
  | nil=>exact qx2
  | cons x r=>exact qAB (by omega) (by simp)
 have e2:∀ z:Int,QK N l 0 ((l.length:Nat):Int) z=some (vH l):=fun z=>by
  have key:ZB N l 0 ((l.length:Nat):Int) z=some (vH l):=by
   obtain ⟨M,hM⟩:∃ M,N=M + 1:=⟨N - 1,by have:=big N; omega⟩
   show q8 (vA N l 0 ((l.length:Nat):Int) z) some N ()=_
   have:∀ K,K=M + 1→q8 (vA N l 0 ((l.length:Nat):Int) z) some K ()=some (vH l):=by
    rintro K rfl
    rw [zL (x:=vH l) (by unfold vA; exact qZ (by unfold qy; omega) (w_t (decide_eq_true (by omega)) (qz ((jH rfl).trans e1) (qC rfl))))]
   exact this N hM
  unfold QK ZZ
  exact qz ((jH rfl).trans key) (qC rfl)
 have e3:∃ z,KA (IntKind.u64.wrap ((l.length:Nat):Int))=some z:=by
  rw [qEm (by omega)]
  have:∀ k,k≤12→(KA ((k:Nat):Int)).isSome=true:=by decide +kernel
  exact Option.isSome_iff_exists.1 (this _ h)
 obtain ⟨z,e3⟩:=e3
 unfold J1 XK
 exact qz e3 (qz ((jH rfl).trans (e2 z)) (qC rfl))
end
end Go.Rx
end
set_option maxRecDepth 100000
noncomputable section
namespace Go.Rx
open Go.Proofs
open Go.Lib (compareBytes)
section
variable {N:Nat} [Q3 N]
theorem qp8 (a b:Vector UInt8 32):qdY a b=some (ltD a b):=by
 unfold qdY qh3 ltD
 rw [qO,eqD]
 by_cases h:a=b
 ·subst h; rw [decide_eq_true rfl,YN]; rfl
 ·rw [decide_eq_false h]; rfl
end
end Go.Rx
end
set_option maxRecDepth 100000
noncomputable section
namespace Go.Rx
open Go.Proofs
open Go.Lib (compareBytes)
section
variable {N:Nat} [Q3 N]
theorem qET {x y : Bool} {p : Prop} (h : (x = true ∧ y = false) ∨ p ∨ (y = true ∧ x = false)) (hp : p → x = false ∧ y = false) :
    ∃ n:Int,(Tree.cond x (.ret (-1:Int)) (.cond y (.ret 1) (.ret 0))).run some=some n∧(decide (n=0)=true↔p)∧(¬ p→decide (n < 0)=x):=by
 rcases h with ⟨h1,h2⟩ | h1 | ⟨h1,h2⟩
 ·subst h1; subst h2
  exact ⟨-1,rfl,⟨fun h=>by simp at h,fun h=>by have:=(hp h).1; simp at this⟩,fun _=>rfl⟩
 ·obtain ⟨h2,h3⟩:=hp h1
  subst h2; subst h3
  exact ⟨0,rfl,⟨fun _=>h1,fun _=>rfl⟩,fun h=>(h h1).elim⟩
 ·subst h1; subst h2
  exact ⟨1,rfl,⟨fun h=>by simp at h,fun h=>by have:=(hp h).2; simp at this⟩,fun _=>rfl⟩
theorem qBA (a b:qe):∃ n:Int,Xu N a b=some n∧(decide (n=0)=true↔a=b)∧(a≠b→decide (n < 0)=slB a b):=by
 obtain ⟨n,h1,h2,h3⟩:=qET (qg2 a b) fun h=>by subst h; exact ⟨VT a,VT a⟩
 refine ⟨n,?_,h2,h3⟩
 unfold Xu WR
 rw [run_bind,qcE,Option.bind_some,← h1,qO,qO,run_bind,qcE,Option.bind_some]
theorem qCj (a b:Vector UInt8 32):∃ n:Int,Vz a b=some n∧(decide (n=0)=true↔a=b)∧(a≠b→decide (n < 0)=ltD a b):=by
 have ht:(ltD a b=true∧ltD b a=false)∨a=b∨(ltD b a=true∧ltD a b=false):=by
  rcases ql6 a.toList b.toList with h | h | h
  ·exact .inl h
  ·exact .inr (.inl (Vector.toList_inj.1 h))
  ·exact .inr (.inr h)
 obtain ⟨n,h1,h2,h3⟩:=qET ht fun h=>by subst h; exact ⟨YN _,YN _⟩
 refine ⟨n,?_,h2,h3⟩
 unfold Vz Wp
 rw [run_bind,qp8,Option.bind_some,← h1,qO,qO,run_bind,qp8,Option.bind_some]
theorem qGX (a b:List UInt8):∃ n:Int,J2 a b=some n∧(decide (n=0)=true↔a=b)∧(a≠b→decide (n < 0)=ltB a b):=by
 have e:∀ x:List UInt8,XH x=some ():=fun x=>rfl
 have g:(!(Op.bytesLess a b||decide (a=b)))=ltB b a:=by
  rw [qpu]
  rcases ql6 a b with h | h | h
  ·rw [h.1,h.2]; rfl
  ·subst h; rw [decide_eq_true rfl,YN]; rfl
  ·have:a≠b:=fun e=>by subst e; rw [YN] at h; simp at h
   rw [h.1,h.2,decide_eq_false this]; rfl
 obtain ⟨n,h1,h2,h3⟩:=qET (ql6 a b) fun h=>by subst h; exact ⟨YN _,YN _⟩
 refine ⟨n,?_,h2,h3⟩
 unfold J2 Xo
 refine qz (e a) (qz (e b) (w_f (by rw [decide_eq_true rfl]; rfl) (w_f (by rw [decide_eq_true rfl]; rfl) ?_)))
 rw [← h1,qO,qO,qO,qO,qpu a b,← g,qpu a b]
theorem qEL {a b:qc} (ha:a.V.length≤50000) (hb:b.V.length≤50000):qe0 N a b=some (qaC a b):=by
 obtain ⟨n1,e1,z1,l1⟩:=qBA (N:=N) a.S b.S
 obtain ⟨n2,e2,z2,l2⟩:=qCj (JQ a.V) (JQ b.V)
 obtain ⟨n3,e3,z3,l3⟩:=qGX a.V b.V
 have f1:qb7 N a b=some n1:=by unfold qb7 qcY; exact qz e1 (qC rfl)
 have f2:qbZ N a b=some n2:=by unfold qbZ qcU; exact qz (qii ha) (qz (qii hb) (qz e2 (qC rfl)))
 have f3:qb1 a b=some n3:=by unfold qb1 qcR; exact qz e3 (qC rfl)
 have key:∃ M,N=M + 1:=⟨N - 1,by have:=big N; omega⟩
 obtain ⟨M,hM⟩:=key
 have z:∀ {n:Int} {p:Prop},(decide (n=0)=true↔p)→p→(!decide (n=0))=false:=fun h hp=>by rw [h.2 hp]; rfl
 have nz:∀ {n:Int} {p:Prop},(decide (n=0)=true↔p)→¬ p→(!decide (n=0))=true:=fun {n} {p} h hp=>by
  cases e:decide (n=0) with
  | false=>rfl
  | true=>exact (hp (h.1 e)).elim
 have hl:qa7 N a b=some (if a.S=b.S∧JQ a.V=JQ b.V∧a.V=b.V then .inr () else .inl (qaC a b)):=by
  have s1:qa7 N a b=q8 (Yw N a b) (qbE N N (a,b)) (M + 1) ():=by rw [← hM]; rfl
  rw [s1]
  by_cases h1:a.S=b.S
  ·rw [zL (x:=.inl ()) (by unfold Yw; exact qZ (by omega) (qz f1 (w_f (z z1 h1) (qC rfl))))]
   show q8 (QU N a b) (Z7 N N (a,b)) N ()=_
   rw [show q8 (QU N a b) (Z7 N N (a,b)) N ()=q8 (QU N a b) (Z7 N N (a,b)) (M + 1) () by rw [← hM]]
   by_cases h2:JQ a.V=JQ b.V
   ·rw [zL (x:=.inl ()) (by unfold QU; exact qZ (by omega) (qz f2 (w_f (z z2 h2) (qC rfl))))]
    show q8 (QX N a b) (Ja N N (a,b)) N ()=_
    rw [show q8 (QX N a b) (Ja N N (a,b)) N ()=q8 (QX N a b) (Ja N N (a,b)) (M + 1) () by rw [← hM]]
    by_cases h3:a.V=b.V
    ·rw [zL (x:=.inl ()) (by unfold QX; exact qZ (by omega) (qz f3 (w_f (z z3 h3) (qC rfl))))]
     show q8 (Z6 N a b) some N ()=_
     rw [show q8 (Z6 N a b) some N ()=q8 (Z6 N a b) some (M + 1) () by rw [← hM]]
     rw [zL (x:=.inr ()) (by unfold Z6; exact qC rfl),if_pos ⟨h1,h2,h3⟩]
    ·rw [zL (x:=.inr (.inl (decide (n3 < 0)))) (by unfold QX; exact qZ (by omega) (qz f3 (w_t (nz z3 h3) (qC rfl)))),if_neg (fun h=>h3 h.2.2)]
     show some (Sum.inl (decide (n3 < 0)))=_
     rw [l3 h3]
     unfold qaC
     rw [if_pos h1,if_pos h2]
   ·rw [zL (x:=.inr (.inl (decide (n2 < 0)))) (by unfold QU; exact qZ (by omega) (qz f2 (w_t (nz z2 h2) (qC rfl)))),if_neg (fun h=>h2 h.2.1)]
    show some (Sum.inl (decide (n2 < 0)))=_
    rw [l2 h2]
    unfold qaC
    rw [if_pos h1,if_neg h2]
  ·rw [zL (x:=.inr (.inl (decide (n1 < 0)))) (by unfold Yw; exact qZ (by omega) (qz f1 (w_t (nz z1 h1) (qC rfl)))),if_neg (fun h=>h1 h.1)]
   show some (Sum.inl (decide (n1 < 0)))=_
   rw [l1 h1]
   unfold qaC
   rw [if_neg h1]
 unfold qe0 qfu
 refine qz hl ?_
 by_cases h:a.S=b.S∧JQ a.V=JQ b.V∧a.V=b.V
 ·rw [if_pos h]
  show some false=_
  unfold qaC
  rw [if_pos h.1,if_pos h.2.1,h.2.2,YN]
 ·rw [if_neg h]; rfl
theorem qIS {a b:qc} (ha:a.V.length≤50000) (hb:b.V.length≤50000):qfj N a b=some (cJ a b):=by
 unfold qfj qgd cJ
 refine qz (qEL ha hb) ?_
 cases qaC a b<;>rfl
theorem qIo (a b:qe):qfn N a b=some (mxS a b):=by
 unfold qfn qfZ mxS
 refine qz (qcE _ _) ?_
 cases slB a b<;>rfl
end
end Go.Rx
end
set_option maxRecDepth 100000
noncomputable section
namespace Go.Rx
open Go.Proofs
section
variable {N:Nat} [Q3 N]
theorem qHH {l : List qd} (h8 : l.length ≤ 600) (hV : ∀ k, k < l.length → (l.getD k zF).C.V.length ≤ 200) {c : Nat} {M : List (Int × qc × Nat)} {g : Int → Option qc} (hM : ∀ no, Ym no M = g no) (hg : qdq g) :
    ∃ c' M',Wo N l ((l.length:Nat):Int) c M 0=some (c',M',((l.length:Nat):Int),false)∧(∀ no,Ym no M'=l.foldl JZ g no)∧qdq (l.foldl JZ g):=by
 have key:∃ y,q8 (Qu N l ((l.length:Nat):Int)) some N (c,M,((0:Nat):Int))=some y∧∃ c' M',y=(c',M',((l.length:Nat):Int),false)∧(∀ no,Ym no M'=l.foldl JZ g no)∧qdq (l.foldl JZ g):=by
  refine qiD (I:=fun v=>∃ (k c':Nat) (M':List (Int×qc×Nat)),k≤l.length∧v=(c',M',(k:Int))∧(∀ no,Ym no M'=(l.take k).foldl JZ g no)∧qdq ((l.take k).foldl JZ g)) (fun v=>l.length - v.2.2.toNat) ?_ N _ ⟨0,c,M,Nat.zero_le _,rfl,hM,hg⟩ (by have:=big N; simp; omega)
  rintro v ⟨k,c',M',hk,rfl,hi,hs⟩
  by_cases h:k < l.length
  ·left
   have et:(l.take (k + 1)).foldl JZ g=JZ ((l.take k).foldl JZ g) (l.getD k zF):=by
    rw [List.take_succ_eq_append_getElem h,List.foldl_append,List.getD_eq_getElem?_getD,List.getElem?_eq_getElem h]; rfl
   have hs':qdq ((l.take (k + 1)).foldl JZ g):=by rw [et]; exact qzX hs (hV k h)
   have hno:=hi (l.getD k zF).No
   unfold Ym at hno
   cases e:fnd (β:=qc) (.i .i64) (l.getD k zF).No M' with
   | none=>
    rw [e] at hno
    refine ⟨((QE (.i .i64) (qd.No (l.getD k zF)) (qd.C (l.getD k zF)) c' M').1,(QE (.i .i64) (qd.No (l.getD k zF)) (qd.C (l.getD k zF)) c' M').2,((k + 1:Nat):Int)),?_,⟨k + 1,_,_,h,rfl,?_,hs'⟩,by simp only [Int.toNat_natCast]; omega⟩
    ·unfold Qu
     exact w_t (dec_lt h) (qz (vL (d:=zF) h) (quZ e (qZ (QY (by omega)) (qC (by rw [zG])))))
    ·intro no
     rw [qvm,et,quU]
     by_cases hq:no=(l.getD k zF).No
     ·rw [if_pos hq,if_pos hq.symm,hq,← hno]; rfl
     ·rw [if_neg hq,if_neg (fun e=>hq e.symm),hi no]
   | some x=>
    rw [e] at hno
    have hx:x.1.V.length≤200:=hs _ _ hno.symm
    refine ⟨((QE (.i .i64) (qd.No (l.getD k zF)) (cJ x.1 (qd.C (l.getD k zF))) c' M').1,(QE (.i .i64) (qd.No (l.getD k zF)) (cJ x.1 (qd.C (l.getD k zF))) c' M').2,((k + 1:Nat):Int)),?_,⟨k + 1,_,_,h,rfl,?_,hs'⟩,by simp only [Int.toNat_natCast]; omega⟩
    ·unfold Qu
     exact w_t (dec_lt h) (qz (vL (d:=zF) h) (qpP e (qz (qIS (by omega) (by have:(l.getD k zF).C.V.length≤200:=hV k h; omega)) (qZ (QY (by omega)) (qC (by rw [zG]))))))
    ·intro no
     rw [qvm,et,quU]
     by_cases hq:no=(l.getD k zF).No
     ·rw [if_pos hq,if_pos hq.symm,hq,← hno]; rfl
     ·rw [if_neg hq,if_neg (fun e=>hq e.symm),hi no]
  ·right
   obtain rfl:k=l.length:=by omega
   refine ⟨(c',M',((l.length:Nat):Int),false),_,?_,rfl,c',M',rfl,?_⟩
   ·unfold Qu
    exact w_f (jy (Nat.lt_irrefl _)) (qC (by rw [jy (Nat.lt_irrefl _)]))
   ·rw [List.take_of_length_le (Nat.le_refl _)] at hi hs
    exact ⟨hi,hs⟩
 obtain ⟨y,e,c',M',rfl,h⟩:=key
 exact ⟨c',M',e,h⟩
theorem qzb {r : qa} (hr : jM r = true) {c : Nat} {M : List (Int × qc × Nat)} {g : Int → Option qc} (hM : ∀ no, Ym no M = g no) (hg : qdq g) :
    ∃ c' M',Jy N c M r=some (c',M')∧(∀ no,Ym no M'=jC (g no) (cO r.F no))∧qdq (r.F.foldl JZ g):=by
 have h8:=qbA hr
 obtain ⟨c',M',e,h,hs⟩:=qHH (N:=N) (l:=r.F) (by omega) (fun k hk=>qws (Vs.1 ((Xv.1 hr).2.2 k hk)).2.2.1) (c:=c) hM hg
 refine ⟨c',M',?_,fun no=>?_,hs⟩
 ·unfold Jy Yn
  exact qz e (qC rfl)
 ·rw [h,qrb (qwH hr)]
theorem qDO {o : List qd} {c : Nat} {M : List (Int × qc × Nat)} {o5 : Vector UInt8 16} {o6 : qe} {o7 : Vector UInt8 16} {o8 dead : qe} :
    ZR N o [] c M o5 o6 o7 o8 dead=some (QW (fun no=>Ym no M) dead 8 0):=by
 have key:JH N o c M o5 o6 o7 o8 dead [] 0=some (J9 (fun k s=>s++qeU dead k (Ym (k:Int) M)) 8 0 [],(8:Int),false):=by
  refine Zy (σ:=List qd) (B:=Qg N o c M o5 o6 o7 o8 dead) (g:=some) (at_:=fun k s=>(s,(k:Int))) (I:=fun k s=>s.length≤k) (f:=fun k s=>s++qeU dead k (Ym (k:Int) M)) (n:=8)
   (fin:=fun s=>(s,(8:Int),false)) (fun k s hk hs=>⟨?_,?_⟩) (fun s _=>?_) N 0 [] (Nat.le_refl _) (Nat.zero_le _) (by have:=big N; omega)
  ·have d8:decide ((k:Int) < 8)=true:=decide_eq_true (by omega)
   unfold Qg
   refine w_t d8 ?_
   unfold Ym
   cases e:fnd (β:=qc) (.i .i64) (k:Int) M with
   | none=>exact quZ rfl (qZ (QY (by omega)) (qC (by rw [zG]; show _=some (Sum.inl (s++[],_)); rw [List.append_nil])))
   | some x=>
    refine qpP rfl (qz (qcE _ _) ?_)
    have hk2:qeU dead k (Option.map (fun x=>x.1) (some x))=if slB dead x.1.S=true then [qd.mk (k:Int) x.1] else []:=rfl
    rw [hk2]
    cases hb:slB dead (qc.S x.1) with
    | false=>
     rw [if_neg (by simp),List.append_nil]
     exact w_f rfl (qZ (QY (by omega)) (qC (by rw [zG])))
    | true=>
     rw [if_pos rfl]
     have er:Xn o s c M o5 o6 o7 o8 dead (qd.mk (k:Int) x.1)=some ():=by
      unfold Xn Yl
      exact qZ ⟨rfl,by rw [List.length_append]; unfold zh; simp; omega⟩ (qC rfl)
     exact w_t rfl (qz ((jH rfl).trans ((jH rfl).trans er)) (qZ (QY (by omega)) (qC (by rw [zG]))))
  ·have:=qr3 (dead:=dead) (k:=k) (c:=Ym (k:Int) M)
   rw [List.length_append]; omega
  ·unfold Qg
   exact w_f rfl (qC rfl)
 unfold ZR JN
 refine qz ((jH rfl).trans ((jH rfl).trans key)) (qC ?_)
 rw [qj0 (g:=fun no=>Ym no M),List.nil_append]
theorem qIU {a b:qa} (ha:jM a=true) (hb:jM b=true) (hid:a.ID=b.ID):qiH N a b=some (rJ a b,true):=by
 have hN:=big N
 have h8a:=qbA ha
 have h8b:=qbA hb
 obtain ⟨c1,M1,e1,h1,s1⟩:=qzb (N:=N) ha (c:=0) (M:=[]) (g:=fun _=>none) (fun no=>rfl) (fun no c h=>by cases h)
 obtain ⟨c2,M2,e2,h2,_⟩:=qzb (N:=N) hb (c:=c1) (M:=M1) (g:=fun no=>cO a.F no) (fun no=>by rw [h1]; rfl) (by
  have:(a.F.foldl JZ fun _=>none)=fun no=>cO a.F no:=by funext no; rw [qrb (qwH ha)]; rfl
  rw [← this]; exact s1)
 have ef:=qDO (N:=N) (o:=[]) (c:=c2) (M:=M2) (o5:=Vector.replicate 16 0) (o6:=qe.mk 0 0) (o7:=a.ID) (o8:=mxS a.zi b.zi) (dead:=mxS a.zi b.zi)
 have eg:(fun no=>Ym no M2)=fun no=>jC (cO a.F no) (cO b.F no):=funext h2
 rw [eg] at ef
 unfold qiH qi0
 exact qz (qmt (by omega) (by omega)) (w_f (by rw [ha]; rfl) (qz (qmt (by omega) (by omega)) (w_f (by rw [hb]; rfl) (w_f (by rw [qwX]; show (!decide (a.ID=b.ID))=false; rw [decide_eq_true hid]; rfl)
  (qz e1 (qz e2 (qz (qIo _ _) (qz rfl (qz ((jH rfl).trans ((jH rfl).trans ef)) (qZ rfl (qC rfl)))))))))))
end
end Go.Rx
end
set_option maxRecDepth 100000
noncomputable section
namespace Go.Rx
open Go.Proofs
section n
variable {N:Nat} [Q3 N]
theorem qDP {l:List qa} {id:Vector UInt8 16} (h:l.length≤600):Je N id l=some (qIA (qkn l id)):=by
 have key:=qfd (B:=vn N id l ((l.length:Nat):Int)) (g:=some) (p:=fun k=>decide ((l.getD k zR).ID=id)) (n:=l.length) (hit:=fun k=>.inl (k:Int)) (fin:=.inr (((l.length:Nat):Int),false)) (fun k hk=>by
  unfold vn qfv qcV
  rw [qO,dec_lt hk,cond_true,run_bind,vL (d:=zR) hk,Option.bind_some,run_bind,qY,Option.bind_some,qO,qwX,qY,zE,qn (show qy ((k:Int) + 1) by unfold qy; omega),qY,zG]
  cases decide ((l.getD k zR).ID=id)<;>rfl) (by
  unfold vn
  rw [qO,jy (Nat.lt_irrefl _),cond_false,qY]) N 0 (Nat.zero_le _) (by have:=big N; omega)
 have e:JP N id l ((l.length:Nat):Int) 0=q8 (vn N id l ((l.length:Nat):Int)) some N ((0:Nat):Int):=rfl
 unfold Je Vt
 rw [run_bind,e,key,Nat.sub_zero]
 unfold qkn
 cases Zg (fun k=>decide ((l.getD k zR).ID=id)) l.length 0<;>rfl
theorem qC2 {l:List qd} {no:Int} (h:l.length≤600):Zu N no l=some (qIA (qh1 l no)):=by
 have key:=qfd (B:=jQ N no l ((l.length:Nat):Int)) (g:=some) (p:=fun k=>decide ((l.getD k zF).No=no)) (n:=l.length) (hit:=fun k=>.inl (k:Int)) (fin:=.inr (((l.length:Nat):Int),false)) (fun k hk=>by
  unfold jQ qhN qdU
  rw [qO,dec_lt hk,cond_true,run_bind,vL (d:=zF) hk,Option.bind_some,run_bind,qY,Option.bind_some,qO,qY,zE,qn (show qy ((k:Int) + 1) by unfold qy; omega),qY,zG]
  cases decide ((l.getD k zF).No=no)<;>rfl) (by
  unfold jQ
  rw [qO,jy (Nat.lt_irrefl _),cond_false,qY]) N 0 (Nat.zero_le _) (by have:=big N; omega)
 have e:Ji N no l ((l.length:Nat):Int) 0=q8 (jQ N no l ((l.length:Nat):Int)) some N ((0:Nat):Int):=rfl
 unfold Zu JA
 rw [run_bind,e,key,Nat.sub_zero]
 unfold qh1
 cases Zg (fun k=>decide ((l.getD k zF).No=no)) l.length 0<;>rfl
theorem qsg {l:List qd} (h:l.length≤1000000):vW l=some ():=by
 unfold vW
 cases l with
 | nil=>kernel_rfl
 | cons x r=>
  show WV (x::r)=_
  unfold WV Xx
  have h2:Vh ([]:List qd).length 0 ([]++x::r).length 40:=⟨rfl,by rw [List.nil_append]; unfold zh; omega⟩
  rw [zE,qn (List.isEmpty_cons),zE,qn h2,zE,qn rfl,qY]
theorem qnN {b:qf} (h:zQ b=true) (id:Vector UInt8 16):WC N b id=some (recAt b id):=by
 have hb:=qcj.1 h
 unfold WC qfw recAt
 rw [run_bind,qDP (by omega),Option.bind_some]
 cases e:qkn b.R id with
 | none=>rfl
 | some i=>
  have hi:=(qkh e).1
  have hn:decide (((i:Nat):Int) < 0)=false:=decide_eq_false (by omega)
  have hF:=qbA (hb.1 i hi).1
  have ho:KW (b.R.getD i zR)=some ():=by
   unfold KW qdm
   rw [run_bind,qsg (by omega),Option.bind_some,qY]
  show (Tree.cond (decide (((i:Nat):Int) < 0)) _ (Tree.bind (zr (qf.R b) ((i:Nat):Int)) _)).run some=_
  rw [qO,hn,cond_false,run_bind,vL (d:=zR) hi,Option.bind_some,run_bind,ho,Option.bind_some,qY]
  rfl
theorem qoK {r:qa} (h:r.F.length≤8) (no:Int):KZ N r no=some (cellAt r no):=by
 unfold KZ qiQ cellAt
 rw [run_bind,qC2 (by omega),Option.bind_some]
 cases e:qh1 r.F no with
 | none=>rfl
 | some i=>
  have hi:=(qkh e).1
  have hn:decide (((i:Nat):Int) < 0)=false:=decide_eq_false (by omega)
  show (Tree.cond (decide (((i:Nat):Int) < 0)) _ (Tree.bind (zr (qa.F r) ((i:Nat):Int)) _)).run some=_
  rw [qO,hn,cond_false,run_bind,vL (d:=zF) hi,Option.bind_some,qY]
end n
end Go.Rx
end
set_option maxRecDepth 100000
noncomputable section
namespace Go.Rx
open Go.Proofs
def qmi (g:Vector UInt8 16→Option qa) (r:qa) (id:Vector UInt8 16):Option qa:=if r.ID=id then jR (g id) (some r) else g id
theorem qov {g:Vector UInt8 16→Option qa} {r:qa} {id:Vector UInt8 16}:qmi g r id=if r.ID=id then jR (g id) (some r) else g id:=rfl
theorem qme {x:Option qa}:jR x none=x:=by cases x<;>rfl
theorem qrG:∀ {l:List qa} {g:Vector UInt8 16→Option qa} {id:Vector UInt8 16},qhg l→l.foldl qmi g id=jR (g id) (rO l id)
 | [],g,id,_=>by rw [qH4,qme]; rfl
 | r::l,g,id,h=>by
  have hp:=List.pairwise_cons.1 h
  rw [List.foldl_cons,qrG hp.2,qhj,qov]
  by_cases e:r.ID=id
  ·rw [if_pos e,if_pos e]
   have:rO l id=none:=by
    cases hc:rO l id with
    | none=>rfl
    | some x=>
     have:=hp.1 x (qao hc).1
     rw [e,(qao hc).2,quj] at this; cases this
   rw [this,qme]
  ·rw [if_neg e,if_neg e]
def Jg (id:Vector UInt8 16) (M:List (Vector UInt8 16×qa×Nat)):Option qa:=(fnd (β:=qa) (.ba 16) id M).map (·.1)
theorem qvc {q k:Vector UInt8 16} {p:qa} {c:Nat} {M:List (Vector UInt8 16×qa×Nat)}:Jg q (QE (β:=qa) (.ba 16) k p c M).2=if q=k then some p else Jg q M:=by
 have:=@qoJ (El (.ba 16)) qa (Jb (.ba 16)) k q p c M
 rw [show Jg q (QE (β:=qa) (.ba 16) k p c M).2=@qoS (El (.ba 16)) qa (Jb (.ba 16)) q (@qdO (El (.ba 16)) qa (Jb (.ba 16)) k p c M).2 from rfl,this]
 by_cases h:q=k
 ·rw [if_pos h]; exact if_pos h
 ·rw [if_neg h]; exact if_neg h
structure qFx (l:List qa) (nm:List (Vector UInt8 16)) (M:List (Vector UInt8 16×qa×Nat)):Prop where
 nd:nm.Nodup
 val:∀ id,Jg id M=l.foldl qmi (fun _=>none) id
 mem:∀ id,id∈nm↔Jg id M≠none
 ok:∀ id r,Jg id M=some r→jM r=true∧r.ID=id
 len:nm.length≤l.length
def Y7 (M:List (Vector UInt8 16×qa×Nat)) (l:List (Vector UInt8 16)):List qa:=l.map fun id=>(Jg id M).getD zR
theorem qBV {M:List (Vector UInt8 16×qa×Nat)} {id:Vector UInt8 16}:∀ {l:List (Vector UInt8 16)},(∀ i∈l,∃ r,Jg i M=some r∧r.ID=i)→rO (Y7 M l) id=if id∈l then Jg id M else none
 | [],_=>by rw [if_neg List.not_mem_nil]; rfl
 | i::l,h=>by
  obtain ⟨r,e,hr⟩:=h i (List.mem_cons_self ..)
  show rO ((Jg i M).getD zR::Y7 M l) id=_
  rw [e,qhj,qBV fun j hj=>h j (List.mem_cons_of_mem _ hj)]
  by_cases c:i=id
  ·subst c
   rw [if_pos (show (Option.getD (some r) zR).ID=i from hr),if_pos (List.mem_cons_self ..),e]; rfl
  ·rw [if_neg (show ¬ (Option.getD (some r) zR).ID=id from fun h'=>c (hr.symm.trans h'))]
   by_cases m:id∈l
   ·rw [if_pos m,if_pos (List.mem_cons_of_mem _ m)]
   ·rw [if_neg m,if_neg (fun hm=>by rcases List.mem_cons.1 hm with e' | e'; exact c e'.symm; exact m e')]
section
variable {N:Nat} [Q3 N]
theorem qst {α:Type} {l:List (List α)} {k:Nat} (h:k < l.length):(l.take (k + 1)).flatten=(l.take k).flatten++l.getD k []:=by
 rw [qhC (d:=[]) h,List.flatten_append]; simp
theorem qyX {α:Type} {l:List (List α)} {k:Nat}:(l.take k).flatten.length≤l.flatten.length:=by
 have:(l.take k).flatten++(l.drop k).flatten=l.flatten:=by rw [← List.flatten_append,List.take_append_drop]
 rw [← this,List.length_append]; omega
theorem qA2 {l:List (List qa)} (hl:l.length≤1000) (hf:l.flatten.length≤1000):VA N l=some l.flatten:=by
 have hN:=big N
 have k1:XE N l l ((l.length:Nat):Int) 0 0=some (((l.flatten.length:Nat):Int),((l.length:Nat):Int),false):=by
  refine Zy (σ:=Unit) (B:=Zt N l l ((l.length:Nat):Int)) (g:=some) (at_:=fun k _=>((((l.take k).flatten.length:Nat):Int),(k:Int))) (I:=fun _ _=>True) (f:=fun _ s=>s) (n:=l.length)
   (fin:=fun _=>(((l.flatten.length:Nat):Int),((l.length:Nat):Int),false)) (fun k s hk _=>⟨?_,trivial⟩) (fun s _=>?_) N 0 () trivial (Nat.zero_le _) (by omega)
  ·have e1:(((l.take k).flatten.length:Nat):Int) + (((l.getD k []).length:Nat):Int)=(((l.take (k + 1)).flatten.length:Nat):Int):=by rw [qst hk,List.length_append]; omega
   have h2:=qyX (l:=l) (k:=k + 1)
   unfold Zt
   refine w_t (dec_lt hk) (qz (vL (d:=[]) hk) ?_)
   dsimp only
   rw [e1]
   exact qZ (by unfold qy; omega) (w_f (decide_eq_false (by omega)) (qZ (QY (by omega)) (qC (by rw [zG]))))
  ·unfold Zt
   exact w_f (jy (Nat.lt_irrefl _)) (qC (by rw [jy (Nat.lt_irrefl _),List.take_of_length_le (Nat.le_refl _)]))
 have k2:ZW N l ((l.length:Nat):Int) [] 0=some (l.flatten,((l.length:Nat):Int),false):=by
  refine Zy (σ:=Unit) (B:=Q9 N l ((l.length:Nat):Int)) (g:=some) (at_:=fun k _=>((l.take k).flatten,(k:Int))) (I:=fun _ _=>True) (f:=fun _ s=>s) (n:=l.length)
   (fin:=fun _=>(l.flatten,((l.length:Nat):Int),false)) (fun k s hk _=>⟨?_,trivial⟩) (fun s _=>?_) N 0 () trivial (Nat.zero_le _) (by omega)
  ·have h2:=qyX (l:=l) (k:=k + 1)
   unfold Q9
   refine w_t (dec_lt hk) (qz (vL (d:=[]) hk) ?_)
   dsimp only
   rw [← qst hk]
   exact qZ ⟨rfl,by unfold zh; omega⟩ (qZ (QY (by omega)) (qC (by rw [zG])))
  ·unfold Q9
   exact w_f (jy (Nat.lt_irrefl _)) (qC (by rw [jy (Nat.lt_irrefl _),List.take_of_length_le (Nat.le_refl _)]))
 unfold VA Wn
 refine qz k1 ?_
 by_cases h0:l.flatten.length=0
 ·have kg : ZM ((l.flatten.length : Nat) : Int) = some (.inr ()) := by
     unfold ZM VB
     exact w_f (decide_eq_false (by omega)) (qZ (by unfold qy; omega) (w_f (decide_eq_false (by omega)) (qC rfl)))
  exact qz kg (w_r rfl (qz ((jH rfl).trans k2) (qZ rfl (qC rfl))))
 ·have kg : ZM ((l.flatten.length : Nat) : Int) = some (.inl ()) := by
     unfold ZM VB
     exact w_f (decide_eq_false (by omega)) (qZ (by unfold qy; omega) (w_t (decide_eq_true (by omega)) (qZ ⟨by omega,by unfold zh; omega⟩ (qC rfl))))
  exact qz kg (w_l rfl (qz ((jH rfl).trans k2) (qZ rfl (qC rfl))))
theorem qHN {r:qa} (h:jM r=true):KW r=some ():=by
 unfold KW qdm
 exact qz (qsg (by have:=qbA h; omega)) (qC rfl)
theorem qEs {L : List qa} (hl : L.length ≤ 1000) (hr : ∀ r ∈ L, jM r = true) :
    ∃ nm c M,qdX N [] L ((L.length:Nat):Int) [] 0 [] 0=some (nm,c,M,((L.length:Nat):Int),false)∧qFx L nm M:=by
 have hN:=big N
 have key:∃ y,q8 (VQ N [] L ((L.length:Nat):Int)) some N ([],0,[],((0:Nat):Int))=some y∧∃ nm c M,y=(nm,c,M,((L.length:Nat):Int),false)∧qFx L nm M:=by
  refine qiD (I:=fun v=>∃ (k:Nat) (nm:List (Vector UInt8 16)) (c:Nat) (M:List (Vector UInt8 16×qa×Nat)),k≤L.length∧v=(nm,c,M,(k:Int))∧qFx (L.take k) nm M) (fun v=>L.length - v.2.2.2.toNat) ?_ N _ ⟨0,[],0,[],Nat.zero_le _,rfl,⟨List.nodup_nil,fun _=>rfl,fun id=>⟨fun h=>absurd h List.not_mem_nil,fun h=>(h rfl).elim⟩,fun _ _ h=>(by cases h),Nat.le_refl _⟩⟩ (by simp; omega)
  rintro v ⟨k,nm,c,M,hk,rfl,hi⟩
  by_cases h:k < L.length
  ·left
   have hmem:L.getD k zR∈L:=by rw [List.getD_eq_getElem?_getD,List.getElem?_eq_getElem h]; exact List.getElem_mem h
   have hrec:=hr _ hmem
   have et:∀ id,(L.take (k + 1)).foldl qmi (fun _=>none) id=qmi ((L.take k).foldl qmi fun _=>none) (L.getD k zR) id:=fun id=>by
    rw [qhC (d:=zR) h,List.foldl_append]; rfl
   have hlk:(L.take k).length=k:=by rw [List.length_take]; omega
   have hlk1:(L.take (k + 1)).length=k + 1:=by rw [List.length_take]; omega
   have hv:=hi.val (L.getD k zR).ID
   have hnl:=hi.len
   cases e:fnd (β:=qa) (.ba 16) (L.getD k zR).ID M with
   | none=>
    have hn:Jg (L.getD k zR).ID M=none:=by unfold Jg; rw [e]; rfl
    rw [hn] at hv
    refine ⟨(nm++[(L.getD k zR).ID],(QE (.ba 16) (qa.ID (L.getD k zR)) (L.getD k zR) c M).1,(QE (.ba 16) (qa.ID (L.getD k zR)) (L.getD k zR) c M).2,((k + 1:Nat):Int)),?_,⟨k + 1,_,_,_,h,rfl,?_⟩,by simp only [Int.toNat_natCast]; omega⟩
    ·unfold VQ
     exact w_t (dec_lt h) (qz (vL (d:=zR) h) (quZ e (qZ ⟨rfl,by rw [List.length_append]; unfold zh; simp; omega⟩ (qz (qHN hrec) (qZ (QY (by omega)) (qC (by rw [zG]; rfl)))))))
    ·have hpv:∀ id,Jg id (QE (.ba 16) (qa.ID (L.getD k zR)) (L.getD k zR) c M).2=if id=(L.getD k zR).ID then some (L.getD k zR) else Jg id M:=fun id=>qvc
     refine ⟨?_,fun id=>?_,fun id=>?_,fun id r hr'=>?_,?_⟩
     ·refine List.nodup_append.2 ⟨hi.nd,List.nodup_cons.2 ⟨List.not_mem_nil,List.nodup_nil⟩,fun a ha b hb=>?_⟩
      obtain rfl:=List.mem_singleton.1 hb
      intro hab
      rw [hab] at ha
      exact (hi.mem _).1 ha hn
     ·rw [hpv,et,qov]
      by_cases q:id=(L.getD k zR).ID
      ·rw [if_pos q,if_pos q.symm,q,← hv]; rfl
      ·rw [if_neg q,if_neg (fun x=>q x.symm),hi.val]
     ·rw [hpv,List.mem_append,List.mem_singleton,hi.mem]
      by_cases q:id=(L.getD k zR).ID
      ·rw [if_pos q]; exact ⟨fun _=>by simp,fun _=>.inr q⟩
      ·rw [if_neg q]; exact ⟨fun x=>x.resolve_right q,fun x=>.inl x⟩
     ·rw [hpv] at hr'
      by_cases q:id=(L.getD k zR).ID
      ·rw [if_pos q] at hr'
       obtain rfl:=Option.some.inj hr'
       exact ⟨hrec,q.symm⟩
      ·rw [if_neg q] at hr'; exact hi.ok id r hr'
     ·rw [hlk1,List.length_append]; simp; omega
   | some x=>
    have hn:Jg (L.getD k zR).ID M=some x.1:=by unfold Jg; rw [e]; rfl
    rw [hn] at hv
    have hx:=hi.ok _ _ hn
    have ej:=qIU (N:=N) hx.1 hrec hx.2
    refine ⟨(nm,(QE (.ba 16) (qa.ID (L.getD k zR)) (rJ x.1 (L.getD k zR)) c M).1,(QE (.ba 16) (qa.ID (L.getD k zR)) (rJ x.1 (L.getD k zR)) c M).2,((k + 1:Nat):Int)),?_,⟨k + 1,_,_,_,h,rfl,?_⟩,by simp only [Int.toNat_natCast]; omega⟩
    ·unfold VQ
     exact w_t (dec_lt h) (qz (vL (d:=zR) h) (qpP e (qz ej (qZ (QY (by omega)) (qC (by rw [zG]))))))
    ·have hpv:∀ id,Jg id (QE (.ba 16) (qa.ID (L.getD k zR)) (rJ x.1 (L.getD k zR)) c M).2=if id=(L.getD k zR).ID then some (rJ x.1 (L.getD k zR)) else Jg id M:=fun id=>qvc
     refine ⟨hi.nd,fun id=>?_,fun id=>?_,fun id r hr'=>?_,?_⟩
     ·rw [hpv,et,qov]
      by_cases q:id=(L.getD k zR).ID
      ·rw [if_pos q,if_pos q.symm,q,← hv]; rfl
      ·rw [if_neg q,if_neg (fun x=>q x.symm),hi.val]
     ·rw [hpv,hi.mem]
      by_cases q:id=(L.getD k zR).ID
      ·rw [if_pos q,q,hn]; simp
      ·rw [if_neg q]
     ·rw [hpv] at hr'
      by_cases q:id=(L.getD k zR).ID
      ·rw [if_pos q] at hr'
       obtain rfl:=Option.some.inj hr'
       exact ⟨quV hx.1 hrec,by rw [qI8,hx.2,q]⟩
      ·rw [if_neg q] at hr'; exact hi.ok id r hr'
     ·rw [hlk1]; omega
  ·right
   obtain rfl:k=L.length:=by omega
   rw [List.take_of_length_le (Nat.le_refl _)] at hi
   refine ⟨(nm,c,M,((L.length:Nat):Int),false),_,?_,rfl,nm,c,M,rfl,hi⟩
   unfold VQ
   exact w_f (jy (Nat.lt_irrefl _)) (qC (by rw [jy (Nat.lt_irrefl _)]))
 obtain ⟨y,e,nm,c,M,rfl,h⟩:=key
 exact ⟨nm,c,M,e,h⟩
theorem qHo {nm : List (Vector UInt8 16)} {c n : Nat} {M : List (Vector UInt8 16 × qa × Nat)} (hn : nm.length = n) (hl : n ≤ 1000) (h : ∀ i ∈ nm, ∃ r, Jg i M = some r ∧ r.ID = i) :
    qcK N [] nm c M n ((n:Nat):Int) [] 0=some (Y7 M nm,((n:Nat):Int),false):=by
 subst hn
 have hN:=big N
 refine Zy (σ:=Unit) (B:=Wz N [] nm c M nm.length ((nm.length:Nat):Int)) (g:=some) (at_:=fun k _=>(Y7 M (nm.take k),(k:Int))) (I:=fun _ _=>True) (f:=fun _ s=>s) (n:=nm.length)
  (fin:=fun _=>(Y7 M nm,((nm.length:Nat):Int),false)) (fun k s hk _=>⟨?_,trivial⟩) (fun s _=>?_) N 0 () trivial (Nat.zero_le _) (by omega)
 ·have hmem:nm.getD k (Vector.replicate 16 0)∈nm:=by rw [List.getD_eq_getElem?_getD,List.getElem?_eq_getElem hk]; exact List.getElem_mem hk
  obtain ⟨r,hr,_⟩:=h _ hmem
  have hf:∃ x,fnd (β:=qa) (.ba 16) (nm.getD k (Vector.replicate 16 0)) M=some x∧x.1=r:=by
   unfold Jg at hr
   cases e:fnd (β:=qa) (.ba 16) (nm.getD k (Vector.replicate 16 0)) M with
   | none=>rw [e] at hr; cases hr
   | some x=>rw [e] at hr; exact ⟨x,rfl,Option.some.inj hr⟩
  obtain ⟨x,ex,hx⟩:=hf
  have eo:Y7 M (nm.take (k + 1))=Y7 M (nm.take k)++[x.1]:=by
   unfold Y7
   rw [qhC (d:=Vector.replicate 16 0) hk,List.map_append,List.map_cons,hr,hx]; rfl
  have cav:Vh (Y7 M (nm.take k)).length (Y7 M (nm.take k)).length (Y7 M (nm.take k)++[x.1]).length 56:=⟨rfl,by
   rw [List.length_append]; unfold Y7; rw [List.length_map,List.length_take]; unfold zh; simp; omega⟩
  unfold Wz
  exact w_t (dec_lt hk) (qZ ⟨by show (0:Int)≤(k:Int); omega,by show (k:Int) < _; omega⟩ (qz (qIy rfl hk) (qpP ex (qZ cav (qZ (QY (by omega)) (qC (by rw [zG,eo])))))))
 ·unfold Wz
  exact w_f (jy (Nat.lt_irrefl _)) (qC (by rw [jy (Nat.lt_irrefl _),List.take_of_length_le (Nat.le_refl _)]))
theorem ql3 {b:qf} (h:zQ b=true):Qs N b:=by
 have hN:=big N
 have hb:=qcj.1 h
 exact ⟨by omega,by omega,fun k hk=>by have:=qbA (hb.1 k hk).1; exact ⟨by omega,by omega⟩⟩
def qt1 (c:List qa):qf×Int:=if c.length≤10 then (qf.mk c,0) else (qf.mk [],4)
theorem qwl {a b:qf} (ha:zQ a=true) (hb:zQ b=true):∃ c,qpe a.R b.R c∧Xf N a b=some (qt1 c):=by
 have hA:=YG.1 ha
 have hB:=YG.1 hb
 have hfl:[a.R,b.R].flatten=a.R++b.R:=by simp
 have hll:(a.R++b.R).length≤20:=by rw [List.length_append]; omega
 have ec:=qA2 (N:=N) (l:=[a.R,b.R]) (by simp) (by rw [hfl]; omega)
 rw [hfl] at ec
 obtain ⟨nm,c,M,el,hi⟩:=qEs (N:=N) (L:=a.R++b.R) (by omega) (fun r hr=>by
  rcases List.mem_append.1 hr with h | h
  ·exact hA.1.2 r h
  ·exact hB.1.2 r h)
 have hval:∀ id,Jg id M=jR (rO a.R id) (rO b.R id):=fun id=>by
  rw [hi.val,List.foldl_append,qrG hB.1.1,qrG hA.1.1]; rfl
 obtain ⟨hs,hp⟩:=qFt hi.nd
 have hin:∀ i∈vH nm,∃ r,Jg i M=some r∧r.ID=i:=fun i h=>by
  have:=(hi.mem i).1 (hp.mem_iff.1 h)
  cases e:Jg i M with
  | none=>exact (this e).elim
  | some r=>exact ⟨r,rfl,(hi.ok i r e).2⟩
 have hlen:(Y7 M (vH nm)).length=nm.length:=by unfold Y7; rw [List.length_map,hp.length_eq]
 refine ⟨Y7 M (vH nm),⟨?_,fun id=>?_⟩,?_⟩
 ·unfold qhg Y7
  rw [List.pairwise_map]
  refine (List.Pairwise.and_mem.1 hs).imp fun {i j} h=>?_
  obtain ⟨r,e1,h1⟩:=hin i h.1
  obtain ⟨s,e2,h2⟩:=hin j h.2.1
  rw [e1,e2]
  show lbB r.ID s.ID=true
  rw [h1,h2]; exact h.2.2
 ·rw [qBV hin,← hval]
  by_cases m:id∈vH nm
  ·rw [if_pos m]
  ·rw [if_neg m]
   cases e:Jg id M with
   | none=>rfl
   | some r=>exact (m (hp.mem_iff.2 ((hi.mem id).2 (by rw [e]; simp)))).elim
 ·have hnl:=hi.len
  unfold Xf qbT
  refine qz (qiN (ql3 ha)) (w_f (by rw [ha]; rfl) (qz (qiN (ql3 hb)) (w_f (by rw [hb]; rfl) (qz ec (qz ((jH rfl).trans ((jH rfl).trans el)) ?_)))))
  unfold qt1
  rw [hlen]
  by_cases h10:nm.length≤10
  ·rw [if_pos h10]
   exact w_f (decide_eq_false (by show ¬ (10:Int) < ((nm.length:Nat):Int); omega)) (qz ((jH rfl).trans (qHB (by show nm.length≤12; omega))) (qz ((jH rfl).trans ((jH rfl).trans (qHo hp.length_eq (by show nm.length≤1000; omega) hin))) (qZ rfl (qC rfl))))
  ·rw [if_neg h10]
   exact w_t (decide_eq_true (by show (10:Int) < ((nm.length:Nat):Int); omega)) (qZ rfl (qC rfl))
theorem qvB {a b:qf} (fa:Qs N a) (fb:Qs N b) (h:¬ (zQ a=true∧zQ b=true)):Xf N a b=some (qf.mk [],1):=by
 unfold Xf qbT
 refine qz (qiN fa) ?_
 cases ha:zQ a with
 | false=>exact w_t rfl (qZ rfl (qC rfl))
 | true=>
  refine w_f rfl (qz (qiN fb) ?_)
  cases hb:zQ b with
  | false=>exact w_t rfl (qZ rfl (qC rfl))
  | true=>exact (h ⟨ha,hb⟩).elim
end
end Go.Rx
end
set_option maxRecDepth 100000
noncomputable section
namespace Go.Rx
open Go.Proofs
def JL (p:qa):Bool:=decide (p.zi=zSt)&&decide (p.F.length=0)
end Go.Rx
end
set_option maxRecDepth 100000
noncomputable section
namespace Go.Rx
open Go.Proofs
def jB (N:Nat) (a b:qf):qf×Int:=(Xf N a b).getD (qf.mk [],0)
def Vy (p:qa):qa:=qa.mk p.ID p.zi []
def vB (p:qa):qa:=qa.mk p.ID zSt p.F
def QF (N:Nat) (b:qf) (e:qa):qf×Int:=if JL e=true then (b,0) else jB N b (qf.mk [e])
theorem qCK {N:Nat} {b:qf} {e:qa} (h:JL e=true):QF N b e=(b,0):=if_pos h
theorem qCY {N:Nat} {b:qf} {e:qa} (h:JL e=false):QF N b e=jB N b (qf.mk [e]):=if_neg (by rw [h]; simp)
def qwL (N:Nat) (b:qf) (e1 e2:qa):qf×Int:=
 if (QF N b e1).2=0 then (if (QF N (QF N b e1).1 e2).2=0 then ((QF N (QF N b e1).1 e2).1,0) else (qf.mk [],(QF N (QF N b e1).1 e2).2)) else (qf.mk [],(QF N b e1).2)
def qwT (b:qf) (p:qa):Bool:=zQ b&&(!JL p&&(stB p.zi&&(decide (p.F.length=0)||jM (vB p))))
def Y9 (N:Nat) (b:qf) (p:qa):qf×Int:=if qwT b p=true then qwL N b (Vy p) (vB p) else (qf.mk [],1)
section
variable {N:Nat} [Q3 N]
theorem qIT {a b:qf} (fa:Qs N a) (fb:Qs N b):Xf N a b=some (jB N a b):=by
 unfold jB
 by_cases h:zQ a=true∧zQ b=true
 ·obtain ⟨c,_,e⟩:=qwl (N:=N) h.1 h.2
  rw [e]; rfl
 ·rw [qvB fa fb h]; rfl
theorem qIg {a b:qf} (ha:zQ a=true) (hb:zQ b=true):∃ c,qpe a.R b.R c∧jB N a b=qt1 c:=by
 obtain ⟨c,hc,e⟩:=qwl (N:=N) ha hb
 exact ⟨c,hc,by unfold jB; rw [e]; rfl⟩
theorem qI6 {a b:qf} (fa:Qs N a) (fb:Qs N b) (h:¬ (zQ a=true∧zQ b=true)):jB N a b=(qf.mk [],1):=by
 unfold jB
 rw [qvB fa fb h]; rfl
theorem qyT {a b:qf} (fa:Qs N a) (fb:Qs N b) (h:(jB N a b).2=0):zQ a=true∧zQ b=true∧qpe a.R b.R (jB N a b).1.R∧zQ (jB N a b).1=true:=by
 by_cases hab:zQ a=true∧zQ b=true
 ·obtain ⟨c,hc,e⟩:=qIg (N:=N) hab.1 hab.2
  rw [e] at h ⊢
  unfold qt1 at h ⊢
  by_cases h10:c.length≤10
  ·rw [if_pos h10] at h ⊢
   exact ⟨hab.1,hab.2,hc,YG.2 ⟨qCX (YG.1 hab.1).1 (YG.1 hab.2).1 hc,h10⟩⟩
  ·rw [if_neg h10] at h; cases h
 ·rw [qI6 fa fb hab] at h; cases h
theorem qoM {e:qa} (h1:e.F.length < N) (h2:e.F.length≤4611686018427387904):Qs N (qf.mk [e]):=by
 have:=big N
 refine ⟨by show 1 < N; omega,by show 1≤4611686018427387904; omega,fun k hk=>?_⟩
 have hk:k < 1:=hk
 obtain rfl:k=0:=by omega
 exact ⟨h1,h2⟩
theorem qDY {b:qf} {e:qa} (fb:Qs N b) (h1:e.F.length < N) (h2:e.F.length≤4611686018427387904) (h:(QF N b e).2=0):Qs N (QF N b e).1:=by
 unfold QF at *
 split
 ·exact fb
 ·rename_i hn
  rw [if_neg hn] at h
  exact ql3 (qyT fb (qoM h1 h2) h).2.2.2
theorem qsH {b : qf} {e : qa} {s47 : List qa} {k : Nat} (hk : k < s47.length) (hs : s47.length ≤ 10) (he : s47.getD k zR = e) (fb : Qs N b) (h1 : e.F.length < N) (h2 : e.F.length ≤ 4611686018427387904) :
    (V3 N [] s47 ((s47.length:Nat):Int) (b,(k:Int))).run some=some (if (QF N b e).2=0 then .inl ((QF N b e).1,((k + 1:Nat):Int)) else .inr (.inr (QF N b e).2)):=by
 unfold V3
 refine w_t (dec_lt hk) <| qz ((vL (d:=zR) hk).trans (by rw [he])) <| qz (by
  have e0:eqE ql (qa.zi e) (qe.mk 0 0)=decide (e.zi=zSt):=qet _ _
  have e2:decide (((e.F.length:Nat):Int)=0)=decide (e.F.length=0):=decide_eq_decide.2 (by omega)
  show XQ e=some (JL e)
  unfold XQ qa3 JL
  refine jW e0 (fun h=>qC ?_) fun h=>qC ?_
  ·rw [h]; exact congrArg some e2
  ·rw [h]; rfl) ?_
 cases hn:JL e with
 | true=>
  rw [qCK hn]
  exact w_t rfl <| qZ (QY (by omega)) <| qC (by rw [zG]; rfl)
 | false=>
  rw [qCY hn]
  refine w_f rfl <| qz (qIT fb (qoM h1 h2)) ?_
  by_cases hz:(jB N b (qf.mk [e])).2=0
  ·rw [if_pos hz]
   exact w_f (by rw [decide_eq_true hz]; rfl) <| qZ (QY (by omega)) <| qC (by rw [zG])
  ·rw [if_neg hz]
   exact w_t (by rw [decide_eq_false hz]; rfl) <| qC rfl
theorem qEk {b : qf} {e1 e2 : qa} (fb : Qs N b) (h1 : e1.F.length < N ∧ e1.F.length ≤ 4611686018427387904) (h2 : e2.F.length < N ∧ e2.F.length ≤ 4611686018427387904) :
    ∃ z,VM N [] [e1,e2] ((([e1,e2]:List qa).length:Nat):Int) b 0=some z∧(match z with | .inl w=>(w.1,(0:Int)) | .inr e=>(qf.mk [],e))=qwL N b e1 e2:=by
 obtain ⟨M,hM⟩:∃ M,N=M + 3:=⟨N - 3,by have:=big N; omega⟩
 have s0:VM N [] [e1,e2] ((([e1,e2]:List qa).length:Nat):Int) b 0=q8 (V3 N [] [e1,e2] ((([e1,e2]:List qa).length:Nat):Int)) some (M + 3) (b,((0:Nat):Int)):=by rw [← hM]; rfl
 rw [s0]
 have r1:=qsH (N:=N) (b:=b) (e:=e1) (s47:=[e1,e2]) (k:=0) (by simp) (by simp) rfl fb h1.1 h1.2
 unfold qwL
 by_cases z1:(QF N b e1).2=0
 ·rw [if_pos z1] at r1 ⊢
  rw [Jl r1]
  have r2:=qsH (N:=N) (b:=(QF N b e1).1) (e:=e2) (s47:=[e1,e2]) (k:=1) (by simp) (by simp) rfl (qDY fb h1.1 h1.2 z1) h2.1 h2.2
  by_cases z2:(QF N (QF N b e1).1 e2).2=0
  ·rw [if_pos z2] at r2 ⊢
   rw [Jl r2,zL (x:=.inl ((QF N (QF N b e1).1 e2).1,((2:Nat):Int),false)) (by
    unfold V3
    exact w_f rfl (qC rfl))]
   exact ⟨_,rfl,rfl⟩
  ·rw [if_neg z2] at r2 ⊢
   rw [zL r2]
   exact ⟨_,rfl,rfl⟩
 ·rw [if_neg z1] at r1 ⊢
  rw [zL r1]
  exact ⟨_,rfl,rfl⟩
theorem qv9 {b:qf} {p:qa} (fb:Qs N b) (h1:p.F.length < N) (h2:p.F.length≤4611686018427387904):Xb N b p=some (Y9 N b p):=by
 have hN:=big N
 have hn:XQ p=some (JL p):=by
  have e0:eqE ql (qa.zi p) (qe.mk 0 0)=decide (p.zi=zSt):=qet _ _
  have e2:decide (((p.F.length:Nat):Int)=0)=decide (p.F.length=0):=decide_eq_decide.2 (by omega)
  unfold XQ qa3 JL
  refine jW e0 (fun h=>qC ?_) fun h=>qC ?_
  ·rw [h]; exact congrArg some e2
  ·rw [h]; rfl
 obtain ⟨z,ez,hz⟩:=qEk (N:=N) (b:=b) (e1:=Vy p) (e2:=vB p) fb ⟨by show 0 < N; omega,Nat.zero_le _⟩ ⟨h1,h2⟩
 have fin:(Tree.bind (j8 [(([]:List qa).length,0)] (VM N [] [Vy p,vB p] ((([Vy p,vB p]:List qa).length:Nat):Int) b 0)) fun z5=>.sum z5 (fun z6=>.ret (z6.1,(0:Int))) fun z6=>.chk (0=0) (.ret (qf.mk [],z6))).run some=some (qwL N b (Vy p) (vB p)):=by
  refine qz ((jH rfl).trans ez) ?_
  rw [← hz]
  cases z with
  | inl w=>rfl
  | inr e=>exact w_r rfl <| qZ rfl <| qC rfl
 unfold Xb qfP Y9 qwT
 refine qz (qiN fb) ?_
 cases hb:zQ b with
 | false=>exact w_t rfl <| qZ rfl <| qC rfl
 | true=>
  refine w_f rfl <| qz hn ?_
  cases hnp:JL p with
  | true=>exact w_t rfl <| qZ rfl <| qC rfl
  | false=>
   refine w_f rfl <| qz (qiK _) ?_
   have hst:stB (qa.zi p)=stB p.zi:=rfl
   rw [hst]
   cases hs:stB p.zi with
   | false=>exact w_t rfl <| qZ rfl <| qC rfl
   | true=>
    refine w_f rfl ?_
    by_cases h0:p.F.length=0
    ·rw [decide_eq_true h0]
     exact w_f (decide_eq_false (by show ¬ (0:Int) < ((p.F.length:Nat):Int); omega)) fin
    ·rw [decide_eq_false h0]
     refine w_t (decide_eq_true (by show (0:Int) < ((p.F.length:Nat):Int); omega)) <| qz (qmt (r:=vB p) h1 h2) ?_
     cases hr:jM (vB p) with
     | false=>exact w_t rfl <| qZ rfl <| qC rfl
     | true=>exact w_f rfl fin
end
end Go.Rx
end
set_option maxRecDepth 100000
noncomputable section
namespace Go.Rx
open Go.Proofs
end Go.Rx
end
set_option maxRecDepth 100000
noncomputable section
namespace Go.Rx
open Go.Proofs
end Go.Rx
end
set_option maxRecDepth 100000
noncomputable section
namespace Go.Rx
open Go.Proofs
def oP (e:qa) (id:Vector UInt8 16):Option qa:=if JL e=true then none else rO [e] id
theorem qHZ {p:qa} (hs:stB p.zi=true):JL (Vy p)=true∨jM (Vy p)=true:=by
 by_cases h:p.zi=zSt
 ·left
  show (decide (p.zi=zSt)&&true)=true
  rw [decide_eq_true h]; rfl
 ·right
  exact qas.2 ⟨hs,.inr h,List.Pairwise.nil,fun f hf=>absurd hf List.not_mem_nil⟩
theorem qI0 {e:qa} (he:JL e=true∨jM e=true) (id:Vector UInt8 16):VO id (oP e id):=by
 unfold oP
 split
 ·exact qG6
 ·rename_i hn
  have hr:=he.resolve_left hn
  exact qGK (fun r hr'=>by rw [List.mem_singleton.1 hr']; exact hr) id
section
variable {N:Nat} [Q3 N]
theorem qsN {b : qf} {e : qa} (hb : zQ b = true) (h1 : e.F.length < N) (h2 : e.F.length ≤ 4611686018427387904) (h : (QF N b e).2 = 0) :
    zQ (QF N b e).1=true∧∀ id,rO (QF N b e).1.R id=jR (rO b.R id) (oP e id):=by
 cases hn:JL e with
 | true=>
  rw [qCK hn]
  refine ⟨hb,fun id=>?_⟩
  unfold oP
  rw [if_pos hn,qme]
 | false=>
  rw [qCY hn] at h ⊢
  obtain ⟨_,_,hj,hv⟩:=qyT (ql3 hb) (qoM h1 h2) h
  refine ⟨hv,fun id=>?_⟩
  rw [hj.2 id]
  unfold oP
  rw [if_neg (by rw [hn]; simp)]; rfl
theorem qsM {b:qf} {p:qa} (h:(Y9 N b p).2=0):qwT b p=true∧(QF N b (Vy p)).2=0∧(QF N (QF N b (Vy p)).1 (vB p)).2=0∧Y9 N b p=((QF N (QF N b (Vy p)).1 (vB p)).1,0):=by
 unfold Y9 qwL at *
 split at h
 ·rename_i h1
  rw [if_pos h1]
  split at h
  ·rename_i h2
   rw [if_pos h2]
   split at h
   ·rename_i h3
    rw [if_pos h3]
    exact ⟨h1,h2,h3,rfl⟩
   ·rename_i h3
    exact (h3 h).elim
  ·rename_i h2
   exact (h2 h).elim
 ·cases h
theorem qwt {b:qf} {p:qa}:qwT b p=true↔zQ b=true∧JL p=false∧stB p.zi=true∧(p.F.length=0∨jM (vB p)=true):=by
 unfold qwT
 rw [Bool.and_eq_true,Bool.and_eq_true,Bool.and_eq_true,Bool.or_eq_true,Bool.not_eq_true',decide_eq_true_iff]
theorem qHg {p:qa} (h:p.F.length=0∨jM (vB p)=true):JL (vB p)=true∨jM (vB p)=true:=by
 refine h.imp (fun h0=>?_) id
 show (true&&decide (p.F.length=0))=true
 rw [decide_eq_true h0]; rfl
theorem qHe {b : qf} {p : qa} (h1 : p.F.length < N) (h2 : p.F.length ≤ 4611686018427387904) (h : (Y9 N b p).2 = 0) :
    zQ b=true∧zQ (Y9 N b p).1=true∧(∀ id,rO (Y9 N b p).1.R id=jR (jR (rO b.R id) (oP (Vy p) id)) (oP (vB p) id)):=by
 obtain ⟨ha,z1,z2,e⟩:=qsM h
 obtain ⟨hb,hn,hs,hl⟩:=qwt.1 ha
 obtain ⟨v1,r1⟩:=qsN (e:=Vy p) hb (by have:=big N; show 0 < N; omega) (Nat.zero_le _) z1
 obtain ⟨v2,r2⟩:=qsN (e:=vB p) v1 h1 h2 z2
 rw [e]
 exact ⟨hb,v2,fun id=>by rw [r2,r1]⟩
end
end Go.Rx
end
set_option maxRecDepth 100000
noncomputable section
namespace Go.Rx
open Go.Proofs
def qAa (o:qb):qa:=qa.mk o.ID o.S []
def qh0 (o:qb) (v:List UInt8):qa:=qa.mk o.ID zSt [qd.mk o.No (qc.mk o.S v)]
def Xm (b:qf) (id:Vector UInt8 16) (no:Int):List UInt8×Int:=
 if (cellAt (recAt b id).1 no).2=true then ((cellAt (recAt b id).1 no).1.V,0) else ([],6)
def qfJ (o:qb) (x:List UInt8×Int):List UInt8×Int:=if x.2=0 then (if JQ x.1=o.D then x else ([],7)) else x
def qAy (N:Nat) (b:qf) (o:qb) (x:List UInt8×Int):qf×Int:=if x.2=0 then Y9 N b (qh0 o x.1) else (qf.mk [],x.2)
theorem qhW {b:qf} (h:zQ b=true) (id:Vector UInt8 16):(recAt b id).1.F.length≤8:=by
 unfold recAt
 cases e:qkn b.R id with
 | none=>exact Nat.zero_le _
 | some i=>exact qbA ((qcj.1 h).1 i (qkh e).1).1
theorem qfE {b:qf} (h:zQ b=true) (id:Vector UInt8 16) (no:Int):(cellAt (recAt b id).1 no).1.V.length≤200:=by
 unfold cellAt
 cases e:qh1 (recAt b id).1.F no with
 | none=>exact Nat.zero_le _
 | some j=>
  unfold recAt at e ⊢
  cases e2:qkn b.R id with
  | none=>rw [e2] at e; cases e
  | some i=>
   rw [e2] at e
   exact qws (qAf ((qcj.1 h).1 i (qkh e2).1).1 j (qkh e).1)
section
variable {N:Nat} [Q3 N]
theorem quq {b:qf} (h:zQ b=true) (o:qb) (id:Vector UInt8 16) (no:Int):VL N (qV.mk b o) id no=some (Xm b id no):=by
 unfold VL K1 Xm
 refine qz (qnN h id) <| qz (qoK (qhW h id) no) ?_
 cases e:(cellAt (recAt b id).1 no).2 with
 | true=>exact w_f rfl (qC rfl)
 | false=>exact w_t rfl (qC rfl)
theorem qy3 (b:qf) (o:qb) {v:List UInt8} {e:Int} (h:v.length≤50000):Z5 N (qV.mk b o) v e=some (qfJ o (v,e)):=by
 unfold Z5 Wm qfJ
 refine jW rfl (fun h0=>?_) fun h0=>qC (by rw [if_neg (of_decide_eq_false h0)])
 rw [if_pos (of_decide_eq_true h0)]
 refine qz (qii h) ?_
 have e2:eqE (.ba 32) (JQ v) (qb.D (qV.o (qV.mk b o)))=decide (JQ v=o.D):=qFJ _ _
 refine jW (by rw [e2]) (fun h1=>qC ?_) fun h1=>qC ?_
 ·rw [Bool.not_eq_true'] at h1
  exact congrArg some (if_neg (of_decide_eq_false h1)).symm
 ·rw [Bool.not_eq_false'] at h1
  exact congrArg some (if_pos (of_decide_eq_true h1)).symm
theorem qC6 {b:qf} (h:zQ b=true) (o:qb):Xz N (qV.mk b o)=some (qfJ o (Xm b o.jw o.Zc)):=by
 unfold Xz Yi
 have hl:(Xm b o.jw o.Zc).1.length≤50000:=by
  unfold Xm
  split
  ·have:=qfE h o.jw o.Zc; show (cellAt (recAt b o.jw).1 o.Zc).1.V.length≤50000; omega
  ·exact Nat.zero_le _
 exact qz (quq h o _ _) <| qz (qy3 b o hl) <| qC rfl
def qbF (b:qf) (o:qb) (m:List UInt8×Int):List UInt8×Int:=if o.Kind=1 then (o.V,0) else if o.Kind=2 then qfJ o (Xm b o.jw o.Zc) else m
def doD (N:Nat) (b:qf) (o:qb) (m:List UInt8×Int):qf×Int:=
 if zQ b=true∧opB o=true then (if o.Kind=0 then Y9 N b (qAa o) else qAy N b o (qbF b o m)) else (qf.mk [],1)
theorem qEJ {o:qb} (h:opB o=true):0≤o.Kind∧o.Kind < 4:=by
 unfold opB at h
 simp only [Bool.and_eq_true,Bool.not_eq_true',decide_eq_false_iff_not] at h
 omega
theorem qI5 {b:qf} {o:qb} (fb:Qs N b) (hl:(qb.P o).length < N) (hl2:(qb.P o).length≤1000000000000000) (hk:o.Kind≠3) (m:List UInt8×Int):qmf N b o=some (doD N b o m):=by
 have hN:=big N
 have add1:∀ v,Xb N b (qh0 o v)=some (Y9 N b (qh0 o v)):=fun v=>qv9 fb (by show 1 < N; omega) (by show 1≤4611686018427387904; omega)
 unfold qmf qmc doD
 refine qz (qiN fb) ?_
 cases hb:zQ b with
 | false=>exact w_t rfl <| qZ rfl <| qC (by rw [if_neg (fun h=>by cases h.1)])
 | true=>
  refine w_f rfl <| qz (qwp hl hl2) ?_
  cases ho:opB o with
  | false=>exact w_t rfl <| qZ rfl <| qC (by rw [if_neg (fun h=>by cases h.2)])
  | true=>
   refine w_f rfl ?_
   rw [if_pos ⟨rfl,rfl⟩]
   unfold qbF
   refine jW rfl (fun h0=>?_) fun h0=>?_
   ·rw [if_pos (of_decide_eq_true h0)]
    exact qZ (by omega) <| qz (qv9 (p:=qAa o) fb (by show 0 < N; omega) (Nat.zero_le _)) <| qC rfl
   rw [if_neg (of_decide_eq_false h0)]
   refine jW rfl (fun h1=>?_) fun h1=>?_
   ·rw [if_pos (of_decide_eq_true h1)]
    exact qZ (by omega) <| qz (show qc4 (qV.mk b o)=some () from rfl) <| qz (add1 o.V) <| qC rfl
   rw [if_neg (of_decide_eq_false h1)]
   refine jW rfl (fun h2=>?_) fun h2=>?_
   ·rw [if_pos (of_decide_eq_true h2)]
    refine qZ (by omega) <| qz (qC6 hb o) ?_
    unfold qAy
    by_cases hz:(qfJ o (Xm b o.jw o.Zc)).2=0
    ·rw [if_pos hz]
     exact w_f (by rw [decide_eq_true hz]; rfl) <| qz (add1 _) <| qC rfl
    ·rw [if_neg hz]
     exact w_t (by rw [decide_eq_false hz]; rfl) <| qZ rfl <| qC rfl
   have:=qEJ ho
   have h0:=of_decide_eq_false h0; have h1:=of_decide_eq_false h1; have h2:=of_decide_eq_false h2
   exact (hk (by omega)).elim
theorem qFf {b : qf} {o : qb} {m : List UInt8 × Int} (h : (doD N b o m).2 = 0) :
    zQ b=true∧opB o=true∧∃ p:qa,p.F.length≤1∧p.ID=o.ID∧doD N b o m=Y9 N b p∧(o.Kind=0∧p=qAa o∨o.Kind≠0∧(qbF b o m).2=0∧p=qh0 o (qbF b o m).1):=by
 unfold doD at h ⊢
 by_cases hb:zQ b=true∧opB o=true
 ·rw [if_pos hb] at h ⊢
  refine ⟨hb.1,hb.2,?_⟩
  by_cases h0:o.Kind=0
  ·rw [if_pos h0] at h ⊢
   exact ⟨qAa o,Nat.zero_le _,rfl,rfl,.inl ⟨h0,rfl⟩⟩
  ·rw [if_neg h0] at h ⊢
   unfold qAy at h ⊢
   by_cases hz:(qbF b o m).2=0
   ·rw [if_pos hz] at h ⊢
    exact ⟨qh0 o (qbF b o m).1,Nat.le_refl _,rfl,rfl,.inr ⟨h0,hz,rfl⟩⟩
   ·rw [if_neg hz] at h
    exact (hz h).elim
 ·rw [if_neg hb] at h; cases h
end
end Go.Rx
end
set_option maxRecDepth 100000
noncomputable section
namespace Go.Rx
open Go.Proofs
section
variable {N:Nat} [Q3 N]
theorem qEY (o:qb):∃ x,Qj N o=some x∧(x=true→(qb.P o).length≤80∧(qb.V o).length≤300∧∀ k,k < (qb.P o).length→((qb.P o).getD k zP).Lit.length≤300):=by
 have hN:=big N
 by_cases h1:(qb.P o).length≤80
 ·by_cases h2:(qb.V o).length≤300
  ·have hl : Wr N o 0 = some (if Z3 (fun k => decide (((qb.P o).getD k zP).Lit.length ≤ 300)) (qb.P o).length then .inr (((qb.P o).length : Nat), false) else .inl ()) := by
      refine (qax (B:=ZV N o) (g:=some) (q:=fun k=>decide (((qb.P o).getD k zP).Lit.length≤300)) (n:=(qb.P o).length) (hit:=()) (fun k hk=>?_) ?_ (by omega))
      ·unfold ZV
       refine w_t (dec_lt hk) <| qz (vL (d:=zP) hk) ?_
       by_cases h:((qb.P o).getD k zP).Lit.length≤300
       ·rw [decide_eq_true h]
        exact w_f (decide_eq_false (by show ¬ (300:Int) < ((((qb.P o).getD k zP).Lit.length:Nat):Int); omega)) <| qZ (QY (by omega)) <| qC (by rw [zG]; rfl)
       ·rw [decide_eq_false h]
        exact w_t (decide_eq_true (by show (300:Int) < ((((qb.P o).getD k zP).Lit.length:Nat):Int); omega)) <| qC rfl
      ·unfold ZV
       exact w_f (jy (Nat.lt_irrefl _)) (qC (by rw [jy (Nat.lt_irrefl _)]))
   refine ⟨Z3 (fun k=>decide (((qb.P o).getD k zP).Lit.length≤300)) (qb.P o).length,?_,fun h=>⟨h1,h2,fun k hk=>of_decide_eq_true (Vi.1 h k hk)⟩⟩
   unfold Qj Zz
   refine w_f (decide_eq_false (by omega)) <| w_f (decide_eq_false (by omega)) <| qz hl ?_
   cases Z3 (fun k=>decide (((qb.P o).getD k zP).Lit.length≤300)) (qb.P o).length<;>rfl
  ·refine ⟨false,?_,fun h=>by cases h⟩
   unfold Qj Zz
   exact w_f (decide_eq_false (by omega)) <| w_t (decide_eq_true (by omega)) <| qC rfl
 ·refine ⟨false,?_,fun h=>by cases h⟩
  unfold Qj Zz
  exact w_t (decide_eq_true (by omega)) <| qC rfl
theorem qFi (o:qb):∃ x,Qj N o=some x:=by
 obtain ⟨x,h,_⟩:=qEY (N:=N) o
 exact ⟨x,h⟩
end
end Go.Rx
end
set_option maxRecDepth 100000
noncomputable section
namespace Go.Rx
open Go.Proofs
end Go.Rx
end
set_option maxRecDepth 100000
noncomputable section
namespace Go.Rx
open Go.Proofs
end Go.Rx
end
set_option maxRecDepth 100000
noncomputable section
namespace Go.Rx
open Go.Proofs
end Go.Rx
end
set_option maxRecDepth 100000
noncomputable section
namespace Go.Rx
open Go.Proofs
end Go.Rx
end
set_option maxRecDepth 100000
noncomputable section
namespace Go.Rx
open Go.Proofs
end Go.Rx
end
set_option maxRecDepth 100000
noncomputable section
namespace Go.Rx
open Go.Proofs
end Go.Rx
end
set_option maxRecDepth 100000
noncomputable section
namespace Go.Rx
open Go.Proofs
end Go.Rx
end
set_option maxRecDepth 100000
noncomputable section
namespace Go.Rx
open Go.Proofs
end Go.Rx
end
set_option maxRecDepth 100000
noncomputable section
namespace Go.Rx
open Go.Proofs
end Go.Rx
end
set_option maxRecDepth 100000
noncomputable section
namespace Go.Rx
open Go.Proofs
end Go.Rx
end
set_option maxRecDepth 100000
noncomputable section
namespace Go.Rx
open Go.Proofs
end Go.Rx
end
set_option maxRecDepth 100000
noncomputable section
namespace Go.Rx
open Go.Proofs
structure Cod {α:Type} (V:α→Prop) (put:α→List UInt8) (get:List UInt8→Option (α×Nat)):Prop where
 back:∀ a r,V a→get (put a++r)=some (a,(put a).length)
 forth:∀ b a n,get b=some (a,n)→V a∧n≤b.length∧b.take n=put a
theorem Cod.cut {α:Type} {V:α→Prop} {put:α→List UInt8} {get:List UInt8→Option (α×Nat)} (C:Cod V put get) {a:α} (h:V a) {k:Nat} (hk:k < (put a).length):get ((put a).take k)=none:=by
 cases e:get ((put a).take k) with
 | none=>rfl
 | some x=>
  obtain ⟨a',n⟩:=x
  obtain ⟨h1,h2,h3⟩:=C.forth _ _ _ e
  have hn:n≤k:=by rw [List.length_take] at h2; omega
  rw [List.take_take,Nat.min_eq_left hn] at h3
  have h4:=C.back a' ((put a).drop n) h1
  rw [← h3,List.take_append_drop,List.length_take,Nat.min_eq_left (by omega)] at h4
  have h5:=C.back a [] h
  rw [List.append_nil,h4] at h5
  have:n=(put a).length:=(Prod.mk.inj (Option.some.inj h5)).2
  omega
end Go.Rx
end
set_option maxRecDepth 100000
noncomputable section
namespace Go.Rx
open Go.Proofs
theorem qAY {l:List qg}:YP l=true↔(∀ p∈l,Z8 p=true)∧l.length≤60∧qcH l l.length≤200:=by
 unfold YP
 rw [Bool.and_eq_true,Bool.and_eq_true,decide_eq_true_iff,decide_eq_true_iff,Vi,and_assoc]
 constructor
 ·rintro ⟨h,h2⟩
  refine ⟨fun p hp=>?_,h2⟩
  obtain ⟨i,hi,rfl⟩:=List.getElem_of_mem hp
  have:=h i hi
  rw [List.getD_eq_getElem?_getD,List.getElem?_eq_getElem hi] at this
  exact this
 ·rintro ⟨h,h2⟩
  refine ⟨fun j hj=>?_,h2⟩
  rw [List.getD_eq_getElem?_getD,List.getElem?_eq_getElem hj]
  exact h _ (List.getElem_mem hj)
end Go.Rx
end
set_option maxRecDepth 100000
noncomputable section
namespace Go.Rx
open Go.Proofs
def Kx (a:List UInt8):List qg→List UInt8→List UInt8×Bool
 | [],acc=>(acc,true)
 | p::l,acc=>if p.qbj=true then (if ((a.length:Nat):Int) - p.jw < p.Len then ([],false) else Kx a l (acc++p.Lit++(a.take (p.jw + p.Len).toNat).drop p.jw.toNat)) else Kx a l (acc++p.Lit)
theorem qxC {p:qg} (h:Z8 p=true):(0≤p.jw∧p.jw≤200)∧(0≤p.Len∧p.Len≤200)∧p.Lit.length≤200∧(p.qbj=true→p.Lit=[]):=by
 have h1:=qlA h
 unfold Z8 inP at h
 cases e:p.qbj with
 | true=>
  rw [e,cond_true] at h
  simp only [Bool.and_eq_true,decide_eq_true_eq] at h
  obtain ⟨⟨h2,h3⟩,h4⟩:=h
  refine ⟨h2,⟨by omega,by omega⟩,by rw [h4]; simp,fun _=>h4⟩
 | false=>
  rw [e,cond_false] at h
  simp only [Bool.and_eq_true,decide_eq_true_eq] at h
  obtain ⟨h2,h3⟩:=h
  have e1:p.jw=0:=by rw [h2]; rfl
  have e2:p.Len=0:=by rw [h2]; rfl
  rw [e1,e2]
  exact ⟨⟨by omega,by omega⟩,⟨by omega,by omega⟩,by omega,fun e=>by cases e⟩
theorem qkO {a:List UInt8} (ha:a.length≤50000):∀ {l:List qg} {acc:List UInt8},(∀ p∈l,Z8 p=true)→acc.length + 400 * l.length≤100000→qbm a l acc=some (Kx a l acc)∧(Kx a l acc).1.length≤acc.length + 400 * l.length
 | [],acc,_,_=>⟨rfl,Nat.le_refl _⟩
 | p::l,acc,h,hl=>by
  obtain ⟨h1,h2,h3,h4⟩:=qxC (h p (List.mem_cons_self ..))
  have ht:∀ q∈l,Z8 q=true:=fun q hq=>h q (List.mem_cons_of_mem _ hq)
  rw [List.length_cons] at hl ⊢
  unfold qbm Kx
  cases e:p.qbj with
  | false=>
   have hr:=qkO ha (l:=l) (acc:=acc++p.Lit) ht (by rw [List.length_append]; omega)
   rw [List.length_append] at hr
   rw [cond_false,if_neg (by simp)]
   refine ⟨(if_pos (by omega)).trans hr.1,by omega⟩
  | true=>
   rw [cond_true,if_pos rfl]
   by_cases hs:((a.length:Nat):Int) - p.jw < p.Len
   ·rw [if_pos hs]
    refine ⟨(if_pos (by unfold qy; omega)).trans ?_,Nat.zero_le _⟩
    rw [decide_eq_true hs]; rfl
   ·rw [if_neg hs]
    have hd:((a.take (p.jw + p.Len).toNat).drop p.jw.toNat).length≤200:=by rw [List.length_drop,List.length_take]; omega
    have hr:=qkO ha (l:=l) (acc:=acc++p.Lit++(a.take (p.jw + p.Len).toNat).drop p.jw.toNat) ht (by rw [List.length_append,List.length_append]; omega)
    rw [List.length_append,List.length_append] at hr
    refine ⟨(if_pos (by unfold qy; omega)).trans ?_,by omega⟩
    rw [decide_eq_false hs]
    exact (if_pos ⟨by unfold qy; omega,by omega,by omega⟩).trans hr.1
def Xr (b:qf) (o:qb):List UInt8×Int:=
 if (Xm b o.ID o.No).2=0 then (if (Kx (Xm b o.ID o.No).1 o.P []).2=true then qfJ o ((Kx (Xm b o.ID o.No).1 o.P []).1,0) else ([],7)) else ([],(Xm b o.ID o.No).2)
theorem qD3 {b:qf} (h:zQ b=true) (id:Vector UInt8 16) (no:Int):(Xm b id no).1.length≤200:=by
 unfold Xm
 split
 ·exact qfE h id no
 ·exact Nat.zero_le _
section
variable {N:Nat} [Q3 N]
theorem qDs {a:List UInt8} {l:List qg} (ha:a.length≤50000) (h:YP l=true):qb0 N a l=some (Kx a l [])∧(Kx a l []).1.length≤24000:=by
 have hN:=big N
 obtain ⟨h1,h2,_⟩:=qAY.1 h
 have hr:=qkO ha (l:=l) (acc:=[]) h1 (by rw [List.length_nil]; omega)
 rw [List.length_nil] at hr
 refine ⟨?_,by omega⟩
 unfold qb0
 rw [qsl (by omega) (by omega),Option.bind_some,h,cond_true]
 exact (if_pos (by omega)).trans hr.1
theorem qHh {b:qf} (h:zQ b=true) {o:qb} (ho:YP o.P=true):YM N (qV.mk b o)=some (Xr b o):=by
 have hl:=qD3 h o.ID o.No
 have e0:=quq (N:=N) h o o.ID o.No
 obtain ⟨e1,e2⟩:=qDs (N:=N) (a:=(Xm b o.ID o.No).1) (l:=o.P) (by omega) ho
 unfold YM KV Xr
 generalize Xm b o.ID o.No=c at *
 generalize Kx c.1 o.P []=z at *
 have e3:=qy3 (N:=N) b o (v:=z.1) (e:=0) (by omega)
 generalize qfJ o (z.1,0)=y at *
 refine qz e0 ?_
 by_cases h0:c.2=0
 ·rw [if_pos h0]
  refine w_f (by rw [decide_eq_true h0]; rfl) <| qz e1 ?_
  cases e4:z.2 with
  | true=>exact w_f rfl <| qz e3 <| qC rfl
  | false=>exact w_t rfl <| qC rfl
 ·rw [if_neg h0]
  exact w_t (by rw [decide_eq_false h0]; rfl) <| qC rfl
theorem qG1 {b:qf} {o:qb} (fb:Qs N b) (hl:(qb.P o).length < N) (hl2:(qb.P o).length≤1000000000000000):qmf N b o=some (doD N b o (Xr b o)):=by
 by_cases hk:o.Kind=3
 ·have hN:=big N
  unfold qmf qmc doD
  refine qz (qiN fb) ?_
  cases hb:zQ b with
  | false=>exact w_t rfl <| qZ rfl <| qC (by rw [if_neg (fun h=>by cases h.1)])
  | true=>
   refine w_f rfl <| qz (qwp hl hl2) ?_
   cases ho:opB o with
   | false=>exact w_t rfl <| qZ rfl <| qC (by rw [if_neg (fun h=>by cases h.2)])
   | true=>
    have hp:YP o.P=true:=by unfold opB at ho; rw [Bool.and_eq_true] at ho; exact ho.2
    refine w_f rfl ?_
    rw [if_pos ⟨rfl,rfl⟩]
    unfold qbF
    rw [if_neg (by omega),if_neg (by omega),if_neg (by omega)]
    refine w_f (decide_eq_false (by show ¬ o.Kind=0; omega)) <| w_f (decide_eq_false (by show ¬ o.Kind=1; omega)) <| w_f (decide_eq_false (by show ¬ o.Kind=2; omega)) <| w_t (decide_eq_true hk) <| qZ (by omega) <| qz (qHh hb hp) ?_
    unfold qAy
    by_cases hz:(Xr b o).2=0
    ·rw [if_pos hz]
     exact w_f (by rw [decide_eq_true hz]; rfl) <| qz (qv9 (p:=qh0 o (Xr b o).1) fb (by show 1 < N; omega) (by show 1≤4611686018427387904; omega)) <| qC rfl
    ·rw [if_neg hz]
     exact w_t (by rw [decide_eq_false hz]; rfl) <| qZ rfl <| qC rfl
 ·exact qI5 fb hl hl2 hk _
end
end Go.Rx
end
set_option maxRecDepth 100000
noncomputable section
namespace Go.Rx
open Go.Proofs
def qDc (p:qa):Prop:=(JL (Vy p)=true∨jM (Vy p)=true)∧(JL (vB p)=true∨jM (vB p)=true)
def jP (a:Option qa) (p:qa) (id:Vector UInt8 16):Option qa:=jR (jR a (oP (Vy p) id)) (oP (vB p) id)
section
variable {N:Nat} [Q3 N]
theorem qBP {b : qf} {p : qa} (h1 : p.F.length < N) (h2 : p.F.length ≤ 4611686018427387904) (h : (Y9 N b p).2 = 0) :
    zQ b=true∧zQ (Y9 N b p).1=true∧qDc p∧∀ id,rO (Y9 N b p).1.R id=jP (rO b.R id) p id:=by
 obtain ⟨hb,hc,hr⟩:=qHe h1 h2 h
 obtain ⟨_,_,hs,hl⟩:=qwt.1 (qsM h).1
 exact ⟨hb,hc,⟨qHZ hs,qHg hl⟩,hr⟩
end
end Go.Rx
end
set_option maxRecDepth 100000
noncomputable section
namespace Go.Rx
open Go.Proofs
end Go.Rx
end
set_option maxRecDepth 100000
noncomputable section
namespace Go.Rx
open Go.Proofs
theorem qBT {r:qa} {no:Int} {c:qc} (h:cO r.F no=some c):∃ i,qh1 r.F no=some i∧(r.F.getD i zF).C=c:=by
 rw [← qCF] at h
 obtain ⟨i,h1,h2⟩:=Option.map_eq_some_iff.1 h
 exact ⟨i,h1,h2⟩
theorem qCC {r:qa} {no:Int} (h:cO r.F no=none):qh1 r.F no=none:=by
 rw [← qCF] at h
 exact Option.map_eq_none_iff.1 h
def qb3:Option qa→qe
 | some r=>r.zi
 | none=>zSt
def Jc (o:Option qa) (no:Int):Option qc:=o.bind fun r=>cO r.F no
end Go.Rx
end
set_option maxRecDepth 100000
noncomputable section
namespace Go.Rx
open Go.Proofs
end Go.Rx
end
set_option maxRecDepth 100000
noncomputable section
namespace Go.Rx
open Go.Proofs
end Go.Rx
end
set_option maxRecDepth 100000
noncomputable section
namespace Go.Rx
open Go.Proofs
theorem qv4 {b:qf} {id:Vector UInt8 16} {r:qa} (h:rO b.R id=some r):recAt b id=(r,true):=by
 rw [← qD1] at h
 obtain ⟨i,h1,h2⟩:=Option.map_eq_some_iff.1 h
 unfold recAt
 rw [h1]
 show (b.R.getD i zR,true)=_
 rw [h2]
theorem qsc {r:qa} {no:Int} {c:qc} (h:cO r.F no=some c):cellAt r no=(c,true):=by
 obtain ⟨i,h1,h2⟩:=qBT h
 unfold cellAt
 rw [h1]
 show ((r.F.getD i zF).C,true)=_
 rw [h2]
end Go.Rx
end
set_option maxRecDepth 100000
noncomputable section
namespace Go.Rx
open Go.Proofs
theorem qhU {id:Vector UInt8 16} {o:Option qa} (ho:VO id o):stB (qb3 o)=true:=by
 cases o with
 | none=>rfl
 | some r=>exact (qas.1 (ho r rfl).1).1
theorem qvJ {d:qe} (h:stB d=true):mxS zSt d=d:=by
 by_cases e:d=zSt
 ·rw [e,qFl]
 ·exact qrN (qhM h e)
theorem qCc {d:qe} (h:stB d=true):mxS d zSt=d:=by rw [qF9,qvJ h]
theorem qyu {id:Vector UInt8 16} {o:Option qa} (ho:VO id o) (no:Int):fl (qb3 o) (Jc o no)=Jc o no:=by
 cases o with
 | none=>rfl
 | some r=>exact qG8 (ho r rfl).1 no
theorem qHd {id:Vector UInt8 16} {o p:Option qa} (ho:VO id o) (hp:VO id p):qb3 (jR o p)=mxS (qb3 o) (qb3 p):=by
 cases o with
 | none=>exact (qvJ (qhU hp)).symm
 | some r=>
  cases p with
  | none=>exact (qCc (qhU ho)).symm
  | some s=>rfl
theorem qHA (o:Option qc):jC o none=o:=by cases o<;>rfl
theorem qHD {id:Vector UInt8 16} {o p:Option qa} (ho:VO id o) (hp:VO id p) (no:Int):Jc (jR o p) no=fl (mxS (qb3 o) (qb3 p)) (jC (Jc o no) (Jc p no)):=by
 cases o with
 | none=>
  show Jc p no=fl (mxS zSt (qb3 p)) (Jc p no)
  rw [qvJ (qhU hp),qyu hp]
 | some r=>
  cases p with
  | none=>
   show Jc (some r) no=fl (mxS (qb3 (some r)) zSt) (jC (Jc (some r) no) none)
   rw [qCc (qhU ho),qHA,qyu ho]
  | some s=>exact qGN (ho r rfl).1 (hp s rfl).1 no
theorem qHq {p:qa}:qb3 (oP (vB p) p.ID)=zSt∧∀ no,Jc (oP (vB p) p.ID) no=cO p.F no:=by
 unfold oP
 by_cases h:p.F.length=0
 ·rw [if_pos (by show (true&&decide (p.F.length=0))=true; rw [decide_eq_true h]; rfl)]
  refine ⟨rfl,fun no=>?_⟩
  rw [List.length_eq_zero_iff.1 h]; rfl
 ·rw [if_neg (by show ¬ (true&&decide (p.F.length=0))=true; rw [decide_eq_false h]; simp),qhj,if_pos (show (vB p).ID=p.ID from rfl)]
  exact ⟨rfl,fun _=>rfl⟩
end Go.Rx
end
set_option maxRecDepth 100000
noncomputable section
namespace Go.Rx
open Go.Proofs
theorem qsi {o:qb} {x:List UInt8×Int} (h:(qfJ o x).2=0):JQ (qfJ o x).1=o.D:=by
 unfold qfJ at h ⊢
 split
 ·rename_i h0
  rw [if_pos h0] at h
  split
  ·assumption
  ·rename_i h1; rw [if_neg h1] at h; cases h
 ·rename_i h0; rw [if_neg h0] at h; exact (h0 h).elim
theorem qzs {b:qf} {o:qb} (h:(Xr b o).2=0):JQ (Xr b o).1=o.D:=by
 unfold Xr at h ⊢
 split
 ·rename_i h0
  rw [if_pos h0] at h
  split
  ·rename_i h1; rw [if_pos h1] at h; exact qsi h
  ·rename_i h1; rw [if_neg h1] at h; cases h
 ·rename_i h0; rw [if_neg h0] at h; exact (h0 h).elim
theorem qzJ {b:qf} {id:Vector UInt8 16} (h:rO b.R id=none):(recAt b id).2=false:=by
 rw [← qD1,Option.map_eq_none_iff] at h
 unfold recAt
 rw [h]
theorem qfS {r:qa} {no:Int} (h:cO r.F no=none):(cellAt r no).2=false:=by
 unfold cellAt
 rw [qCC h]
theorem qFm {O : Option qa} {id : Vector UInt8 16} (hO : VO id O) {p : qa} (hp : qDc p) (hid : p.ID = id) (hz : p.zi = zSt) (hF : p.F ≠ []) :
    ∃ r,jP O p id=some r∧∀ no,cO r.F no=fl r.zi (jC (Jc O no) (cO p.F no)):=by
 subst hid
 have e1:oP (Vy p) p.ID=none:=by
  unfold oP
  rw [if_pos (by show (decide (p.zi=zSt)&&true)=true; rw [decide_eq_true hz]; rfl)]
 have v2:=qI0 hp.2 p.ID
 have e2:jP O p p.ID=jR O (oP (vB p) p.ID):=by unfold jP; rw [e1,qme]
 have hne:jR O (oP (vB p) p.ID)≠none:=by
  have:oP (vB p) p.ID=some (vB p):=by
   unfold oP
   rw [if_neg (by show ¬ (true&&decide (p.F.length=0))=true; rw [decide_eq_false (fun h=>hF (List.length_eq_zero_iff.1 h))]; simp),qhj,if_pos (show (vB p).ID=p.ID from rfl)]
  rw [this]
  cases O<;>simp [jR]
 have hd:=qHd hO v2
 have hc:=qHD hO v2
 rw [e2]
 cases e:jR O (oP (vB p) p.ID) with
 | none=>exact (hne e).elim
 | some r=>
  rw [e] at hd hc
  refine ⟨r,rfl,fun no=>?_⟩
  have h:=hc no
  rw [← hd,qHq.2 no] at h
  exact h
theorem qGE {O : Option qa} {id : Vector UInt8 16} (hO : VO id O) {D : qe} {no : Int} {y : qc} (hy : y.S ≠ zSt) (hs : stB y.S = true) :
    (∃ w,fl D (jC (Jc O no) (some y))=some w∧(w=y∨Jc O no=some w))∨fl D (jC (Jc O no) (some y))=none∧D≠zSt:=by
 have out:∀ w:qc,w.S≠zSt→stB w.S=true→(w=y∨Jc O no=some w)→(∃ u,fl D (some w)=some u∧(u=y∨Jc O no=some u))∨fl D (some w)=none∧D≠zSt:=fun w h1 h2 h3=>by
  rw [qyp]
  cases e:slB D w.S with
  | true=>exact .inl ⟨w,rfl,h3⟩
  | false=>
   refine .inr ⟨rfl,fun h=>?_⟩
   rw [h,qhM h2 h1] at e; cases e
 cases ec:Jc O no with
 | none=>rw [ec] at out; exact out y hy hs (.inl rfl)
 | some d=>
  have hd:d.S≠zSt∧stB d.S=true:=by
   cases O with
   | none=>cases ec
   | some r=>
    obtain ⟨_,_,hc,_⟩:=qed (hO r rfl).1 ec
    unfold YS at hc
    rw [Bool.and_eq_true,Bool.and_eq_true,Bool.not_eq_true',decide_eq_false_iff_not] at hc
    exact ⟨hc.1,hc.2.1⟩
  rw [ec] at out
  show (∃ w,fl D (some (cJ d y))=some w∧_)∨fl D (some (cJ d y))=none∧_
  rcases qBa d y with e | e
  ·rw [e]; exact out d hd.1 hd.2 (.inr rfl)
  ·rw [e]; exact out y hy hs (.inl rfl)
section
variable {N:Nat} [Q3 N]
theorem qyR {o : qb} {v : List UInt8} (hv : o.Kind = 1 ∧ v = o.V ∨ o.Kind ≠ 1 ∧ JQ v = o.D) (hl : v.length ≤ 50000) {t u : Tree Bool} :
    (Tree.cond (decide (o.Kind=1)) (.cond (decide (v=o.V)) (.ret true) t) (.cond (!decide (o.Kind=1)) (.bind (QN N v) fun r9=>.ret (eqE (.ba 32) r9 o.D)) u)).run some=some true:=by
 rcases hv with ⟨h1,h2⟩ | ⟨h1,h2⟩
 ·exact w_t (decide_eq_true h1) <| w_t (decide_eq_true h2) <| qC rfl
 ·exact w_f (decide_eq_false h1) <| w_t (by rw [decide_eq_false h1]; rfl) <| qz (qii hl) <| qC (congrArg some ((qFJ _ _).trans (decide_eq_true h2)))
theorem qA0 {b:qf} (fb:Qs N b) {o:qb} (hl:(qb.P o).length < N) (hl2:(qb.P o).length≤1000000000000000):vI N b o=some true:=by
 have hN:=big N
 obtain ⟨x,ex⟩:=qHf (N:=N) b
 obtain ⟨y,ey⟩:=qFi (N:=N) o
 have e1:=qG1 (N:=N) fb hl hl2
 have hzero:=qFf (N:=N) (b:=b) (o:=o) (m:=Xr b o)
 generalize doD N b o (Xr b o)=d at *
 unfold vI Vp
 refine qz (show qvw=some true from rfl) <| qz ex <| qz ey <| qz e1 <| w_f rfl ?_
 cases x with
 | false=>rfl
 | true=>
 refine w_f rfl ?_
 cases y with
 | false=>rfl
 | true=>
 refine w_f rfl ?_
 refine jW rfl (fun _=>rfl) fun hz=>jW rfl (fun _=>rfl) fun hk0=>?_
 rw [Bool.not_eq_false'] at hz
 have hz:d.2=0:=of_decide_eq_true hz
 have hk0:o.Kind≠0:=of_decide_eq_false hk0
 obtain ⟨hb,ho,p,hp1,hpid,ep,hk⟩:=hzero hz
 obtain ⟨hv0,rfl⟩:(qbF b o (Xr b o)).2=0∧p=qh0 o (qbF b o (Xr b o)).1:=by
  rcases hk with ⟨h,_⟩ | ⟨_,h⟩
  ·exact (hk0 h).elim
  ·exact h
 have hv:o.Kind=1∧(qbF b o (Xr b o)).1=o.V∨o.Kind≠1∧JQ (qbF b o (Xr b o)).1=o.D:=by
  unfold qbF at hv0 ⊢
  by_cases h1:o.Kind=1
  ·rw [if_pos h1]; exact .inl ⟨h1,rfl⟩
  ·right
   rw [if_neg h1] at hv0 ⊢
   refine ⟨h1,?_⟩
   split
   ·rename_i h2; rw [if_pos h2] at hv0; exact qsi hv0
   ·rename_i h2; rw [if_neg h2] at hv0; exact qzs hv0
 generalize qbF b o (Xr b o)=V at *
 subst ep
 obtain ⟨_,hc,hpok,hr⟩:=qBP (by omega) (by omega) hz
 generalize (Y9 N b (qh0 o V.1)).1=X at *
 obtain ⟨_,_,hs0,hs,_⟩:=qHR.1 ho
 have hvo:VO o.ID (rO b.R o.ID):=qGK (YG.1 hb).1.2 o.ID
 obtain ⟨r,er,hcr⟩:=qFm hvo hpok rfl rfl (by show [_]≠[]; simp)
 have hrx:=(hr o.ID).trans er
 have hcr:=hcr o.No
 have ey:cO (qh0 o V.1).F o.No=some (qc.mk o.S V.1):=by
  show cO [qd.mk o.No (qc.mk o.S V.1)] o.No=_
  exact (qgF (f:=qd.mk o.No (qc.mk o.S V.1)) (l:=[])).trans (if_pos rfl)
 rw [ey] at hcr
 have e5:=qnN (N:=N) hc o.ID
 have e6:=qoK (N:=N) (qhW hc o.ID) o.No
 have e7:=qnN (N:=N) hb o.ID
 have e8:=qoK (N:=N) (qhW hb o.ID) o.No
 have hfew:=qfE hc o.ID o.No
 have hold:(∃ dd,rO b.R o.ID≠none∧Jc (rO b.R o.ID) o.No=some dd∧recAt b o.ID=((recAt b o.ID).1,true)∧cellAt (recAt b o.ID).1 o.No=(dd,true))∨Jc (rO b.R o.ID) o.No=none∧((recAt b o.ID).2=false∨(recAt b o.ID).2=true∧(cellAt (recAt b o.ID).1 o.No).2=false):=by
  cases eO:rO b.R o.ID with
  | none=>exact .inr ⟨rfl,.inl (qzJ eO)⟩
  | some s=>
   rw [qv4 eO]
   cases ec:cO s.F o.No with
   | none=>exact .inr ⟨ec,.inr ⟨rfl,qfS ec⟩⟩
   | some dd=>exact .inl ⟨dd,by simp,ec,rfl,qsc ec⟩
 have hval:=qGE hvo (D:=r.zi) (no:=o.No) (y:=qc.mk o.S V.1) hs0 hs
 rw [← hcr] at hval
 rw [qv4 hrx] at e5 e6 hfew
 refine qz e5 <| qz e6 <| w_f rfl ?_
 rcases hval with ⟨w,ew,hw⟩ | ⟨en,hd⟩
 ·rw [qsc ew] at hfew ⊢
  have hfew:w.V.length≤200:=hfew
  refine w_t rfl <| jW (congrArg (fun x=>!x) (qet w.S o.S)) (fun _=>qC rfl) fun hS=>w_f rfl ?_
  rw [Bool.not_eq_false'] at hS
  have hS:w.S=o.S:=of_decide_eq_true hS
  refine qz e7 <| qz e8 ?_
  rcases hold with ⟨dd,_,hdd,g1,g2⟩ | ⟨hdd,hno⟩
  ·rw [g1]
   show (Tree.cond true _ _).run some=_
   rw [g2]
   refine w_t rfl <| w_t rfl <| jW (qet dd.S o.S) (fun _=>qC rfl) fun hS2=>?_
   have hS2:dd.S≠o.S:=of_decide_eq_false hS2
   have:w=qc.mk o.S V.1:=hw.resolve_right fun h=>by
    rw [hdd] at h
    exact hS2 (by rw [Option.some.inj h]; exact hS)
   subst this
   exact qyR hv (by show V.1.length≤50000; have:V.1.length≤200:=hfew; omega)
  ·have:w=qc.mk o.S V.1:=hw.resolve_right fun h=>by rw [hdd] at h; cases h
   subst this
   have hfin:=fun {t u}=>qyR (N:=N) (t:=t) (u:=u) hv (by have:V.1.length≤200:=hfew; omega)
   rcases hno with h | ⟨h,h'⟩
   ·exact w_f h hfin
   ·exact w_t h <| w_f h' hfin
 ·refine w_f (qfS en) <| w_t (by show (!(cellAt r o.No).2)=true; rw [qfS en]; rfl) <| qC ?_
  show some (!(eqE ql r.zi zSt))=some true
  rw [qet,decide_eq_false (show ¬ (r.zi:qe)=zSt from hd)]; rfl
end
theorem qHE (b:qf) (o:qb) (h1:b.R.length≤4611686018427387904) (h2:∀ k,k < b.R.length→(b.R.getD k zR).F.length≤4611686018427387904) (h3:(qb.P o).length≤1000000000000000):∃ N:Nat,vI N b o=some true:=by
 obtain ⟨M,hM⟩:=qIV b h1 h2
 have:Q3 (100000 + M + (qb.P o).length):=Q3.of (by omega)
 exact ⟨_,qA0 (hM (100000 + M + (qb.P o).length) (by omega)) (by omega) h3⟩
end Go.Rx
end
