/- A part of the proof of OpBoth: the law returns true for every input, and its arguments read as before. No condition. -/
import Derived.Test.YtigkkdoljkhcfaaGreatOpBothF
set_option linter.unusedSimpArgs false
set_option linter.unusedVariables false
set_option linter.unusedSectionVars false
set_option maxRecDepth 100000
noncomputable section
namespace Go.Rx
open Go.Proofs
theorem qeR {α:Type} {l:List α} {d:α} {P:α→Prop}:(∀ k,k < l.length→P (l.getD k d))↔∀ x∈l,P x:=by
 constructor
 ·intro h x hx
  obtain ⟨i,hi,rfl⟩:=List.getElem_of_mem hx
  have:=h i hi
  rw [List.getD_eq_getElem?_getD,List.getElem?_eq_getElem hi] at this
  exact this
 ·intro h k hk
  rw [List.getD_eq_getElem?_getD,List.getElem?_eq_getElem hk]
  exact h _ (List.getElem_mem hk)
theorem qfv {α:Type} {R:α→α→Prop} (ht:∀ a b c,R a b→R b c→R a c) {d:α} {l:List α}:(∀ k,k + 1 < l.length→R (l.getD k d) (l.getD (k + 1) d))↔l.Pairwise R:=by
 have gd:∀ k (h:k < l.length),l.getD k d=l[k]:=fun k h=>by rw [List.getD_eq_getElem?_getD,List.getElem?_eq_getElem h]; rfl
 rw [List.pairwise_iff_getElem]
 constructor
 ·intro h i j hi hj hij
  have key:∀ m,∀ hm:i + m + 1 < l.length,R l[i] l[i + m + 1]:=by
   intro m
   induction m with
   | zero=>
    intro hm
    have:=h i hm
    rw [gd i hi,gd (i + 1) hm] at this; exact this
   | succ m ih=>
    intro hm
    have h1:=ih (by omega)
    have h2:=h (i + m + 1) hm
    rw [gd (i + m + 1) (by omega),gd (i + m + 1 + 1) hm] at h2
    exact ht _ _ _ h1 h2
  have:=key (j - i - 1) (by omega)
  have e:i + (j - i - 1) + 1=j:=by omega
  simp only [e] at this
  exact this
 ·intro h k hk
  rw [gd k (by omega),gd (k + 1) hk]
  exact h k (k + 1) (by omega) hk (by omega)
abbrev qhy (l:List qb):Prop:=l.Pairwise fun f g=>f.No < g.No
theorem YH {r:qa}:jr r=true↔stB r.qX=true∧(r.F≠[]∨r.qX≠zSt)∧qhy r.F∧∀ f∈r.F,0≤f.No∧f.No < 8∧K2 f.C=true∧slB r.qX f.C.S=true:=by
 have hne:r.F.length≠0↔r.F≠[]:=by
  rw [Ne,Ne,List.length_eq_zero_iff]
 constructor
 ·intro h
  have hr:=X3.1 h
  refine ⟨hr.1,hr.2.1.imp hne.1 id,(qfv (R:=fun f g:qb=>f.No < g.No) (fun a b c h1 h2=>Int.lt_trans h1 h2) (d:=zF)).1 fun k hk=>?_,(qeR (d:=zF)).1 fun k hk=>?_⟩
  ·have:=(Vx.1 (hr.2.2 (k + 1) hk)).1
   rw [if_neg (by omega)] at this
   exact this
  ·have h1:=Vx.1 (hr.2.2 k hk)
   have h2:=qxz h k hk
   exact ⟨by omega,h1.2.1,h1.2.2.1,h1.2.2.2⟩
 ·rintro ⟨h1,h2,h3,h4⟩
  refine X3.2 ⟨h1,h2.imp hne.2 id,fun k hk=>Vx.2 ⟨?_,?_⟩⟩
  ·by_cases h0:k=0
   ·rw [if_pos h0]; exact ((qeR (d:=zF)).2 h4 k hk).1
   ·rw [if_neg h0]
    have:=(qfv (R:=fun f g:qb=>f.No < g.No) (fun a b c h1 h2=>Int.lt_trans h1 h2) (d:=zF)).2 h3 (k - 1) (by omega)
    rw [show k - 1 + 1=k by omega] at this
    exact this
  ·have:=(qeR (d:=zF)).2 h4 k hk
   exact this.2
theorem qbn {g:Int→Option qc} {dead:qe}:∀ {m k:Nat} {f:qb},f∈QZ g dead m k→(k:Int)≤f.No∧f.No < ((k + m:Nat):Int)∧g f.No=some f.C∧slB dead f.C.S=true
 | 0,_,_,h=>absurd h List.not_mem_nil
 | m + 1,k,f,h=>by
  unfold QZ at h
  rcases List.mem_append.1 h with h | h
  ·cases e:g (k:Int) with
   | none=>rw [e] at h; exact absurd h List.not_mem_nil
   | some c=>
    rw [e] at h
    have h:f∈(if slB dead c.S=true then [qb.mk (k:Int) c] else []):=h
    split at h
    ·rename_i hs
     obtain rfl:=List.mem_singleton.1 h
     exact ⟨Int.le_refl _,by show (k:Int) < _; omega,e,hs⟩
    ·exact absurd h List.not_mem_nil
  ·have:=qbn h
   exact ⟨by omega,by omega,this.2.2⟩
theorem qjB {g:Int→Option qc} {dead:qe}:∀ {m k:Nat},qhy (QZ g dead m k)
 | 0,_=>List.Pairwise.nil
 | m + 1,k=>by
  unfold QZ
  refine List.pairwise_append.2 ⟨?_,qjB,fun a ha b hb=>?_⟩
  ·have:=qtw (dead:=dead) (k:=k) (c:=g (k:Int))
   match hk:qfq dead k (g (k:Int)),this with
   | [],_=>exact List.Pairwise.nil
   | [x],_=>exact List.pairwise_singleton _ _
  ·have h1:=qbn hb
   cases e:g (k:Int) with
   | none=>rw [e] at ha; exact absurd ha List.not_mem_nil
   | some c=>
    rw [e] at ha
    have ha:a∈(if slB dead c.S=true then [qb.mk (k:Int) c] else []):=ha
    split at ha
    ·obtain rfl:=List.mem_singleton.1 ha
     show (k:Int) < b.No
     omega
    ·exact absurd ha List.not_mem_nil
theorem qCV {l:List qb} (h:qhy l) {f:qb} (hf:f∈l):cO l f.No=some f.C:=by
 induction l with
 | nil=>exact absurd hf List.not_mem_nil
 | cons x l ih=>
  rw [JZ]
  have hp:=List.pairwise_cons.1 h
  rcases List.mem_cons.1 hf with rfl | hf
  ·rw [if_pos rfl]
  ·have:=hp.1 f hf
   rw [if_neg (by omega),ih hp.2 hf]
theorem qol {r:qa} (h:jr r=true) {no:Int} {c:qc} (hc:cO r.F no=some c):0≤no∧no < 8∧K2 c=true∧slB r.qX c.S=true:=by
 obtain ⟨f,hf,rfl,rfl⟩:=qaP hc
 exact (YH.1 h).2.2.2 f hf
theorem qEK {g:Int→Option qc} {dead:qe} {no:Int} (h0:0≤no) (h8:no < 8):cO (QZ g dead 8 0) no=(g no).filter fun c=>slB dead c.S:=by
 have key:∀ (m k:Nat),(k:Int)≤no→no < ((k + m:Nat):Int)→cO (QZ g dead m k) no=(g no).filter fun c=>slB dead c.S:=by
  intro m
  induction m with
  | zero=>intro k h1 h2; omega
  | succ m ih=>
   intro k h1 h2
   unfold QZ
   have app:∀ (a b:List qb),cO (a++b) no=(cO a no).or (cO b no):=by
    intro a b
    unfold cO
    rw [List.find?_append]
    cases List.find? (fun f:qb=>decide (f.No=no)) a<;>rfl
   rw [app]
   by_cases e:no=(k:Int)
   ·subst e
    have hn:cO (QZ g dead m (k + 1)) (k:Int)=none:=by
     cases hc:cO (QZ g dead m (k + 1)) (k:Int) with
     | none=>rfl
     | some c=>
      obtain ⟨f,hf,h3,_⟩:=qaP hc
      have:=(qbn hf).1
      omega
    rw [hn]
    cases hg:g (k:Int) with
    | none=>rfl
    | some c=>
     show (cO (if slB dead c.S=true then [qb.mk (k:Int) c] else []) (k:Int)).or none=_
     rw [Option.or_none]
     by_cases hs:slB dead c.S=true
     ·rw [if_pos hs,JZ,if_pos (show (qb.mk (k:Int) c).No=(k:Int) from rfl),Option.filter_some,if_pos hs]; rfl
     ·rw [if_neg hs,qhB,Option.filter_some,if_neg hs]
   ·have hn : cO (qfq dead k (g (k : Int))) no = none := by
       cases hg:g (k:Int) with
       | none=>rfl
       | some c=>
        show cO (if slB dead c.S=true then [qb.mk (k:Int) c] else []) no=none
        by_cases hs:slB dead c.S=true
        ·rw [if_pos hs,JZ,if_neg (fun h=>e h.symm),qhB]
        ·rw [if_neg hs,qhB]
    rw [hn,Option.none_or,ih (k + 1) (by omega) (by omega)]
 exact key 8 0 (by omega) (by omega)
theorem qI_ (a b:qe):mxS a b=a∨mxS a b=b:=by
 unfold mxS
 split
 ·exact .inr rfl
 ·exact .inl rfl
theorem qxM {s:qe} (h:stB s=true) (hz:s≠zSt):slB zSt s=true:=by
 unfold stB at h
 rw [decide_eq_false hz] at h
 simp only [Bool.false_or,Bool.and_eq_true,decide_eq_true_iff] at h
 unfold slB
 exact decide_eq_true (.inl h.1.1.1)
theorem qJ8 {x y:qc}:slB (cJ x y).S x.S=false∧slB (cJ x y).S y.S=false:=by
 unfold cJ
 by_cases h:vm x y=true
 ·rw [if_pos h]
  unfold vm at h
  by_cases e:x.S=y.S
  ·rw [e]; exact ⟨Zo _,Zo _⟩
  ·rw [if_neg e] at h
   rcases Y0 x.S y.S with h1 | h1 | h1
   ·exact ⟨h1.2,Zo _⟩
   ·exact (e h1).elim
   ·rw [h] at h1; simp at h1
 ·rw [if_neg h]
  unfold vm at h
  by_cases e:x.S=y.S
  ·rw [e]; exact ⟨Zo _,Zo _⟩
  ·rw [if_neg e] at h
   rcases Y0 x.S y.S with h1 | h1 | h1
   ·exact (h h1.1).elim
   ·exact (e h1).elim
   ·exact ⟨Zo _,h1.2⟩
theorem qI0 {a b c:qe} (h1:slB b a=false) (h2:slB c a=true):slB c b=true:=by
 rcases Y0 a b with h | h | h
 ·exact qas h2 h.1
 ·subst h; exact h2
 ·rw [h1] at h; simp at h
theorem qxm {a b:qa} (ha:jr a=true) (hb:jr b=true) {no:Int} {c:qc} (h:jC (cO a.F no) (cO b.F no)=some c):0≤no∧no < 8∧K2 c=true:=by
 cases ea:cO a.F no with
 | none=>
  rw [ea] at h
  cases eb:cO b.F no with
  | none=>rw [eb] at h; cases h
  | some y=>
   rw [eb] at h
   obtain rfl:=Option.some.inj h
   have:=qol hb eb; exact ⟨this.1,this.2.1,this.2.2.1⟩
 | some x=>
  have hx:=qol ha ea
  rw [ea] at h
  cases eb:cO b.F no with
  | none=>
   rw [eb] at h
   obtain rfl:=Option.some.inj h
   exact ⟨hx.1,hx.2.1,hx.2.2.1⟩
  | some y=>
   have hy:=qol hb eb
   rw [eb] at h
   obtain rfl:=Option.some.inj h
   refine ⟨hx.1,hx.2.1,?_⟩
   rcases qHD x y with e | e
   ·rw [e]; exact hx.2.2.1
   ·rw [e]; exact hy.2.2.1
theorem qBE (a b:qa):(rJ a b).F=QZ (fun no=>jC (cO a.F no) (cO b.F no)) (mxS a.qX b.qX) 8 0:=rfl
theorem qjl {a b:qa} (ha:jr a=true) (hb:jr b=true) (no:Int):cO (rJ a b).F no=(jC (cO a.F no) (cO b.F no)).filter fun c=>slB (mxS a.qX b.qX) c.S:=by
 by_cases h:0≤no∧no < 8
 ·rw [qBE,qEK h.1 h.2]
 ·have e1 : jC (cO a.F no) (cO b.F no) = none := by
     cases e:jC (cO a.F no) (cO b.F no) with
     | none=>rfl
     | some c=>have:=qxm ha hb e; exact (h ⟨this.1,this.2.1⟩).elim
  rw [e1]
  cases e:cO (rJ a b).F no with
  | none=>rfl
  | some c=>
   obtain ⟨f,hf,h3,_⟩:=qaP e
   rw [qBE] at hf
   have:=qbn (m:=8) (k:=0) hf
   exact (h ⟨by omega,by omega⟩).elim
theorem qJS (a b:qa):(rJ a b).ID=a.ID:=rfl
theorem qmY (a b:qa):(rJ a b).qX=mxS a.qX b.qX:=rfl
theorem qHj {a b:qe} (ha:stB a=true) (hb:stB b=true) (h:mxS a b=zSt):a=zSt∧b=zSt:=by
 by_cases e:b=zSt
 ·subst e
  unfold mxS at h
  by_cases hs:slB a zSt=true
  ·exfalso
   by_cases ea:a=zSt
   ·subst ea; rw [Zo] at hs; simp at hs
   ·have:=qas (qxM ha ea) hs
    rw [Zo] at this; simp at this
  ·rw [if_neg hs] at h; exact ⟨h,rfl⟩
 ·exfalso
  unfold mxS at h
  by_cases hs:slB a b=true
  ·rw [if_pos hs] at h; exact e h
  ·rw [if_neg hs] at h
   subst h
   exact hs (qxM hb e)
theorem JM {a b:qa} (ha:jr a=true) (hb:jr b=true):jr (rJ a b)=true:=by
 have hA:=YH.1 ha
 have hB:=YH.1 hb
 refine YH.2 ⟨?_,?_,by rw [qBE]; exact qjB,fun f hf=>?_⟩
 ·rw [qmY]
  rcases qI_ a.qX b.qX with e | e
  ·rw [e]; exact hA.1
  ·rw [e]; exact hB.1
 ·by_cases hz:(rJ a b).qX=zSt
  ·left
   intro hF
   obtain ⟨za,zb⟩:=qHj hA.1 hB.1 hz
   have hne:a.F≠[]:=hA.2.1.resolve_right (fun h=>h za)
   obtain ⟨f,l,e⟩:=List.exists_cons_of_ne_nil hne
   have hf:f∈a.F:=by rw [e]; exact List.mem_cons_self ..
   have hca:=qCV hA.2.2.1 hf
   have hfl:=(hA.2.2.2 f hf).2.2.2
   have hn:cO (rJ a b).F f.No=none:=by rw [hF]; rfl
   rw [qjl ha hb,hca] at hn
   rw [qmY] at hz
   rw [hz] at hn
   rw [za] at hfl
   cases hcb:cO b.F f.No with
   | none=>
    rw [hcb] at hn
    have hn:(some f.C).filter (fun c=>slB zSt c.S)=none:=hn
    rw [Option.filter_some,if_pos hfl] at hn; cases hn
   | some y=>
    rw [hcb] at hn
    have hn:(some (cJ f.C y)).filter (fun c=>slB zSt c.S)=none:=hn
    rw [Option.filter_some,if_pos (qI0 qJ8.1 hfl)] at hn; cases hn
  ·exact .inr hz
 ·rw [qBE] at hf
  have h1:=qbn (m:=8) (k:=0) hf
  have h2:=qxm ha hb h1.2.2.1
  exact ⟨h2.1,h2.2.1,h2.2.2,h1.2.2.2⟩
theorem qqD:∀ {l l':List qb},qhy l→qhy l'→(∀ no,cO l no=cO l' no)→l=l'
 | [],[],_,_,_=>rfl
 | [],y::l',_,h',h=>by
  have:=h y.No
  rw [qhB,JZ,if_pos rfl] at this; cases this
 | x::l,[],hl,_,h=>by
  have:=h x.No
  rw [qhB,JZ,if_pos rfl] at this; cases this
 | x::l,y::l',hl,hl',h=>by
  have pl:=List.pairwise_cons.1 hl
  have pl':=List.pairwise_cons.1 hl'
  have hno:x.No=y.No:=by
   have h1:=h x.No
   rw [JZ,if_pos rfl] at h1
   have h2:=h y.No
   rw [JZ (f:=y),if_pos rfl] at h2
   obtain ⟨f,hf,e,_⟩:=qaP h1.symm
   obtain ⟨g,hg,e',_⟩:=qaP h2
   rcases List.mem_cons.1 hf with rfl | hf
   ·exact e.symm
   ·rcases List.mem_cons.1 hg with rfl | hg
    ·exact e'
    ·have:=pl'.1 f hf
     have:=pl.1 g hg
     omega
  have hc:x.C=y.C:=by
   have h1:=h x.No
   rw [JZ,if_pos rfl,JZ,if_pos hno.symm] at h1
   exact Option.some.inj h1
  have hxy:x=y:=by
   obtain ⟨n,c⟩:=x
   obtain ⟨n',c'⟩:=y
   have hno:n=n':=hno
   have hc:c=c':=hc
   rw [hno,hc]
  subst hxy
  rw [qqD pl.2 pl'.2 fun no=>?_]
  by_cases e:x.No=no
  ·have n1 : cO l no = none := by
      cases hc:cO l no with
      | none=>rfl
      | some c=>
       obtain ⟨f,hf,e',_⟩:=qaP hc
       have:=pl.1 f hf; omega
   have n2:cO l' no=none:=by
    cases hc:cO l' no with
    | none=>rfl
    | some c=>
     obtain ⟨f,hf,e',_⟩:=qaP hc
     have:=pl'.1 f hf; omega
   rw [n1,n2]
  ·have:=h no
   rw [JZ,JZ,if_neg e,if_neg e] at this; exact this
theorem qzU {r s:qa} (hr:jr r=true) (hs:jr s=true) (h1:r.ID=s.ID) (h2:r.qX=s.qX) (h3:∀ no,cO r.F no=cO s.F no):r=s:=by
 have:=qqD (YH.1 hr).2.2.1 (YH.1 hs).2.2.1 h3
 obtain ⟨a,b,c⟩:=r
 obtain ⟨a',b',c'⟩:=s
 have h1:a=a':=h1
 have h2:b=b':=h2
 have this:c=c':=this
 rw [h1,h2,this]
def rO (l:List qa) (id:Vector UInt8 16):Option qa:=l.find? fun r=>decide (r.ID=id)
theorem qxD {id:Vector UInt8 16}:rO [] id=none:=rfl
theorem Y1 {r:qa} {l:List qa} {id:Vector UInt8 16}:rO (r::l) id=if r.ID=id then some r else rO l id:=by
 unfold rO
 rw [List.find?_cons]
 by_cases h:r.ID=id
 ·rw [decide_eq_true h,if_pos h]
 ·rw [decide_eq_false h,if_neg h]
theorem ZY {l:List qa} {id:Vector UInt8 16} {r:qa} (h:rO l id=some r):r∈l∧r.ID=id:=
 ⟨List.mem_of_find?_eq_some h,of_decide_eq_true (List.find?_some (p:=fun r:qa=>decide (r.ID=id)) h)⟩
abbrev qb8 (l:List qa):Prop:=l.Pairwise fun a b=>lbB a.ID b.ID=true
def qp2 (l:List qa):Prop:=qb8 l∧∀ r∈l,jr r=true
theorem Vg {b:qd}:zX b=true↔qp2 b.R∧b.R.length≤10:=by
 rw [qcJ]
 refine and_congr ?_ Iff.rfl
 have ht:∀ a b c:qa,lbB a.ID b.ID=true→lbB b.ID c.ID=true→lbB a.ID c.ID=true:=fun _ _ _ h1 h2=>qlR h1 h2
 constructor
 ·intro h
  refine ⟨(qfv (R:=fun a b:qa=>lbB a.ID b.ID=true) ht (d:=zR)).1 fun k hk=>?_,(qeR (d:=zR)).1 fun k hk=>(h k hk).1⟩
  rcases (h (k + 1) hk).2 with e | e
  ·omega
  ·exact e
 ·rintro ⟨h1,h2⟩ k hk
  refine ⟨(qeR (d:=zR)).2 h2 k hk,?_⟩
  by_cases h0:k=0
  ·exact .inl h0
  ·have:=(qfv (R:=fun a b:qa=>lbB a.ID b.ID=true) ht (d:=zR)).2 h1 (k - 1) (by omega)
   rw [show k - 1 + 1=k by omega] at this
   exact .inr this
theorem qDI {l:List qa} (h:qb8 l) {r:qa} (hr:r∈l):rO l r.ID=some r:=by
 induction l with
 | nil=>exact absurd hr List.not_mem_nil
 | cons x l ih=>
  rw [Y1]
  have hp:=List.pairwise_cons.1 h
  rcases List.mem_cons.1 hr with rfl | hr
  ·rw [if_pos rfl]
  ·have:=hp.1 r hr
   rw [if_neg (fun e=>by rw [e,qel] at this; cases this),ih hp.2 hr]
theorem qwe:∀ {l l':List qa},qb8 l→qb8 l'→(∀ id,rO l id=rO l' id)→l=l'
 | [],[],_,_,_=>rfl
 | [],y::l',_,h',h=>by
  have:=h y.ID
  rw [qxD,Y1,if_pos rfl] at this; cases this
 | x::l,[],hl,_,h=>by
  have:=h x.ID
  rw [qxD,Y1,if_pos rfl] at this; cases this
 | x::l,y::l',hl,hl',h=>by
  have pl:=List.pairwise_cons.1 hl
  have pl':=List.pairwise_cons.1 hl'
  have h1:=h x.ID
  rw [Y1,if_pos rfl] at h1
  have h2:=h y.ID
  rw [Y1 (r:=y),if_pos rfl] at h2
  have hxy:x=y:=by
   rcases List.mem_cons.1 (ZY h1.symm).1 with e | hf
   ·exact e
   ·rcases List.mem_cons.1 (ZY h2).1 with e | hg
    ·exact e.symm
    ·have a1:=pl'.1 x hf
     have a2:=pl.1 y hg
     have:=qlR a1 a2
     rw [qel] at this; cases this
  subst hxy
  rw [qwe pl.2 pl'.2 fun id=>?_]
  by_cases e:x.ID=id
  ·have n1 : rO l id = none := by
      cases hc:rO l id with
      | none=>rfl
      | some c=>
       have:=pl.1 c (ZY hc).1
       rw [e,(ZY hc).2,qel] at this; cases this
   have n2:rO l' id=none:=by
    cases hc:rO l' id with
    | none=>rfl
    | some c=>
     have:=pl'.1 c (ZY hc).1
     rw [e,(ZY hc).2,qel] at this; cases this
   rw [n1,n2]
  ·have:=h id
   rw [Y1,Y1,if_neg e,if_neg e] at this; exact this
def jR:Option qa→Option qa→Option qa
 | some x,some y=>some (rJ x y)
 | some x,none=>some x
 | none,y=>y
def qqB (a b c:List qa):Prop:=qb8 c∧∀ id,rO c id=jR (rO a id) (rO b id)
theorem qEO {a b c:List qa} (ha:qp2 a) (hb:qp2 b) (h:qqB a b c):qp2 c:=by
 refine ⟨h.1,fun r hr=>?_⟩
 have e:=h.2 r.ID
 rw [qDI h.1 hr] at e
 cases ea:rO a r.ID with
 | none=>
  rw [ea] at e
  have e:some r=rO b r.ID:=e
  exact hb.2 r (ZY e.symm).1
 | some x=>
  rw [ea] at e
  cases eb:rO b r.ID with
  | none=>
   rw [eb] at e
   obtain rfl:=Option.some.inj e
   exact ha.2 r (ZY ea).1
  | some y=>
   rw [eb] at e
   obtain rfl:=Option.some.inj e
   exact JM (ha.2 x (ZY ea).1) (hb.2 y (ZY eb).1)
end Go.Rx
end
set_option maxRecDepth 100000
noncomputable section
namespace Go.Rx
open Go.Proofs
theorem qH3 {a b:qc} (h1:a.S=b.S) (h2:a.V=b.V):a=b:=by
 obtain ⟨s,v⟩:=a
 obtain ⟨s',v'⟩:=b
 have h1:s=s':=h1
 have h2:v=v':=h2
 rw [h1,h2]
theorem qId (a b:Vector UInt8 32):(ltD a b=true∧ltD b a=false)∨a=b∨(ltD b a=true∧ltD a b=false):=by
 rcases qd7 a.toList b.toList with h | h | h
 ·exact .inl h
 ·exact .inr (.inl (Vector.toList_inj.1 h))
 ·exact .inr (.inr h)
theorem qth (a b:qc):(vm a b=true∧vm b a=false)∨a=b∨(vm b a=true∧vm a b=false):=by
 unfold vm
 by_cases h1:a.S=b.S
 ·rw [if_pos h1,if_pos h1.symm]
  by_cases h2:Q5 a.V=Q5 b.V
  ·rw [if_pos h2,if_pos h2.symm]
   rcases qd7 a.V b.V with h | h | h
   ·exact .inl h
   ·exact .inr (.inl (qH3 h1 h))
   ·exact .inr (.inr h)
  ·rw [if_neg h2,if_neg (fun h=>h2 h.symm)]
   rcases qId (Q5 a.V) (Q5 b.V) with h | h | h
   ·exact .inl h
   ·exact (h2 h).elim
   ·exact .inr (.inr h)
 ·rw [if_neg h1,if_neg (fun h=>h1 h.symm)]
  rcases Y0 a.S b.S with h | h | h
  ·exact .inl h
  ·exact (h1 h).elim
  ·exact .inr (.inr h)
theorem qDj {a b c:Vector UInt8 32} (h1:ltD a b=true) (h2:ltD b c=true):ltD a c=true:=qkI h1 h2
theorem qJo {a b:Vector UInt8 32} (h:ltD a b=true):a≠b:=fun e=>by subst e; unfold ltD at h; rw [Wr] at h; cases h
theorem qJJ {a b:qe} (h:slB a b=true):a≠b:=fun e=>by subst e; rw [Zo] at h; cases h
theorem qnH {a b c:qc} (h1:vm a b=true) (h2:vm b c=true):vm a c=true:=by
 unfold vm at *
 by_cases e1:a.S=b.S
 ·by_cases e2:b.S=c.S
  ·rw [if_pos e1] at h1
   rw [if_pos e2] at h2
   rw [if_pos (e1.trans e2)]
   by_cases d1:Q5 a.V=Q5 b.V
   ·by_cases d2:Q5 b.V=Q5 c.V
    ·rw [if_pos d1] at h1
     rw [if_pos d2] at h2
     rw [if_pos (d1.trans d2)]
     exact qkI h1 h2
    ·rw [if_neg d2] at h2
     rw [if_neg (fun h=>d2 (d1.symm.trans h)),d1]
     exact h2
   ·rw [if_neg d1] at h1
    by_cases d2:Q5 b.V=Q5 c.V
    ·rw [if_neg (fun h=>d1 (h.trans d2.symm)),← d2]
     exact h1
    ·rw [if_neg d2] at h2
     have:=qDj h1 h2
     rw [if_neg (qJo this)]
     exact this
  ·rw [if_neg e2] at h2
   rw [if_neg (fun h=>e2 (e1.symm.trans h)),e1]
   exact h2
 ·rw [if_neg e1] at h1
  by_cases e2:b.S=c.S
  ·rw [if_neg (fun h=>e1 (h.trans e2.symm)),← e2]
   exact h1
  ·rw [if_neg e2] at h2
   have:=qas h1 h2
   rw [if_neg (qJJ this)]
   exact this
theorem qcP {a b:qc} (h:vm a b=true):cJ a b=b:=if_pos h
theorem qcv {a b:qc} (h:vm a b=false):cJ a b=a:=if_neg (by rw [h]; simp)
theorem qIh (a b:qc):cJ a b=cJ b a:=by
 rcases qth a b with h | h | h
 ·rw [qcP h.1,qcv h.2]
 ·subst h; rfl
 ·rw [qcv h.2,qcP h.1]
theorem qG3 (a b c:qc):cJ (cJ a b) c=cJ a (cJ b c):=by
 cases h1:vm a b with
 | true=>
  rw [qcP h1]
  cases h2:vm b c with
  | true=>rw [qcP h2,qcP (qnH h1 h2)]
  | false=>rw [qcv h2,qcP h1]
 | false=>
  rw [qcv h1]
  cases h2:vm b c with
  | true=>rw [qcP h2]
  | false=>
   rw [qcv h2,qcv h1]
   refine qcv ?_
   cases h3:vm a c with
   | false=>rfl
   | true=>
    rcases qth a b with h | h | h
    ·rw [h1] at h; exact absurd h.1 (by simp)
    ·subst h; rw [h3] at h2; cases h2
    ·have:=qnH h.1 h3; rw [h2] at this; cases this
theorem qsD (o p:Option qc):jC o p=jC p o:=by
 cases o<;>cases p<;>first | rfl | exact congrArg some (qIh _ _)
theorem qGP (o p q:Option qc):jC (jC o p) q=jC o (jC p q):=by
 cases o<;>cases p<;>cases q<;>first | rfl | exact congrArg some (qG3 _ _ _)
theorem qaO {a b:qe} (h:slB a b=true):mxS a b=b:=if_pos h
theorem YY {a b:qe} (h:slB a b=false):mxS a b=a:=if_neg (by rw [h]; simp)
theorem qG0 (a:qe):mxS a a=a:=YY (Zo a)
theorem qoR (a b:qe):mxS a b=mxS b a:=by
 rcases Y0 a b with h | h | h
 ·rw [qaO h.1,YY h.2]
 ·subst h; rfl
 ·rw [YY h.2,qaO h.1]
theorem qtg (a b c:qe):mxS (mxS a b) c=mxS a (mxS b c):=by
 cases h1:slB a b with
 | true=>
  rw [qaO h1]
  cases h2:slB b c with
  | true=>rw [qaO h2,qaO (qas h1 h2)]
  | false=>rw [YY h2,qaO h1]
 | false=>
  rw [YY h1]
  cases h2:slB b c with
  | true=>rw [qaO h2]
  | false=>
   rw [YY h2,YY h1]
   refine YY ?_
   cases h3:slB a c with
   | false=>rfl
   | true=>
    rcases Y0 a b with h | h | h
    ·rw [h1] at h; exact absurd h.1 (by simp)
    ·subst h; rw [h3] at h2; cases h2
    ·have:=qas h.1 h3; rw [h2] at this; cases this
theorem qCF (a b:qe):slB (mxS a b) a=false:=by
 rcases Y0 a b with h | h | h
 ·rw [qaO h.1]; exact h.2
 ·subst h; rw [qG0,Zo]
 ·rw [YY h.2,Zo]
abbrev fl (d:qe) (o:Option qc):Option qc:=o.filter fun c=>slB d c.S
theorem qmX {d:qe} {c:qc}:fl d (some c)=if slB d c.S=true then some c else none:=by
 show Option.filter _ (some c)=_
 rw [Option.filter_some]
theorem qHU {a b:qc} (h:vm a b=false):slB a.S b.S=false:=by
 unfold vm at h
 by_cases e:a.S=b.S
 ·rw [e,Zo]
 ·rw [if_neg e] at h; exact h
theorem qq_ {a b c:qe} (h1:slB a b=false) (h2:slB b c=false):slB a c=false:=by
 cases h:slB a c with
 | false=>rfl
 | true=>
  rcases Y0 a b with h' | h' | h'
  ·rw [h1] at h'; exact absurd h'.1 (by simp)
  ·subst h'; rw [h] at h2; cases h2
  ·have:=qas h'.1 h; rw [h2] at this; cases this
theorem qzz {d d1:qe} (hd:slB d d1=false) (u z:Option qc):fl d (jC (fl d1 u) z)=fl d (jC u z):=by
 cases u with
 | none=>rfl
 | some c=>
  rw [qmX]
  by_cases h:slB d1 c.S=true
  ·rw [if_pos h]
  ·rw [if_neg h]
   have hc:slB d c.S=false:=qq_ hd (by cases e:slB d1 c.S with | false=>rfl | true=>exact (h e).elim)
   cases z with
   | none=>
    show none=fl d (some c)
    rw [qmX,if_neg (by rw [hc]; simp)]
   | some y=>
    show fl d (some y)=fl d (some (cJ c y))
    cases hl:vm c y with
    | true=>rw [qcP hl]
    | false=>
     have:slB d y.S=false:=qq_ hc (qHU hl)
     rw [qcv hl,qmX,qmX,if_neg (by rw [this]; simp),if_neg (by rw [hc]; simp)]
theorem qFk {d d1:qe} (hd:slB d d1=false) (u z:Option qc):fl d (jC z (fl d1 u))=fl d (jC z u):=by
 rw [qsD,qzz hd,qsD]
theorem qIw {r s:qa} (h:jr r=true) (h':jr s=true) (hid:r.ID=s.ID):rJ r s=rJ s r:=
 qzU (JM h h') (JM h' h) hid (qoR _ _) fun no=>by rw [qjl h h',qjl h' h,qsD,qoR]
theorem qHe {r s t:qa} (h:jr r=true) (h':jr s=true) (h'':jr t=true):rJ (rJ r s) t=rJ r (rJ s t):=
 qzU (JM (JM h h') h'') (JM h (JM h' h'')) rfl (qtg _ _ _) fun no=>by
  rw [qjl (JM h h') h'',qjl h (JM h' h''),qjl h h',qjl h' h'',qmY,qmY]
  have e1:=qzz (d:=mxS (mxS r.qX s.qX) t.qX) (d1:=mxS r.qX s.qX) (qCF _ _) (jC (cO r.F no) (cO s.F no)) (cO t.F no)
  have e2:=qFk (d:=mxS r.qX (mxS s.qX t.qX)) (d1:=mxS s.qX t.qX) (by rw [qoR]; exact qCF _ _) (jC (cO s.F no) (cO t.F no)) (cO r.F no)
  show fl (mxS (mxS r.qX s.qX) t.qX) (jC (fl (mxS r.qX s.qX) (jC (cO r.F no) (cO s.F no))) (cO t.F no))=fl (mxS r.qX (mxS s.qX t.qX)) (jC (cO r.F no) (fl (mxS s.qX t.qX) (jC (cO s.F no) (cO t.F no))))
  rw [e1,e2,qtg,qGP]
def VO (id:Vector UInt8 16) (o:Option qa):Prop:=∀ r,o=some r→jr r=true∧r.ID=id
theorem qIn {id:Vector UInt8 16}:VO id none:=fun _ h=>by cases h
theorem qHK {l:List qa} (h:∀ r∈l,jr r=true) (id:Vector UInt8 16):VO id (rO l id):=fun r hr=>⟨h r (ZY hr).1,(ZY hr).2⟩
theorem qu2 {id:Vector UInt8 16} {o p:Option qa} (ho:VO id o) (hp:VO id p):VO id (jR o p):=by
 cases o with
 | none=>exact hp
 | some r=>
  cases p with
  | none=>exact ho
  | some s=>
   intro t ht
   obtain rfl:=Option.some.inj ht
   exact ⟨JM (ho r rfl).1 (hp s rfl).1,(ho r rfl).2⟩
theorem qIS {id:Vector UInt8 16} {o p:Option qa} (ho:VO id o) (hp:VO id p):jR o p=jR p o:=by
 cases o with
 | none=>cases p<;>rfl
 | some r=>
  cases p with
  | none=>rfl
  | some s=>exact congrArg some (qIw (ho r rfl).1 (hp s rfl).1 ((ho r rfl).2.trans (hp s rfl).2.symm))
theorem qxh {id:Vector UInt8 16} {o p q:Option qa} (ho:VO id o) (hp:VO id p) (hq:VO id q):jR (jR o p) q=jR o (jR p q):=by
 cases o with
 | none=>rfl
 | some r=>
  cases p with
  | none=>rfl
  | some s=>
   cases q with
   | none=>rfl
   | some t=>exact congrArg some (qHe (ho r rfl).1 (hp s rfl).1 (hq t rfl).1)
end Go.Rx
end
set_option maxRecDepth 100000
noncomputable section
namespace Go.Rx
open Go.Proofs
open Go.Lib (compareBytes)
section g
variable {α:Type}
theorem qvW {p q:List α} {x:α} {n:Nat} (h:(p++x::q).length=n):Kn (p++x::q) n p.length=some x:=by
 unfold Kn
 rw [if_pos h,List.getElem?_append_right (Nat.le_refl _),Nat.sub_self]; rfl
theorem qsx {x y:α} {q:List α}:∀ {p:List α},(p++x::q).set p.length y=p++y::q
 | []=>rfl
 | z::p=>by
  show z::(p++x::q).set p.length y=_
  rw [qsx]; rfl
end g
def VT (rp:List (Vector UInt8 16)) (x:Vector UInt8 16) (q:List (Vector UInt8 16)):List (Vector UInt8 16):=match rp with
 | []=>x::q
 | y::r=>if lbB x y=true then VT r x (y::q) else (y::r).reverse++x::q
def vK (l:List (Vector UInt8 16)):List (Vector UInt8 16):=l.foldl (fun p x=>VT p.reverse x []) []
theorem ql4 {x:Vector UInt8 16}:∀ {rp q:List (Vector UInt8 16)},(VT rp x q).Perm (x::(rp++q))
 | [],q=>List.Perm.refl _
 | y::r,q=>by
  unfold VT
  split
  ·exact ql4.trans (List.Perm.cons _ List.perm_middle)
  ·exact List.perm_middle.trans (List.Perm.cons _ ((List.reverse_perm _).append_right _))
theorem qta {x:Vector UInt8 16} {s:List (Vector UInt8 16)}:∀ {rp q:List (Vector UInt8 16)},VT rp x (q++s)=VT rp x q++s
 | [],q=>rfl
 | y::r,q=>by
  unfold VT
  split
  ·exact qta (q:=y::q)
  ·rw [List.append_assoc]; rfl
abbrev qd5 (l:List (Vector UInt8 16)):Prop:=l.Pairwise fun a b=>lbB a b=true
theorem qnN {x:Vector UInt8 16}:∀ {rp q:List (Vector UInt8 16)},qd5 (rp.reverse++q)→(∀ y∈q,lbB x y=true)→x∉rp→qd5 (VT rp x q)
 | [],q,h,hq,_=>List.pairwise_cons.2 ⟨hq,h⟩
 | y::r,q,h,hq,hx=>by
  rw [List.mem_cons,not_or] at hx
  unfold VT
  split
  ·rename_i hlt
   refine qnN (rp:=r) (q:=y::q) ?_ (fun z hz=>?_) hx.2
   ·rw [List.reverse_cons,List.append_assoc] at h; exact h
   ·rcases List.mem_cons.1 hz with rfl | hz
    ·exact hlt
    ·exact hq z hz
  ·rename_i hlt
   have hyx:lbB y x=true:=by
    rcases qIL x y with h1 | h1 | h1
    ·exact (hlt h1.1).elim
    ·exact (hx.1 h1).elim
    ·exact h1.1
   obtain ⟨h1,h2,h3⟩:=List.pairwise_append.1 h
   refine List.pairwise_append.2 ⟨h1,List.pairwise_cons.2 ⟨hq,h2⟩,fun a ha b hb=>?_⟩
   have hay:lbB a x=true:=by
    rw [List.reverse_cons,List.mem_append,List.mem_singleton] at ha
    rcases ha with ha | rfl
    ·rw [List.reverse_cons] at h1
     exact qlR ((List.pairwise_append.1 h1).2.2 a ha y (List.mem_singleton.2 rfl)) hyx
    ·exact hyx
   rcases List.mem_cons.1 hb with rfl | hb
   ·exact hay
   ·exact h3 a ha b hb
theorem qtD:∀ {l p:List (Vector UInt8 16)},qd5 p→(p++l).Nodup→qd5 (l.foldl (fun p x=>VT p.reverse x []) p)∧(l.foldl (fun p x=>VT p.reverse x []) p).Perm (p++l)
 | [],p,h,_=>⟨h,by rw [List.append_nil]; exact List.Perm.refl _⟩
 | x::l,p,h,hn=>by
  have hp:(VT p.reverse x []).Perm (x::p):=ql4.trans (List.Perm.cons _ (by rw [List.append_nil]; exact List.reverse_perm _))
  have hx:x∉p:=fun hx=>by
   have:=(List.nodup_append.1 hn).2.2 x hx x (List.mem_cons_self ..)
   exact this rfl
  have hs:qd5 (VT p.reverse x []):=qnN (by rw [List.reverse_reverse,List.append_nil]; exact h) (fun y hy=>absurd hy (List.not_mem_nil)) (by rw [List.mem_reverse]; exact hx)
  have hpl:(VT p.reverse x []++l).Perm (p++x::l):=(hp.append_right l).trans List.perm_middle.symm
  obtain ⟨h1,h2⟩:=qtD (l:=l) hs (hpl.nodup_iff.2 hn)
  exact ⟨h1,h2.trans hpl⟩
theorem qHq {l:List (Vector UInt8 16)} (h:l.Nodup):qd5 (vK l)∧(vK l).Perm l:=by
 have:=qtD (l:=l) (p:=[]) List.Pairwise.nil (by simpa using h)
 rw [List.nil_append] at this
 exact this
section
variable {N:Nat} [Zs N]
theorem qGR (a b:Vector UInt8 16):∃ n:Int,qef a b=some n∧decide (n < 0)=lbB a b:=by
 refine ⟨compareBytes a.toList b.toList,rfl,?_⟩
 rw [qmS]; rfl
theorem qzp {s2 s8 : Int} : ∀ (rp : List (Vector UInt8 16)) (x : Vector UInt8 16) (q : List (Vector UInt8 16)) (n m : Nat), (rp.reverse ++ x :: q).length = n → n ≤ 1000 → rp.length < m →
    ∃ j b,q6 (ja N n 0 s2 s8) some m (rp.reverse++x::q,(rp.length:Int))=some (VT rp x q,j,b)
 | _,_,_,_,0,_,_,hm=>by omega
 | [],x,q,n,m + 1,hn,hs,hm=>by
  refine ⟨((0:Nat):Int),false,?_⟩
  rw [zM (x:=(([]:List (Vector UInt8 16)).reverse++x::q,((0:Nat):Int),false)) (by unfold ja; exact w_f rfl (qE rfl)) m]
  rfl
 | y::r,x,q,n,m + 1,hn,hs,hm=>by
  have hl:(y::r).reverse.length=r.length + 1:=by simp
  have e0:(y::r).reverse++x::q=r.reverse++y::(x::q):=by rw [List.reverse_cons,List.append_assoc]; rfl
  have hrl:r.reverse.length=r.length:=List.length_reverse
  have hnl:r.length + 1 < n:=by rw [← hn,List.length_append,hl,List.length_cons]; omega
  obtain ⟨c,hc,hlt⟩:=qGR x y
  have c0:(0:Int)≤((r.length + 1:Nat):Int)∧((r.length + 1:Nat):Int) < ((n:Nat):Int):=by omega
  have c1:qz (((r.length + 1:Nat):Int) - 1):=by unfold qz; omega
  have c2:(0:Int)≤((r.length + 1:Nat):Int) - 1∧((r.length + 1:Nat):Int) - 1 < ((n:Nat):Int):=by omega
  have g1:Kn ((y::r).reverse++x::q) n (((r.length + 1:Nat):Int)).toNat=some x:=by
   have:=qvW (p:=(y::r).reverse) (x:=x) (q:=q) hn
   rw [hl] at this; exact this
  have t1:(((r.length + 1:Nat):Int) - 1).toNat=r.length:=by omega
  have g2:Kn ((y::r).reverse++x::q) n (((r.length + 1:Nat):Int) - 1).toNat=some y:=by
   rw [t1,e0]
   have:=qvW (p:=r.reverse) (x:=y) (q:=x::q) (n:=n) (by rw [← e0]; exact hn)
   rw [hrl] at this; exact this
  cases hb:lbB x y with
  | false=>
   refine ⟨((r.length + 1:Nat):Int),decide (c < 0),?_⟩
   rw [zM (x:=((y::r).reverse++x::q,((r.length + 1:Nat):Int),decide (c < 0))) (by
    unfold ja
    exact w_t (decide_eq_true (by show (0:Int) < ((r.length + 1:Nat):Int); omega)) (zd c0 (qB g1 (zd c1 (zd c2 (qB g2 (qB hc (w_f (hlt.trans hb) (qE rfl)))))))) ) m]
   unfold VT
   rw [if_neg (by rw [hb]; simp)]
  | true=>
   obtain ⟨j,b,h⟩:=qzp r x (y::q) n m (by rw [← hn,e0]; simp) hs (by simp at hm; omega)
   refine ⟨j,b,?_⟩
   have s1:((y::r).reverse++x::q).set (((r.length + 1:Nat):Int)).toNat y=(y::r).reverse++y::q:=by
    have:=qsx (p:=(y::r).reverse) (x:=x) (y:=y) (q:=q)
    rw [hl] at this; exact this
   have s2:((y::r).reverse++y::q).set (((r.length + 1:Nat):Int) - 1).toNat x=r.reverse++x::(y::q):=by
    rw [t1,show (y::r).reverse++y::q=r.reverse++y::(y::q) by rw [List.reverse_cons,List.append_assoc]; rfl]
    have:=qsx (p:=r.reverse) (x:=y) (y:=x) (q:=y::q)
    rw [hrl] at this; exact this
   have v1:qfS ((y::r).reverse++x::q).length n (((r.length + 1:Nat):Int)).toNat:=⟨hn,by omega⟩
   have v2:qfS (((y::r).reverse++x::q).set (((r.length + 1:Nat):Int)).toNat y).length n (((r.length + 1:Nat):Int) - 1).toNat:=⟨by rw [List.length_set]; exact hn,by omega⟩
   rw [Jt (v':=(r.reverse++x::(y::q),(r.length:Int))) (by
    unfold ja
    refine w_t (decide_eq_true (by show (0:Int) < ((r.length + 1:Nat):Int); omega)) (zd c0 (qB g1 (zd c1 (zd c2 (qB g2 (qB hc (w_t (hlt.trans hb) (zd c1 (zd c1 (zd c2 (qB g2 (zd c0 (qB g1 (zd c0 (zd v1 (zd c2 (zd v2 (zd c1 (qE ?_)))))))))))))))))))
    show some (Sum.inl ((((y::r).reverse++x::q).set (((r.length + 1:Nat):Int)).toNat y).set (((r.length + 1:Nat):Int) - 1).toNat x,((r.length + 1:Nat):Int) - 1))=_
    rw [s1,s2,show ((r.length + 1:Nat):Int) - 1=(r.length:Int) by omega]) m]
   unfold VT
   rw [if_pos hb]
   exact h
theorem qAI {l:List (Vector UInt8 16)} (hs:l.length≤1000) (h0:l≠[]):zK N l 0 (l.length:Int)=some (vK l):=by
 have hN:=big N
 have hpos:0 < l.length:=List.length_pos_iff.2 h0
 have key:jJ N l.length 0 (l.length:Int) l 1=some (vK l,(l.length:Int),false):=by
  have h:=qi1 (B:=zr N l.length 0 (l.length:Int)) (g:=some) (I:=fun v=>∃ k:Nat,1≤k∧k≤l.length∧v=(vK (l.take k)++l.drop k,(k:Int))) (Q:=fun y=>y=(vK l,(l.length:Int),false)) (fun v=>l.length - v.2.toNat) ?_ N (l,((1:Nat):Int))
   ⟨1,Nat.le_refl _,hpos,by
    cases l with
    | nil=>exact (h0 rfl).elim
    | cons x r=>rfl⟩ (by simp; omega)
  ·obtain ⟨y,e,rfl⟩:=h
   exact e
  rintro v ⟨k,h1,hk,rfl⟩
  have hlen:∀ j,j≤l.length→(vK (l.take j)).length=j:=by
   intro j hj
   have:∀ (m p:List (Vector UInt8 16)),(m.foldl (fun p x=>VT p.reverse x []) p).length=p.length + m.length:=by
    intro m
    induction m with
    | nil=>intro p; rfl
    | cons x m ih=>
     intro p
     rw [List.foldl_cons,ih,ql4.length_eq]
     simp; omega
   unfold vK
   rw [this]; simp; omega
  by_cases h:k < l.length
  ·left
   have ed:l.drop k=l.getD k (Vector.replicate 16 0)::l.drop (k + 1):=by
    rw [List.drop_eq_getElem_cons h,List.getD_eq_getElem?_getD,List.getElem?_eq_getElem h]; rfl
   have et:vK (l.take (k + 1))=VT (vK (l.take k)).reverse (l.getD k (Vector.replicate 16 0)) []:=by
    unfold vK
    rw [List.take_succ_eq_append_getElem h,List.foldl_append,List.getD_eq_getElem?_getD,List.getElem?_eq_getElem h]; rfl
   have hll:(vK (l.take k)).reverse.length=k:=by rw [List.length_reverse,hlen k hk]
   obtain ⟨j,b,e⟩:=qzp (N:=N) (s2:=(l.length:Int)) (s8:=(k:Int)) (vK (l.take k)).reverse (l.getD k (Vector.replicate 16 0)) (l.drop (k + 1)) l.length N (by
    rw [List.reverse_reverse,← ed,List.length_append,hlen k hk,List.length_drop]; omega) hs (by omega)
   rw [List.reverse_reverse,← ed,hll] at e
   have er:VT (vK (l.take k)).reverse (l.getD k (Vector.replicate 16 0)) (l.drop (k + 1))=vK (l.take (k + 1))++l.drop (k + 1):=by
    rw [et,← qta]; rfl
   rw [er] at e
   refine ⟨(vK (l.take (k + 1))++l.drop (k + 1),((k + 1:Nat):Int)),?_,⟨k + 1,by omega,h,rfl⟩,by simp only [Int.toNat_natCast]; omega⟩
   unfold zr
   exact w_t (dec_lt h) (qB e (zd (Q2 (by omega)) (qE (by rw [zy]))))
  ·right
   obtain rfl:k=l.length:=by omega
   refine ⟨(vK l,(l.length:Int),false),_,?_,rfl,rfl⟩
   unfold zr
   refine w_f (jq (Nat.lt_irrefl _)) (qE ?_)
   dsimp only
   rw [jq (Nat.lt_irrefl _),List.take_of_length_le (Nat.le_refl _),List.drop_of_length_le (Nat.le_refl _),List.append_nil]
 unfold zK jU
 exact zd (by unfold qz; omega) (qB key (qE rfl))
theorem qx2:zK N [] 0 ((([]:List (Vector UInt8 16)).length:Nat):Int)=some []:=by
 have key:jJ N 0 0 ((0:Nat):Int) [] 1=some ([],1,false):=by
  obtain ⟨M,hM⟩:∃ M,N=M + 1:=⟨N - 1,by have:=big N; omega⟩
  show q6 (zr N 0 0 ((0:Nat):Int)) some N ([],1)=_
  have:∀ K,K=M + 1→q6 (zr N 0 0 ((0:Nat):Int)) some K ([],1)=some ([],1,false):=by
   rintro K rfl
   rw [zM (x:=([],1,false)) (by unfold zr; exact w_f rfl (qE rfl))]
  exact this N hM
 unfold zK jU
 exact zd (by unfold qz; omega) (qB key (qE rfl))
theorem qIx {l:List (Vector UInt8 16)} (h:l.length≤12):Vh N l=some (vK l):=by
 have e1:zK N l 0 ((l.length:Nat):Int)=some (vK l):=by
  cases l with
  | nil=>exact qx2
  | cons x r=>exact qAI (by omega) (by simp)
 have e2:∀ z:Int,QU N l 0 ((l.length:Nat):Int) z=some (vK l):=fun z=>by
  have key:ZJ N l 0 ((l.length:Nat):Int) z=some (vK l):=by
   obtain ⟨M,hM⟩:∃ M,N=M + 1:=⟨N - 1,by have:=big N; omega⟩
   show q6 (vB N l 0 ((l.length:Nat):Int) z) some N ()=_
   have:∀ K,K=M + 1→q6 (vB N l 0 ((l.length:Nat):Int) z) some K ()=some (vK l):=by
    rintro K rfl
    rw [zM (x:=vK l) (by unfold vB; exact zd (by unfold qz; omega) (w_t (decide_eq_true (by omega)) (qB ((jF rfl).trans e1) (qE rfl))))]
   exact this N hM
  unfold QU Z_
  exact qB ((jF rfl).trans key) (qE rfl)
 have e3:∃ z,KW (IntKind.u64.wrap ((l.length:Nat):Int))=some z:=by
  rw [qHs (by omega)]
  have:∀ k,k≤12→(KW ((k:Nat):Int)).isSome=true:=by decide +kernel
  exact Option.isSome_iff_exists.1 (this _ h)
 obtain ⟨z,e3⟩:=e3
 unfold Vh XB
 exact qB e3 (qB ((jF rfl).trans (e2 z)) (qE rfl))
end
end Go.Rx
end
set_option maxRecDepth 100000
noncomputable section
namespace Go.Rx
open Go.Proofs
open Go.Lib (compareBytes)
section
variable {N:Nat} [Zs N]
theorem qpO (a b:Vector UInt8 32):qe0 a b=some (ltD a b):=by
 unfold qe0 qiy ltD
 rw [qI,eqD]
 by_cases h:a=b
 ·subst h; rw [decide_eq_true rfl,Wr]; rfl
 ·rw [decide_eq_false h]; rfl
end
end Go.Rx
end
set_option maxRecDepth 100000
noncomputable section
namespace Go.Rx
open Go.Proofs
open Go.Lib (compareBytes)
section
variable {N:Nat} [Zs N]
theorem qFC {x y : Bool} {p : Prop} (h : (x = true ∧ y = false) ∨ p ∨ (y = true ∧ x = false)) (hp : p → x = false ∧ y = false) :
    ∃ n:Int,(Tree.cond x (.ret (-1:Int)) (.cond y (.ret 1) (.ret 0))).run some=some n∧(decide (n=0)=true↔p)∧(¬ p→decide (n < 0)=x):=by
 rcases h with ⟨h1,h2⟩ | h1 | ⟨h1,h2⟩
 ·subst h1; subst h2
  exact ⟨-1,rfl,⟨fun h=>by simp at h,fun h=>by have:=(hp h).1; simp at this⟩,fun _=>rfl⟩
 ·obtain ⟨h2,h3⟩:=hp h1
  subst h2; subst h3
  exact ⟨0,rfl,⟨fun _=>h1,fun _=>rfl⟩,fun h=>(h h1).elim⟩
 ·subst h1; subst h2
  exact ⟨1,rfl,⟨fun h=>by simp at h,fun h=>by have:=(hp h).2; simp at this⟩,fun _=>rfl⟩
theorem qDQ (a b:qe):∃ n:Int,XV N a b=some n∧(decide (n=0)=true↔a=b)∧(a≠b→decide (n < 0)=slB a b):=by
 obtain ⟨n,h1,h2,h3⟩:=qFC (Y0 a b) fun h=>by subst h; exact ⟨Zo a,Zo a⟩
 refine ⟨n,?_,h2,h3⟩
 unfold XV W3
 rw [run_bind,qcu,Option.bind_some,← h1,qI,qI,run_bind,qcu,Option.bind_some]
theorem qCt (a b:Vector UInt8 32):∃ n:Int,VJ a b=some n∧(decide (n=0)=true↔a=b)∧(a≠b→decide (n < 0)=ltD a b):=by
 have ht:(ltD a b=true∧ltD b a=false)∨a=b∨(ltD b a=true∧ltD a b=false):=by
  rcases qd7 a.toList b.toList with h | h | h
  ·exact .inl h
  ·exact .inr (.inl (Vector.toList_inj.1 h))
  ·exact .inr (.inr h)
 obtain ⟨n,h1,h2,h3⟩:=qFC ht fun h=>by subst h; exact ⟨Wr _,Wr _⟩
 refine ⟨n,?_,h2,h3⟩
 unfold VJ Wx
 rw [run_bind,qpO,Option.bind_some,← h1,qI,qI,run_bind,qpO,Option.bind_some]
theorem qIv (a b:List UInt8):∃ n:Int,Vf a b=some n∧(decide (n=0)=true↔a=b)∧(a≠b→decide (n < 0)=ltB a b):=by
 have e:∀ x:List UInt8,XH x=some ():=fun x=>rfl
 have g:(!(Op.bytesLess a b||decide (a=b)))=ltB b a:=by
  rw [qpG]
  rcases qd7 a b with h | h | h
  ·rw [h.1,h.2]; rfl
  ·subst h; rw [decide_eq_true rfl,Wr]; rfl
  ·have:a≠b:=fun e=>by subst e; rw [Wr] at h; simp at h
   rw [h.1,h.2,decide_eq_false this]; rfl
 obtain ⟨n,h1,h2,h3⟩:=qFC (qd7 a b) fun h=>by subst h; exact ⟨Wr _,Wr _⟩
 refine ⟨n,?_,h2,h3⟩
 unfold Vf XE
 refine qB (e a) (qB (e b) (w_f (by rw [decide_eq_true rfl]; rfl) (w_f (by rw [decide_eq_true rfl]; rfl) ?_)))
 rw [← h1,qI,qI,qI,qI,qpG a b,← g,qpG a b]
theorem qFl {a b:qc} (ha:a.V.length≤50000) (hb:b.V.length≤50000):qfT N a b=some (vm a b):=by
 obtain ⟨n1,e1,z1,l1⟩:=qDQ (N:=N) a.S b.S
 obtain ⟨n2,e2,z2,l2⟩:=qCt (Q5 a.V) (Q5 b.V)
 obtain ⟨n3,e3,z3,l3⟩:=qIv a.V b.V
 have f1:qci N a b=some n1:=by unfold qci qc4; exact qB e1 (qE rfl)
 have f2:qcd N a b=some n2:=by unfold qcd qdk; exact qB (qoH ha) (qB (qoH hb) (qB e2 (qE rfl)))
 have f3:qcc a b=some n3:=by unfold qcc qdl; exact qB e3 (qE rfl)
 have key:∃ M,N=M + 1:=⟨N - 1,by have:=big N; omega⟩
 obtain ⟨M,hM⟩:=key
 have z:∀ {n:Int} {p:Prop},(decide (n=0)=true↔p)→p→(!decide (n=0))=false:=fun h hp=>by rw [h.2 hp]; rfl
 have nz:∀ {n:Int} {p:Prop},(decide (n=0)=true↔p)→¬ p→(!decide (n=0))=true:=fun {n} {p} h hp=>by
  cases e:decide (n=0) with
  | false=>rfl
  | true=>exact (hp (h.1 e)).elim
 have hl:qaY N a b=some (if a.S=b.S∧Q5 a.V=Q5 b.V∧a.V=b.V then .inr () else .inl (vm a b)):=by
  have s1:qaY N a b=q6 (Y6 N a b) (qca N N (a,b)) (M + 1) ():=by rw [← hM]; rfl
  rw [s1]
  by_cases h1:a.S=b.S
  ·rw [zM (x:=.inl ()) (by unfold Y6; exact zd (by omega) (qB f1 (w_f (z z1 h1) (qE rfl))))]
   show q6 (Q3 N a b) (Jc N N (a,b)) N ()=_
   rw [show q6 (Q3 N a b) (Jc N N (a,b)) N ()=q6 (Q3 N a b) (Jc N N (a,b)) (M + 1) () by rw [← hM]]
   by_cases h2:Q5 a.V=Q5 b.V
   ·rw [zM (x:=.inl ()) (by unfold Q3; exact zd (by omega) (qB f2 (w_f (z z2 h2) (qE rfl))))]
    show q6 (QW N a b) (Je N N (a,b)) N ()=_
    rw [show q6 (QW N a b) (Je N N (a,b)) N ()=q6 (QW N a b) (Je N N (a,b)) (M + 1) () by rw [← hM]]
    by_cases h3:a.V=b.V
    ·rw [zM (x:=.inl ()) (by unfold QW; exact zd (by omega) (qB f3 (w_f (z z3 h3) (qE rfl))))]
     show q6 (Ja N a b) some N ()=_
     rw [show q6 (Ja N a b) some N ()=q6 (Ja N a b) some (M + 1) () by rw [← hM]]
     rw [zM (x:=.inr ()) (by unfold Ja; exact qE rfl),if_pos ⟨h1,h2,h3⟩]
    ·rw [zM (x:=.inr (.inl (decide (n3 < 0)))) (by unfold QW; exact zd (by omega) (qB f3 (w_t (nz z3 h3) (qE rfl)))),if_neg (fun h=>h3 h.2.2)]
     show some (Sum.inl (decide (n3 < 0)))=_
     rw [l3 h3]
     unfold vm
     rw [if_pos h1,if_pos h2]
   ·rw [zM (x:=.inr (.inl (decide (n2 < 0)))) (by unfold Q3; exact zd (by omega) (qB f2 (w_t (nz z2 h2) (qE rfl)))),if_neg (fun h=>h2 h.2.1)]
    show some (Sum.inl (decide (n2 < 0)))=_
    rw [l2 h2]
    unfold vm
    rw [if_pos h1,if_neg h2]
  ·rw [zM (x:=.inr (.inl (decide (n1 < 0)))) (by unfold Y6; exact zd (by omega) (qB f1 (w_t (nz z1 h1) (qE rfl)))),if_neg (fun h=>h1 h.1)]
   show some (Sum.inl (decide (n1 < 0)))=_
   rw [l1 h1]
   unfold vm
   rw [if_neg h1]
 unfold qfT qgy
 refine qB hl ?_
 by_cases h:a.S=b.S∧Q5 a.V=Q5 b.V∧a.V=b.V
 ·rw [if_pos h]
  show some false=_
  unfold vm
  rw [if_pos h.1,if_pos h.2.1,h.2.2,Wr]
 ·rw [if_neg h]; rfl
theorem qJU {a b:qc} (ha:a.V.length≤50000) (hb:b.V.length≤50000):qfJ N a b=some (cJ a b):=by
 unfold qfJ qf_ cJ
 refine qB (qFl ha hb) ?_
 cases vm a b<;>rfl
theorem qJu (a b:qe):qfn N a b=some (mxS a b):=by
 unfold qfn qgN mxS
 refine qB (qcu _ _) ?_
 cases slB a b<;>rfl
end
end Go.Rx
end
set_option maxRecDepth 100000
noncomputable section
namespace Go.Rx
open Go.Proofs
section
variable {N:Nat} [Zs N]
theorem qIQ {l : List qb} (h8 : l.length ≤ 600) (hV : ∀ k, k < l.length → (l.getD k zF).C.V.length ≤ 200) {c : Nat} {M : List (Int × qc × Nat)} {g : Int → Option qc} (hM : ∀ no, WZ no M = g no) (hg : qdC g) :
    ∃ c' M',WB N l ((l.length:Nat):Int) c M 0=some (c',M',((l.length:Nat):Int),false)∧(∀ no,WZ no M'=l.foldl J4 g no)∧qdC (l.foldl J4 g):=by
 have key:∃ y,q6 (QA N l ((l.length:Nat):Int)) some N (c,M,((0:Nat):Int))=some y∧∃ c' M',y=(c',M',((l.length:Nat):Int),false)∧(∀ no,WZ no M'=l.foldl J4 g no)∧qdC (l.foldl J4 g):=by
  refine qi1 (I:=fun v=>∃ (k c':Nat) (M':List (Int×qc×Nat)),k≤l.length∧v=(c',M',(k:Int))∧(∀ no,WZ no M'=(l.take k).foldl J4 g no)∧qdC ((l.take k).foldl J4 g)) (fun v=>l.length - v.2.2.toNat) ?_ N _ ⟨0,c,M,Nat.zero_le _,rfl,hM,hg⟩ (by have:=big N; simp; omega)
  rintro v ⟨k,c',M',hk,rfl,hi,hs⟩
  by_cases h:k < l.length
  ·left
   have et:(l.take (k + 1)).foldl J4 g=J4 ((l.take k).foldl J4 g) (l.getD k zF):=by
    rw [List.take_succ_eq_append_getElem h,List.foldl_append,List.getD_eq_getElem?_getD,List.getElem?_eq_getElem h]; rfl
   have hs':qdC ((l.take (k + 1)).foldl J4 g):=by rw [et]; exact qAD hs (hV k h)
   have hno:=hi (l.getD k zF).No
   unfold WZ at hno
   cases e:fnd (β:=qc) (.i .i64) (l.getD k zF).No M' with
   | none=>
    rw [e] at hno
    refine ⟨((QI (.i .i64) (qb.No (l.getD k zF)) (qb.C (l.getD k zF)) c' M').1,(QI (.i .i64) (qb.No (l.getD k zF)) (qb.C (l.getD k zF)) c' M').2,((k + 1:Nat):Int)),?_,⟨k + 1,_,_,h,rfl,?_,hs'⟩,by simp only [Int.toNat_natCast]; omega⟩
    ·unfold QA
     exact w_t (dec_lt h) (qB (jM (d:=zF) h) (qwJ e (zd (Q2 (by omega)) (qE (by rw [zy])))))
    ·intro no
     rw [qwo,et,qvE]
     by_cases hq:no=(l.getD k zF).No
     ·rw [if_pos hq,if_pos hq.symm,hq,← hno]; rfl
     ·rw [if_neg hq,if_neg (fun e=>hq e.symm),hi no]
   | some x=>
    rw [e] at hno
    have hx:x.1.V.length≤200:=hs _ _ hno.symm
    refine ⟨((QI (.i .i64) (qb.No (l.getD k zF)) (cJ x.1 (qb.C (l.getD k zF))) c' M').1,(QI (.i .i64) (qb.No (l.getD k zF)) (cJ x.1 (qb.C (l.getD k zF))) c' M').2,((k + 1:Nat):Int)),?_,⟨k + 1,_,_,h,rfl,?_,hs'⟩,by simp only [Int.toNat_natCast]; omega⟩
    ·unfold QA
     exact w_t (dec_lt h) (qB (jM (d:=zF) h) (qqO e (qB (qJU (by omega) (by have:(l.getD k zF).C.V.length≤200:=hV k h; omega)) (zd (Q2 (by omega)) (qE (by rw [zy]))))))
    ·intro no
     rw [qwo,et,qvE]
     by_cases hq:no=(l.getD k zF).No
     ·rw [if_pos hq,if_pos hq.symm,hq,← hno]; rfl
     ·rw [if_neg hq,if_neg (fun e=>hq e.symm),hi no]
  ·right
   obtain rfl:k=l.length:=by omega
   refine ⟨(c',M',((l.length:Nat):Int),false),_,?_,rfl,c',M',rfl,?_⟩
   ·unfold QA
    exact w_f (jq (Nat.lt_irrefl _)) (qE (by rw [jq (Nat.lt_irrefl _)]))
   ·rw [List.take_of_length_le (Nat.le_refl _)] at hi hs
    exact ⟨hi,hs⟩
 obtain ⟨y,e,c',M',rfl,h⟩:=key
 exact ⟨c',M',e,h⟩
theorem qz9 {r : qa} (hr : jr r = true) {c : Nat} {M : List (Int × qc × Nat)} {g : Int → Option qc} (hM : ∀ no, WZ no M = g no) (hg : qdC g) :
    ∃ c' M',JJ N c M r=some (c',M')∧(∀ no,WZ no M'=jC (g no) (cO r.F no))∧qdC (r.F.foldl J4 g):=by
 have h8:=qb1 hr
 obtain ⟨c',M',e,h,hs⟩:=qIQ (N:=N) (l:=r.F) (by omega) (fun k hk=>qvb (Vx.1 ((X3.1 hr).2.2 k hk)).2.2.1) (c:=c) hM hg
 refine ⟨c',M',?_,fun no=>?_,hs⟩
 ·unfold JJ Yi
  exact qB e (qE rfl)
 ·rw [h,qsM (qwS hr)]
theorem qCp {o : List qb} {c : Nat} {M : List (Int × qc × Nat)} {o5 : Vector UInt8 16} {o6 : qe} {o7 : Vector UInt8 16} {o8 dead : qe} :
    ZK N o [] c M o5 o6 o7 o8 dead=some (QZ (fun no=>WZ no M) dead 8 0):=by
 have key:JQ N o c M o5 o6 o7 o8 dead [] 0=some (Vk (fun k s=>s++qfq dead k (WZ (k:Int) M)) 8 0 [],(8:Int),false):=by
  refine ZG (σ:=List qb) (B:=Qh N o c M o5 o6 o7 o8 dead) (g:=some) (at_:=fun k s=>(s,(k:Int))) (I:=fun k s=>s.length≤k) (f:=fun k s=>s++qfq dead k (WZ (k:Int) M)) (n:=8)
   (fin:=fun s=>(s,(8:Int),false)) (fun k s hk hs=>⟨?_,?_⟩) (fun s _=>?_) N 0 [] (Nat.le_refl _) (Nat.zero_le _) (by have:=big N; omega)
  ·have d8:decide ((k:Int) < 8)=true:=decide_eq_true (by omega)
   unfold Qh
   refine w_t d8 ?_
   unfold WZ
   cases e:fnd (β:=qc) (.i .i64) (k:Int) M with
   | none=>exact qwJ rfl (zd (Q2 (by omega)) (qE (by rw [zy]; show _=some (Sum.inl (s++[],_)); rw [List.append_nil])))
   | some x=>
    refine qqO rfl (qB (qcu _ _) ?_)
    have hk2:qfq dead k (Option.map (fun x=>x.1) (some x))=if slB dead x.1.S=true then [qb.mk (k:Int) x.1] else []:=rfl
    rw [hk2]
    cases hb:slB dead (qc.S x.1) with
    | false=>
     rw [if_neg (by simp),List.append_nil]
     exact w_f rfl (zd (Q2 (by omega)) (qE (by rw [zy])))
    | true=>
     rw [if_pos rfl]
     have er:XY o s c M o5 o6 o7 o8 dead (qb.mk (k:Int) x.1)=some ():=by
      unfold XY Yo
      exact zd ⟨rfl,by rw [List.length_append]; unfold zi; simp; omega⟩ (qE rfl)
     exact w_t rfl (qB ((jF rfl).trans ((jF rfl).trans er)) (zd (Q2 (by omega)) (qE (by rw [zy]))))
  ·have:=qtw (dead:=dead) (k:=k) (c:=WZ (k:Int) M)
   rw [List.length_append]; omega
  ·unfold Qh
   exact w_f rfl (qE rfl)
 unfold ZK JU
 refine qB ((jF rfl).trans ((jF rfl).trans key)) (qE ?_)
 rw [qmq (g:=fun no=>WZ no M),List.nil_append]
theorem qJL {a b:qa} (ha:jr a=true) (hb:jr b=true) (hid:a.ID=b.ID):qiI N a b=some (rJ a b,true):=by
 have hN:=big N
 have h8a:=qb1 ha
 have h8b:=qb1 hb
 obtain ⟨c1,M1,e1,h1,s1⟩:=qz9 (N:=N) ha (c:=0) (M:=[]) (g:=fun _=>none) (fun no=>rfl) (fun no c h=>by cases h)
 obtain ⟨c2,M2,e2,h2,_⟩:=qz9 (N:=N) hb (c:=c1) (M:=M1) (g:=fun no=>cO a.F no) (fun no=>by rw [h1]; rfl) (by
  have:(a.F.foldl J4 fun _=>none)=fun no=>cO a.F no:=by funext no; rw [qsM (qwS ha)]; rfl
  rw [← this]; exact s1)
 have ef:=qCp (N:=N) (o:=[]) (c:=c2) (M:=M2) (o5:=Vector.replicate 16 0) (o6:=qe.mk 0 0) (o7:=a.ID) (o8:=mxS a.qX b.qX) (dead:=mxS a.qX b.qX)
 have eg:(fun no=>WZ no M2)=fun no=>jC (cO a.F no) (cO b.F no):=funext h2
 rw [eg] at ef
 unfold qiI qjw
 exact qB (qmU (by omega) (by omega)) (w_f (by rw [ha]; rfl) (qB (qmU (by omega) (by omega)) (w_f (by rw [hb]; rfl) (w_f (by rw [qu_]; show (!decide (a.ID=b.ID))=false; rw [decide_eq_true hid]; rfl)
  (qB e1 (qB e2 (qB (qJu _ _) (qB rfl (qB ((jF rfl).trans ((jF rfl).trans ef)) (zd rfl (qE rfl)))))))))))
end
end Go.Rx
end
set_option maxRecDepth 100000
noncomputable section
namespace Go.Rx
open Go.Proofs
section n
variable {N:Nat} [Zs N]
theorem qEN {l:List qa} {id:Vector UInt8 16} (h:l.length≤600):Jh N id l=some (qJm (qsB l id)):=by
 have key:=qfH (B:=vl N id l ((l.length:Nat):Int)) (g:=some) (p:=fun k=>decide ((l.getD k zR).ID=id)) (n:=l.length) (hit:=fun k=>.inl (k:Int)) (fin:=.inr (((l.length:Nat):Int),false)) (fun k hk=>by
  unfold vl qgJ qc2
  rw [qI,dec_lt hk,cond_true,run_bind,jM (d:=zR) hk,Option.bind_some,run_bind,qS,Option.bind_some,qI,qu_,qS,zx,qm (show qz ((k:Int) + 1) by unfold qz; omega),qS,zy]
  cases decide ((l.getD k zR).ID=id)<;>rfl) (by
  unfold vl
  rw [qI,jq (Nat.lt_irrefl _),cond_false,qS]) N 0 (Nat.zero_le _) (by have:=big N; omega)
 have e:JV N id l ((l.length:Nat):Int) 0=q6 (vl N id l ((l.length:Nat):Int)) some N ((0:Nat):Int):=rfl
 unfold Jh Vv
 rw [run_bind,e,key,Nat.sub_zero]
 unfold qsB
 cases Jf (fun k=>decide ((l.getD k zR).ID=id)) l.length 0<;>rfl
theorem qEv {l:List qb} {no:Int} (h:l.length≤600):ZA N no l=some (qJm (qvL l no)):=by
 have key:=qfH (B:=jO N no l ((l.length:Nat):Int)) (g:=some) (p:=fun k=>decide ((l.getD k zF).No=no)) (n:=l.length) (hit:=fun k=>.inl (k:Int)) (fin:=.inr (((l.length:Nat):Int),false)) (fun k hk=>by
  unfold jO qid qep
  rw [qI,dec_lt hk,cond_true,run_bind,jM (d:=zF) hk,Option.bind_some,run_bind,qS,Option.bind_some,qI,qS,zx,qm (show qz ((k:Int) + 1) by unfold qz; omega),qS,zy]
  cases decide ((l.getD k zF).No=no)<;>rfl) (by
  unfold jO
  rw [qI,jq (Nat.lt_irrefl _),cond_false,qS]) N 0 (Nat.zero_le _) (by have:=big N; omega)
 have e:Jk N no l ((l.length:Nat):Int) 0=q6 (jO N no l ((l.length:Nat):Int)) some N ((0:Nat):Int):=rfl
 unfold ZA JL
 rw [run_bind,e,key,Nat.sub_zero]
 unfold qvL
 cases Jf (fun k=>decide ((l.getD k zF).No=no)) l.length 0<;>rfl
theorem qtF {l:List qb} (h:l.length≤1000000):v3 l=some ():=by
 unfold v3
 cases l with
 | nil=>kernel_rfl
 | cons x r=>
  show Yc (x::r)=_
  unfold Yc XR
  have h2:Vt ([]:List qb).length 0 ([]++x::r).length 40:=⟨rfl,by rw [List.nil_append]; unfold zi; omega⟩
  rw [zx,qm (List.isEmpty_cons),zx,qm h2,zx,qm rfl,qS]
theorem qFf {b:qd} (h:zX b=true) (id:Vector UInt8 16):qfV N b id=some (recAt b id):=by
 have hb:=qcJ.1 h
 unfold qfV qgj recAt
 rw [run_bind,qEN (by omega),Option.bind_some]
 cases e:qsB b.R id with
 | none=>rfl
 | some i=>
  have hi:=(qlJ e).1
  have hn:decide (((i:Nat):Int) < 0)=false:=decide_eq_false (by omega)
  have hF:=qb1 (hb.1 i hi).1
  have ho:K_ (b.R.getD i zR)=some ():=by
   unfold K_ qdI
   rw [run_bind,qtF (by omega),Option.bind_some,qS]
  show (Tree.cond (decide (((i:Nat):Int) < 0)) _ (Tree.bind (zl (qd.R b) ((i:Nat):Int)) _)).run some=_
  rw [qI,hn,cond_false,run_bind,jM (d:=zR) hi,Option.bind_some,run_bind,ho,Option.bind_some,qS]
  rfl
theorem qFp {r:qa} (h:r.F.length≤8) (no:Int):qiT N r no=some (cellAt r no):=by
 unfold qiT qi9 cellAt
 rw [run_bind,qEv (by omega),Option.bind_some]
 cases e:qvL r.F no with
 | none=>rfl
 | some i=>
  have hi:=(qlJ e).1
  have hn:decide (((i:Nat):Int) < 0)=false:=decide_eq_false (by omega)
  show (Tree.cond (decide (((i:Nat):Int) < 0)) _ (Tree.bind (zl (qa.F r) ((i:Nat):Int)) _)).run some=_
  rw [qI,hn,cond_false,run_bind,jM (d:=zF) hi,Option.bind_some,qS]
end n
end Go.Rx
end
set_option maxRecDepth 100000
noncomputable section
namespace Go.Rx
open Go.Proofs
def qmQ (g:Vector UInt8 16→Option qa) (r:qa) (id:Vector UInt8 16):Option qa:=if r.ID=id then jR (g id) (some r) else g id
theorem qoi {g:Vector UInt8 16→Option qa} {r:qa} {id:Vector UInt8 16}:qmQ g r id=if r.ID=id then jR (g id) (some r) else g id:=rfl
theorem qrR {x:Option qa}:jR x none=x:=by cases x<;>rfl
theorem qrQ:∀ {l:List qa} {g:Vector UInt8 16→Option qa} {id:Vector UInt8 16},qb8 l→l.foldl qmQ g id=jR (g id) (rO l id)
 | [],g,id,_=>by rw [qxD,qrR]; rfl
 | r::l,g,id,h=>by
  have hp:=List.pairwise_cons.1 h
  rw [List.foldl_cons,qrQ hp.2,Y1,qoi]
  by_cases e:r.ID=id
  ·rw [if_pos e,if_pos e]
   have:rO l id=none:=by
    cases hc:rO l id with
    | none=>rfl
    | some x=>
     have:=hp.1 x (ZY hc).1
     rw [e,(ZY hc).2,qel] at this; cases this
   rw [this,qrR]
  ·rw [if_neg e,if_neg e]
def Jl (id:Vector UInt8 16) (M:List (Vector UInt8 16×qa×Nat)):Option qa:=(fnd (β:=qa) (.ba 16) id M).map (·.1)
theorem qw3 {q k:Vector UInt8 16} {p:qa} {c:Nat} {M:List (Vector UInt8 16×qa×Nat)}:Jl q (QI (β:=qa) (.ba 16) k p c M).2=if q=k then some p else Jl q M:=by
 have:=@qpt (El (.ba 16)) qa (Jq (.ba 16)) k q p c M
 rw [show Jl q (QI (β:=qa) (.ba 16) k p c M).2=@qo_ (El (.ba 16)) qa (Jq (.ba 16)) q (@qek (El (.ba 16)) qa (Jq (.ba 16)) k p c M).2 from rfl,this]
 by_cases h:q=k
 ·rw [if_pos h]; exact if_pos h
 ·rw [if_neg h]; exact if_neg h
structure qHr (l:List qa) (nm:List (Vector UInt8 16)) (M:List (Vector UInt8 16×qa×Nat)):Prop where
 nd:nm.Nodup
 val:∀ id,Jl id M=l.foldl qmQ (fun _=>none) id
 mem:∀ id,id∈nm↔Jl id M≠none
 ok:∀ id r,Jl id M=some r→jr r=true∧r.ID=id
 len:nm.length≤l.length
def Kp (M:List (Vector UInt8 16×qa×Nat)) (l:List (Vector UInt8 16)):List qa:=l.map fun id=>(Jl id M).getD zR
theorem qDV {M:List (Vector UInt8 16×qa×Nat)} {id:Vector UInt8 16}:∀ {l:List (Vector UInt8 16)},(∀ i∈l,∃ r,Jl i M=some r∧r.ID=i)→rO (Kp M l) id=if id∈l then Jl id M else none
 | [],_=>by rw [if_neg List.not_mem_nil]; rfl
 | i::l,h=>by
  obtain ⟨r,e,hr⟩:=h i (List.mem_cons_self ..)
  show rO ((Jl i M).getD zR::Kp M l) id=_
  rw [e,Y1,qDV fun j hj=>h j (List.mem_cons_of_mem _ hj)]
  by_cases c:i=id
  ·subst c
   rw [if_pos (show (Option.getD (some r) zR).ID=i from hr),if_pos (List.mem_cons_self ..),e]; rfl
  ·rw [if_neg (show ¬ (Option.getD (some r) zR).ID=id from fun h'=>c (hr.symm.trans h'))]
   by_cases m:id∈l
   ·rw [if_pos m,if_pos (List.mem_cons_of_mem _ m)]
   ·rw [if_neg m,if_neg (fun hm=>by rcases List.mem_cons.1 hm with e' | e'; exact c e'.symm; exact m e')]
section
variable {N:Nat} [Zs N]
theorem qsS {α:Type} {l:List (List α)} {k:Nat} (h:k < l.length):(l.take (k + 1)).flatten=(l.take k).flatten++l.getD k []:=by
 rw [qiO (d:=[]) h,List.flatten_append]; simp
theorem qzM {α:Type} {l:List (List α)} {k:Nat}:(l.take k).flatten.length≤l.flatten.length:=by
 have:(l.take k).flatten++(l.drop k).flatten=l.flatten:=by rw [← List.flatten_append,List.take_append_drop]
 rw [← this,List.length_append]; omega
theorem qA5 {l:List (List qa)} (hl:l.length≤1000) (hf:l.flatten.length≤1000):VL N l=some l.flatten:=by
 have hN:=big N
 have k1:X0 N l l ((l.length:Nat):Int) 0 0=some (((l.flatten.length:Nat):Int),((l.length:Nat):Int),false):=by
  refine ZG (σ:=Unit) (B:=Zz N l l ((l.length:Nat):Int)) (g:=some) (at_:=fun k _=>((((l.take k).flatten.length:Nat):Int),(k:Int))) (I:=fun _ _=>True) (f:=fun _ s=>s) (n:=l.length)
   (fin:=fun _=>(((l.flatten.length:Nat):Int),((l.length:Nat):Int),false)) (fun k s hk _=>⟨?_,trivial⟩) (fun s _=>?_) N 0 () trivial (Nat.zero_le _) (by omega)
  ·have e1:(((l.take k).flatten.length:Nat):Int) + (((l.getD k []).length:Nat):Int)=(((l.take (k + 1)).flatten.length:Nat):Int):=by rw [qsS hk,List.length_append]; omega
   have h2:=qzM (l:=l) (k:=k + 1)
   unfold Zz
   refine w_t (dec_lt hk) (qB (jM (d:=[]) hk) ?_)
   dsimp only
   rw [e1]
   exact zd (by unfold qz; omega) (w_f (decide_eq_false (by omega)) (zd (Q2 (by omega)) (qE (by rw [zy]))))
  ·unfold Zz
   exact w_f (jq (Nat.lt_irrefl _)) (qE (by rw [jq (Nat.lt_irrefl _),List.take_of_length_le (Nat.le_refl _)]))
 have k2:ZR N l ((l.length:Nat):Int) [] 0=some (l.flatten,((l.length:Nat):Int),false):=by
  refine ZG (σ:=Unit) (B:=Q6 N l ((l.length:Nat):Int)) (g:=some) (at_:=fun k _=>((l.take k).flatten,(k:Int))) (I:=fun _ _=>True) (f:=fun _ s=>s) (n:=l.length)
   (fin:=fun _=>(l.flatten,((l.length:Nat):Int),false)) (fun k s hk _=>⟨?_,trivial⟩) (fun s _=>?_) N 0 () trivial (Nat.zero_le _) (by omega)
  ·have h2:=qzM (l:=l) (k:=k + 1)
   unfold Q6
   refine w_t (dec_lt hk) (qB (jM (d:=[]) hk) ?_)
   dsimp only
   rw [← qsS hk]
   exact zd ⟨rfl,by unfold zi; omega⟩ (zd (Q2 (by omega)) (qE (by rw [zy])))
  ·unfold Q6
   exact w_f (jq (Nat.lt_irrefl _)) (qE (by rw [jq (Nat.lt_irrefl _),List.take_of_length_le (Nat.le_refl _)]))
 unfold VL Wz
 refine qB k1 ?_
 by_cases h0:l.flatten.length=0
 ·have kg : ZP ((l.flatten.length : Nat) : Int) = some (.inr ()) := by
     unfold ZP VM
     exact w_f (decide_eq_false (by omega)) (zd (by unfold qz; omega) (w_f (decide_eq_false (by omega)) (qE rfl)))
  exact qB kg (w_r rfl (qB ((jF rfl).trans k2) (zd rfl (qE rfl))))
 ·have kg : ZP ((l.flatten.length : Nat) : Int) = some (.inl ()) := by
     unfold ZP VM
     exact w_f (decide_eq_false (by omega)) (zd (by unfold qz; omega) (w_t (decide_eq_true (by omega)) (zd ⟨by omega,by unfold zi; omega⟩ (qE rfl))))
  exact qB kg (w_l rfl (qB ((jF rfl).trans k2) (zd rfl (qE rfl))))
theorem qIt {r:qa} (h:jr r=true):K_ r=some ():=by
 unfold K_ qdI
 exact qB (qtF (by have:=qb1 h; omega)) (qE rfl)
theorem qFg {L : List qa} (hl : L.length ≤ 1000) (hr : ∀ r ∈ L, jr r = true) :
    ∃ nm c M,qeh N [] L ((L.length:Nat):Int) [] 0 [] 0=some (nm,c,M,((L.length:Nat):Int),false)∧qHr L nm M:=by
 have hN:=big N
 have key:∃ y,q6 (V8 N [] L ((L.length:Nat):Int)) some N ([],0,[],((0:Nat):Int))=some y∧∃ nm c M,y=(nm,c,M,((L.length:Nat):Int),false)∧qHr L nm M:=by
  refine qi1 (I:=fun v=>∃ (k:Nat) (nm:List (Vector UInt8 16)) (c:Nat) (M:List (Vector UInt8 16×qa×Nat)),k≤L.length∧v=(nm,c,M,(k:Int))∧qHr (L.take k) nm M) (fun v=>L.length - v.2.2.2.toNat) ?_ N _ ⟨0,[],0,[],Nat.zero_le _,rfl,⟨List.nodup_nil,fun _=>rfl,fun id=>⟨fun h=>absurd h List.not_mem_nil,fun h=>(h rfl).elim⟩,fun _ _ h=>(by cases h),Nat.le_refl _⟩⟩ (by simp; omega)
  rintro v ⟨k,nm,c,M,hk,rfl,hi⟩
  by_cases h:k < L.length
  ·left
   have hmem:L.getD k zR∈L:=by rw [List.getD_eq_getElem?_getD,List.getElem?_eq_getElem h]; exact List.getElem_mem h
   have hrec:=hr _ hmem
   have et:∀ id,(L.take (k + 1)).foldl qmQ (fun _=>none) id=qmQ ((L.take k).foldl qmQ fun _=>none) (L.getD k zR) id:=fun id=>by
    rw [qiO (d:=zR) h,List.foldl_append]; rfl
   have hlk:(L.take k).length=k:=by rw [List.length_take]; omega
   have hlk1:(L.take (k + 1)).length=k + 1:=by rw [List.length_take]; omega
   have hv:=hi.val (L.getD k zR).ID
   have hnl:=hi.len
   cases e:fnd (β:=qa) (.ba 16) (L.getD k zR).ID M with
   | none=>
    have hn:Jl (L.getD k zR).ID M=none:=by unfold Jl; rw [e]; rfl
    rw [hn] at hv
    refine ⟨(nm++[(L.getD k zR).ID],(QI (.ba 16) (qa.ID (L.getD k zR)) (L.getD k zR) c M).1,(QI (.ba 16) (qa.ID (L.getD k zR)) (L.getD k zR) c M).2,((k + 1:Nat):Int)),?_,⟨k + 1,_,_,_,h,rfl,?_⟩,by simp only [Int.toNat_natCast]; omega⟩
    ·unfold V8
     exact w_t (dec_lt h) (qB (jM (d:=zR) h) (qwJ e (zd ⟨rfl,by rw [List.length_append]; unfold zi; simp; omega⟩ (qB (qIt hrec) (zd (Q2 (by omega)) (qE (by rw [zy]; rfl)))))))
    ·have hpv:∀ id,Jl id (QI (.ba 16) (qa.ID (L.getD k zR)) (L.getD k zR) c M).2=if id=(L.getD k zR).ID then some (L.getD k zR) else Jl id M:=fun id=>qw3
     refine ⟨?_,fun id=>?_,fun id=>?_,fun id r hr'=>?_,?_⟩
     ·refine List.nodup_append.2 ⟨hi.nd,List.nodup_cons.2 ⟨List.not_mem_nil,List.nodup_nil⟩,fun a ha b hb=>?_⟩
      obtain rfl:=List.mem_singleton.1 hb
      intro hab
      rw [hab] at ha
      exact (hi.mem _).1 ha hn
     ·rw [hpv,et,qoi]
      by_cases q:id=(L.getD k zR).ID
      ·rw [if_pos q,if_pos q.symm,q,← hv]; rfl
      ·rw [if_neg q,if_neg (fun x=>q x.symm),hi.val]
     ·rw [hpv,List.mem_append,List.mem_singleton,hi.mem]
      by_cases q:id=(L.getD k zR).ID
      ·rw [if_pos q]; exact ⟨fun _=>by simp,fun _=>.inr q⟩
      ·rw [if_neg q]; exact ⟨fun x=>x.resolve_right q,fun x=>.inl x⟩
     ·rw [hpv] at hr'
      by_cases q:id=(L.getD k zR).ID
      ·rw [if_pos q] at hr'
       obtain rfl:=Option.some.inj hr'
       exact ⟨hrec,q.symm⟩
      ·rw [if_neg q] at hr'; exact hi.ok id r hr'
     ·rw [hlk1,List.length_append]; simp; omega
   | some x=>
    have hn:Jl (L.getD k zR).ID M=some x.1:=by unfold Jl; rw [e]; rfl
    rw [hn] at hv
    have hx:=hi.ok _ _ hn
    have ej:=qJL (N:=N) hx.1 hrec hx.2
    refine ⟨(nm,(QI (.ba 16) (qa.ID (L.getD k zR)) (rJ x.1 (L.getD k zR)) c M).1,(QI (.ba 16) (qa.ID (L.getD k zR)) (rJ x.1 (L.getD k zR)) c M).2,((k + 1:Nat):Int)),?_,⟨k + 1,_,_,_,h,rfl,?_⟩,by simp only [Int.toNat_natCast]; omega⟩
    ·unfold V8
     exact w_t (dec_lt h) (qB (jM (d:=zR) h) (qqO e (qB ej (zd (Q2 (by omega)) (qE (by rw [zy]))))))
    ·have hpv:∀ id,Jl id (QI (.ba 16) (qa.ID (L.getD k zR)) (rJ x.1 (L.getD k zR)) c M).2=if id=(L.getD k zR).ID then some (rJ x.1 (L.getD k zR)) else Jl id M:=fun id=>qw3
     refine ⟨hi.nd,fun id=>?_,fun id=>?_,fun id r hr'=>?_,?_⟩
     ·rw [hpv,et,qoi]
      by_cases q:id=(L.getD k zR).ID
      ·rw [if_pos q,if_pos q.symm,q,← hv]; rfl
      ·rw [if_neg q,if_neg (fun x=>q x.symm),hi.val]
     ·rw [hpv,hi.mem]
      by_cases q:id=(L.getD k zR).ID
      ·rw [if_pos q,q,hn]; simp
      ·rw [if_neg q]
     ·rw [hpv] at hr'
      by_cases q:id=(L.getD k zR).ID
      ·rw [if_pos q] at hr'
       obtain rfl:=Option.some.inj hr'
       exact ⟨JM hx.1 hrec,by rw [qJS,hx.2,q]⟩
      ·rw [if_neg q] at hr'; exact hi.ok id r hr'
     ·rw [hlk1]; omega
  ·right
   obtain rfl:k=L.length:=by omega
   rw [List.take_of_length_le (Nat.le_refl _)] at hi
   refine ⟨(nm,c,M,((L.length:Nat):Int),false),_,?_,rfl,nm,c,M,rfl,hi⟩
   unfold V8
   exact w_f (jq (Nat.lt_irrefl _)) (qE (by rw [jq (Nat.lt_irrefl _)]))
 obtain ⟨y,e,nm,c,M,rfl,h⟩:=key
 exact ⟨nm,c,M,e,h⟩
theorem qIs {nm : List (Vector UInt8 16)} {c n : Nat} {M : List (Vector UInt8 16 × qa × Nat)} (hn : nm.length = n) (hl : n ≤ 1000) (h : ∀ i ∈ nm, ∃ r, Jl i M = some r ∧ r.ID = i) :
    qdg N [] nm c M n ((n:Nat):Int) [] 0=some (Kp M nm,((n:Nat):Int),false):=by
 subst hn
 have hN:=big N
 refine ZG (σ:=Unit) (B:=WI N [] nm c M nm.length ((nm.length:Nat):Int)) (g:=some) (at_:=fun k _=>(Kp M (nm.take k),(k:Int))) (I:=fun _ _=>True) (f:=fun _ s=>s) (n:=nm.length)
  (fin:=fun _=>(Kp M nm,((nm.length:Nat):Int),false)) (fun k s hk _=>⟨?_,trivial⟩) (fun s _=>?_) N 0 () trivial (Nat.zero_le _) (by omega)
 ·have hmem:nm.getD k (Vector.replicate 16 0)∈nm:=by rw [List.getD_eq_getElem?_getD,List.getElem?_eq_getElem hk]; exact List.getElem_mem hk
  obtain ⟨r,hr,_⟩:=h _ hmem
  have hf:∃ x,fnd (β:=qa) (.ba 16) (nm.getD k (Vector.replicate 16 0)) M=some x∧x.1=r:=by
   unfold Jl at hr
   cases e:fnd (β:=qa) (.ba 16) (nm.getD k (Vector.replicate 16 0)) M with
   | none=>rw [e] at hr; cases hr
   | some x=>rw [e] at hr; exact ⟨x,rfl,Option.some.inj hr⟩
  obtain ⟨x,ex,hx⟩:=hf
  have eo:Kp M (nm.take (k + 1))=Kp M (nm.take k)++[x.1]:=by
   unfold Kp
   rw [qiO (d:=Vector.replicate 16 0) hk,List.map_append,List.map_cons,hr,hx]; rfl
  have cav:Vt (Kp M (nm.take k)).length (Kp M (nm.take k)).length (Kp M (nm.take k)++[x.1]).length 56:=⟨rfl,by
   rw [List.length_append]; unfold Kp; rw [List.length_map,List.length_take]; unfold zi; simp; omega⟩
  unfold WI
  exact w_t (dec_lt hk) (zd ⟨by show (0:Int)≤(k:Int); omega,by show (k:Int) < _; omega⟩ (qB (qJi rfl hk) (qqO ex (zd cav (zd (Q2 (by omega)) (qE (by rw [zy,eo])))))))
 ·unfold WI
  exact w_f (jq (Nat.lt_irrefl _)) (qE (by rw [jq (Nat.lt_irrefl _),List.take_of_length_le (Nat.le_refl _)]))
theorem qd_ {b:qd} (h:zX b=true):Qb N b:=by
 have hN:=big N
 have hb:=qcJ.1 h
 exact ⟨by omega,by omega,fun k hk=>by have:=qb1 (hb.1 k hk).1; exact ⟨by omega,by omega⟩⟩
def quT (c:List qa):qd×Int:=if c.length≤10 then (qd.mk c,0) else (qd.mk [],4)
theorem qv4 {a b:qd} (ha:zX a=true) (hb:zX b=true):∃ c,qqB a.R b.R c∧Xm N a b=some (quT c):=by
 have hA:=Vg.1 ha
 have hB:=Vg.1 hb
 have hfl:[a.R,b.R].flatten=a.R++b.R:=by simp
 have hll:(a.R++b.R).length≤20:=by rw [List.length_append]; omega
 have ec:=qA5 (N:=N) (l:=[a.R,b.R]) (by simp) (by rw [hfl]; omega)
 rw [hfl] at ec
 obtain ⟨nm,c,M,el,hi⟩:=qFg (N:=N) (L:=a.R++b.R) (by omega) (fun r hr=>by
  rcases List.mem_append.1 hr with h | h
  ·exact hA.1.2 r h
  ·exact hB.1.2 r h)
 have hval:∀ id,Jl id M=jR (rO a.R id) (rO b.R id):=fun id=>by
  rw [hi.val,List.foldl_append,qrQ hB.1.1,qrQ hA.1.1]; rfl
 obtain ⟨hs,hp⟩:=qHq hi.nd
 have hin:∀ i∈vK nm,∃ r,Jl i M=some r∧r.ID=i:=fun i h=>by
  have:=(hi.mem i).1 (hp.mem_iff.1 h)
  cases e:Jl i M with
  | none=>exact (this e).elim
  | some r=>exact ⟨r,rfl,(hi.ok i r e).2⟩
 have hlen:(Kp M (vK nm)).length=nm.length:=by unfold Kp; rw [List.length_map,hp.length_eq]
 refine ⟨Kp M (vK nm),⟨?_,fun id=>?_⟩,?_⟩
 ·unfold qb8 Kp
  rw [List.pairwise_map]
  refine (List.Pairwise.and_mem.1 hs).imp fun {i j} h=>?_
  obtain ⟨r,e1,h1⟩:=hin i h.1
  obtain ⟨s,e2,h2⟩:=hin j h.2.1
  rw [e1,e2]
  show lbB r.ID s.ID=true
  rw [h1,h2]; exact h.2.2
 ·rw [qDV hin,← hval]
  by_cases m:id∈vK nm
  ·rw [if_pos m]
  ·rw [if_neg m]
   cases e:Jl id M with
   | none=>rfl
   | some r=>exact (m (hp.mem_iff.2 ((hi.mem id).2 (by rw [e]; simp)))).elim
 ·have hnl:=hi.len
  unfold Xm qck
  refine qB (qmE (qd_ ha)) (w_f (by rw [ha]; rfl) (qB (qmE (qd_ hb)) (w_f (by rw [hb]; rfl) (qB ec (qB ((jF rfl).trans ((jF rfl).trans el)) ?_)))))
  unfold quT
  rw [hlen]
  by_cases h10:nm.length≤10
  ·rw [if_pos h10]
   exact w_f (decide_eq_false (by show ¬ (10:Int) < ((nm.length:Nat):Int); omega)) (qB ((jF rfl).trans (qIx (by show nm.length≤12; omega))) (qB ((jF rfl).trans ((jF rfl).trans (qIs hp.length_eq (by show nm.length≤1000; omega) hin))) (zd rfl (qE rfl))))
  ·rw [if_neg h10]
   exact w_t (decide_eq_true (by show (10:Int) < ((nm.length:Nat):Int); omega)) (zd rfl (qE rfl))
theorem qwD {a b:qd} (fa:Qb N a) (fb:Qb N b) (h:¬ (zX a=true∧zX b=true)):Xm N a b=some (qd.mk [],1):=by
 unfold Xm qck
 refine qB (qmE fa) ?_
 cases ha:zX a with
 | false=>exact w_t rfl (zd rfl (qE rfl))
 | true=>
  refine w_f rfl (qB (qmE fb) ?_)
  cases hb:zX b with
  | false=>exact w_t rfl (zd rfl (qE rfl))
  | true=>exact (h ⟨ha,hb⟩).elim
end
end Go.Rx
end
set_option maxRecDepth 100000
noncomputable section
namespace Go.Rx
open Go.Proofs
def JS (p:qa):Bool:=decide (p.qX=zSt)&&decide (p.F.length=0)
end Go.Rx
end
set_option maxRecDepth 100000
noncomputable section
namespace Go.Rx
open Go.Proofs
def jB (N:Nat) (a b:qd):qd×Int:=(Xm N a b).getD (qd.mk [],0)
def XW (p:qa):qa:=qa.mk p.ID p.qX []
def Jj (p:qa):qa:=qa.mk p.ID zSt p.F
def QH (N:Nat) (b:qd) (e:qa):qd×Int:=if JS e=true then (b,0) else jB N b (qd.mk [e])
theorem qEq {N:Nat} {b:qd} {e:qa} (h:JS e=true):QH N b e=(b,0):=if_pos h
theorem qD3 {N:Nat} {b:qd} {e:qa} (h:JS e=false):QH N b e=jB N b (qd.mk [e]):=if_neg (by rw [h]; simp)
def qrO (N:Nat) (b:qd) (e1 e2:qa):qd×Int:=
 if (QH N b e1).2=0 then (if (QH N (QH N b e1).1 e2).2=0 then ((QH N (QH N b e1).1 e2).1,0) else (qd.mk [],(QH N (QH N b e1).1 e2).2)) else (qd.mk [],(QH N b e1).2)
def qvG (b:qd) (p:qa):Bool:=zX b&&(!JS p&&(stB p.qX&&(decide (p.F.length=0)||jr (Jj p))))
def Wv (N:Nat) (b:qd) (p:qa):qd×Int:=if qvG b p=true then qrO N b (XW p) (Jj p) else (qd.mk [],1)
section
variable {N:Nat} [Zs N]
theorem qJW {a b:qd} (fa:Qb N a) (fb:Qb N b):Xm N a b=some (jB N a b):=by
 unfold jB
 by_cases h:zX a=true∧zX b=true
 ·obtain ⟨c,_,e⟩:=qv4 (N:=N) h.1 h.2
  rw [e]; rfl
 ·rw [qwD fa fb h]; rfl
theorem qIU {a b:qd} (ha:zX a=true) (hb:zX b=true):∃ c,qqB a.R b.R c∧jB N a b=quT c:=by
 obtain ⟨c,hc,e⟩:=qv4 (N:=N) ha hb
 exact ⟨c,hc,by unfold jB; rw [e]; rfl⟩
theorem qJV {a b:qd} (fa:Qb N a) (fb:Qb N b) (h:¬ (zX a=true∧zX b=true)):jB N a b=(qd.mk [],1):=by
 unfold jB
 rw [qwD fa fb h]; rfl
theorem qz_ {a b:qd} (fa:Qb N a) (fb:Qb N b) (h:(jB N a b).2=0):zX a=true∧zX b=true∧qqB a.R b.R (jB N a b).1.R∧zX (jB N a b).1=true:=by
 by_cases hab:zX a=true∧zX b=true
 ·obtain ⟨c,hc,e⟩:=qIU (N:=N) hab.1 hab.2
  rw [e] at h ⊢
  unfold quT at h ⊢
  by_cases h10:c.length≤10
  ·rw [if_pos h10] at h ⊢
   exact ⟨hab.1,hab.2,hc,Vg.2 ⟨qEO (Vg.1 hab.1).1 (Vg.1 hab.2).1 hc,h10⟩⟩
  ·rw [if_neg h10] at h; cases h
 ·rw [qJV fa fb hab] at h; cases h
theorem qpA {e:qa} (h1:e.F.length < N) (h2:e.F.length≤4611686018427387904):Qb N (qd.mk [e]):=by
 have:=big N
 refine ⟨by show 1 < N; omega,by show 1≤4611686018427387904; omega,fun k hk=>?_⟩
 have hk:k < 1:=hk
 obtain rfl:k=0:=by omega
 exact ⟨h1,h2⟩
theorem qD0 {b:qd} {e:qa} (fb:Qb N b) (h1:e.F.length < N) (h2:e.F.length≤4611686018427387904) (h:(QH N b e).2=0):Qb N (QH N b e).1:=by
 unfold QH at *
 split
 ·exact fb
 ·rename_i hn
  rw [if_neg hn] at h
  exact qd_ (qz_ fb (qpA h1 h2) h).2.2.2
theorem qtz {b : qd} {e : qa} {s47 : List qa} {k : Nat} (hk : k < s47.length) (hs : s47.length ≤ 10) (he : s47.getD k zR = e) (fb : Qb N b) (h1 : e.F.length < N) (h2 : e.F.length ≤ 4611686018427387904) :
    (VV N [] s47 ((s47.length:Nat):Int) (b,(k:Int))).run some=some (if (QH N b e).2=0 then .inl ((QH N b e).1,((k + 1:Nat):Int)) else .inr (.inr (QH N b e).2)):=by
 unfold VV
 refine w_t (dec_lt hk) <| qB ((jM (d:=zR) hk).trans (by rw [he])) <| qB (by
  have e0:eqE qn (qa.qX e) (qe.mk 0 0)=decide (e.qX=zSt):=qla _ _
  have e2:decide (((e.F.length:Nat):Int)=0)=decide (e.F.length=0):=decide_eq_decide.2 (by omega)
  show XN e=some (JS e)
  unfold XN qaV JS
  refine jI e0 (fun h=>qE ?_) fun h=>qE ?_
  ·rw [h]; exact congrArg some e2
  ·rw [h]; rfl) ?_
 cases hn:JS e with
 | true=>
  rw [qEq hn]
  exact w_t rfl <| zd (Q2 (by omega)) <| qE (by rw [zy]; rfl)
 | false=>
  rw [qD3 hn]
  refine w_f rfl <| qB (qJW fb (qpA h1 h2)) ?_
  by_cases hz:(jB N b (qd.mk [e])).2=0
  ·rw [if_pos hz]
   exact w_f (by rw [decide_eq_true hz]; rfl) <| zd (Q2 (by omega)) <| qE (by rw [zy])
  ·rw [if_neg hz]
   exact w_t (by rw [decide_eq_false hz]; rfl) <| qE rfl
theorem qG6 {b : qd} {e1 e2 : qa} (fb : Qb N b) (h1 : e1.F.length < N ∧ e1.F.length ≤ 4611686018427387904) (h2 : e2.F.length < N ∧ e2.F.length ≤ 4611686018427387904) :
    ∃ z,VS N [] [e1,e2] ((([e1,e2]:List qa).length:Nat):Int) b 0=some z∧(match z with | .inl w=>(w.1,(0:Int)) | .inr e=>(qd.mk [],e))=qrO N b e1 e2:=by
 obtain ⟨M,hM⟩:∃ M,N=M + 3:=⟨N - 3,by have:=big N; omega⟩
 have s0:VS N [] [e1,e2] ((([e1,e2]:List qa).length:Nat):Int) b 0=q6 (VV N [] [e1,e2] ((([e1,e2]:List qa).length:Nat):Int)) some (M + 3) (b,((0:Nat):Int)):=by rw [← hM]; rfl
 rw [s0]
 have r1:=qtz (N:=N) (b:=b) (e:=e1) (s47:=[e1,e2]) (k:=0) (by simp) (by simp) rfl fb h1.1 h1.2
 unfold qrO
 by_cases z1:(QH N b e1).2=0
 ·rw [if_pos z1] at r1 ⊢
  rw [Jt r1]
  have r2:=qtz (N:=N) (b:=(QH N b e1).1) (e:=e2) (s47:=[e1,e2]) (k:=1) (by simp) (by simp) rfl (qD0 fb h1.1 h1.2 z1) h2.1 h2.2
  by_cases z2:(QH N (QH N b e1).1 e2).2=0
  ·rw [if_pos z2] at r2 ⊢
   rw [Jt r2,zM (x:=.inl ((QH N (QH N b e1).1 e2).1,((2:Nat):Int),false)) (by
    unfold VV
    exact w_f rfl (qE rfl))]
   exact ⟨_,rfl,rfl⟩
  ·rw [if_neg z2] at r2 ⊢
   rw [zM r2]
   exact ⟨_,rfl,rfl⟩
 ·rw [if_neg z1] at r1 ⊢
  rw [zM r1]
  exact ⟨_,rfl,rfl⟩
theorem qDb {b:qd} {p:qa} (fb:Qb N b) (h1:p.F.length < N) (h2:p.F.length≤4611686018427387904):Xn N b p=some (Wv N b p):=by
 have hN:=big N
 have hn:XN p=some (JS p):=by
  have e0:eqE qn (qa.qX p) (qe.mk 0 0)=decide (p.qX=zSt):=qla _ _
  have e2:decide (((p.F.length:Nat):Int)=0)=decide (p.F.length=0):=decide_eq_decide.2 (by omega)
  unfold XN qaV JS
  refine jI e0 (fun h=>qE ?_) fun h=>qE ?_
  ·rw [h]; exact congrArg some e2
  ·rw [h]; rfl
 obtain ⟨z,ez,hz⟩:=qG6 (N:=N) (b:=b) (e1:=XW p) (e2:=Jj p) fb ⟨by show 0 < N; omega,Nat.zero_le _⟩ ⟨h1,h2⟩
 have fin:(Tree.bind (jV [(([]:List qa).length,0)] (VS N [] [XW p,Jj p] ((([XW p,Jj p]:List qa).length:Nat):Int) b 0)) fun z5=>.sum z5 (fun z6=>.ret (z6.1,(0:Int))) fun z6=>.chk (0=0) (.ret (qd.mk [],z6))).run some=some (qrO N b (XW p) (Jj p)):=by
  refine qB ((jF rfl).trans ez) ?_
  rw [← hz]
  cases z with
  | inl w=>rfl
  | inr e=>exact w_r rfl <| zd rfl <| qE rfl
 unfold Xn qgw Wv qvG
 refine qB (qmE fb) ?_
 cases hb:zX b with
 | false=>exact w_t rfl <| zd rfl <| qE rfl
 | true=>
  refine w_f rfl <| qB hn ?_
  cases hnp:JS p with
  | true=>exact w_t rfl <| zd rfl <| qE rfl
  | false=>
   refine w_f rfl <| qB (qis _) ?_
   have hst:stB (qa.qX p)=stB p.qX:=rfl
   rw [hst]
   cases hs:stB p.qX with
   | false=>exact w_t rfl <| zd rfl <| qE rfl
   | true=>
    refine w_f rfl ?_
    by_cases h0:p.F.length=0
    ·rw [decide_eq_true h0]
     exact w_f (decide_eq_false (by show ¬ (0:Int) < ((p.F.length:Nat):Int); omega)) fin
    ·rw [decide_eq_false h0]
     refine w_t (decide_eq_true (by show (0:Int) < ((p.F.length:Nat):Int); omega)) <| qB (qmU (r:=Jj p) h1 h2) ?_
     cases hr:jr (Jj p) with
     | false=>exact w_t rfl <| zd rfl <| qE rfl
     | true=>exact w_f rfl fin
end
end Go.Rx
end
set_option maxRecDepth 100000
noncomputable section
namespace Go.Rx
open Go.Proofs
theorem qHC {l : Option (Unit ⊕ (Int × Bool))} {n m : Nat} {q : Nat → Bool} (h : n = m → l = some (if Qk q n then .inr (((n : Nat) : Int), false) else .inl ())) :
    (Tree.cond (!decide (((n:Nat):Int)=((m:Nat):Int))) (.ret false) (.bind l fun z=>.sum z (fun _=>.ret false) fun _=>.ret true)).run some=some (decide (n=m)&&Qk q n):=by
 have e:decide (((n:Nat):Int)=((m:Nat):Int))=decide (n=m):=decide_eq_decide.2 (by omega)
 rw [qI,e,qS,run_bind]
 by_cases hn:n=m
 ·rw [decide_eq_true hn,h hn]
  cases Qk q n<;>rfl
 ·rw [decide_eq_false hn]; rfl
theorem qvi {α:Type} {d:α}:∀ {a b:List α},a.length=b.length→(∀ k,k < a.length→a.getD k d=b.getD k d)→a=b
 | [],[],_,_=>rfl
 | [],_::_,h,_=>by simp at h
 | _::_,[],h,_=>by simp at h
 | x::a,y::b,h,hk=>by
  have h0:=hk 0 (by simp)
  simp only [List.getD_cons_zero] at h0
  rw [h0,qvi (a:=a) (b:=b) (by simpa using h) fun k hk'=>by
   have:=hk (k + 1) (by simp; omega)
   simpa using this]
theorem qAe {t:Ty} {sz:Nat} (a b:List (El t)) (d:El t):(decide (a.length=b.length)&&Qk (fun k=>eqE t (a.getD k d) (b.getD k d)) a.length)=eqE (.sl sz t) a b:=by
 refine Bool.eq_iff_iff.2 (Iff.trans ?_ (Qy (.sl sz t) a b).symm)
 rw [Bool.and_eq_true,decide_eq_true_iff,Vz]
 constructor
 ·rintro ⟨h1,h2⟩
  exact qvi (d:=d) h1 fun k hk=>(Qy t _ _).1 (h2 k hk)
 ·intro h
  subst h
  exact ⟨rfl,fun k _=>(Qy t _ _).2 rfl⟩
end Go.Rx
end
set_option maxRecDepth 100000
noncomputable section
namespace Go.Rx
open Go.Proofs
section n
variable {N:Nat} [Zs N]
theorem qyP {a b:List qb} (hN:a.length < N) (h62:a.length≤4611686018427387904):Vc N a b=some (eqE (.sl 4 qp) a b):=by
 unfold Vc XA
 rw [qHC (q:=fun k=>eqE qp (a.getD k zF) (b.getD k zF)) fun hl=>?_]
 ·rw [show (decide (a.length=b.length)&&Qk (fun k=>eqE qp (a.getD k zF) (b.getD k zF)) a.length)=eqE (.sl 4 qp) a b from qAe (t:=qp) a b zF]
 ·refine Xp (B:=Zb N a b ((a.length:Nat):Int)) (g:=some) (fun k hk=>?_) ?_ hN
  ·have hk2:k < b.length:=by omega
   unfold Zb
   rw [qI,dec_lt hk,cond_true,run_bind,jM (d:=zF) hk,Option.bind_some,run_bind,jM (d:=zF) hk2,Option.bind_some,qI,qS,zx,qm (show qz ((k:Int) + 1) by unfold qz; omega),qS,zy]
   cases eqE qp (a.getD k zF) (b.getD k zF)<;>rfl
  ·unfold Zb
   rw [qI,jq (Nat.lt_irrefl _),cond_false,qS]
theorem qJQ (r s:qa):eqE qg r s=(eqE (.ba 16) r.ID s.ID&&(eqE qn r.qX s.qX&&eqE (.sl 4 qp) r.F s.F)):=by
 show (eqE (.ba 16) _ _&&(eqE qn _ _&&(eqE (.sl 4 qp) _ _&&true)))=_
 rw [Bool.and_true]
 rfl
theorem qBL {r s:qa} (hN:r.F.length < N) (h62:r.F.length≤4611686018427387904):qjk N r s=some (eqE qg r s):=by
 unfold qjk qiU
 rw [qJQ,qI,qS,qI,qS,run_bind,qyP hN h62,Option.bind_some,qS]
 cases eqE (.ba 16) r.ID s.ID<;>cases eqE qn r.qX s.qX<;>rfl
theorem qEP {a b:List qa} (hN:a.length < N) (h62:a.length≤4611686018427387904) (hF:∀ k,k < a.length→(a.getD k zR).F.length < N∧(a.getD k zR).F.length≤4611686018427387904):Jn N a b=some (eqE (.sl 19 qg) a b):=by
 unfold Jn Vp
 rw [qHC (q:=fun k=>eqE qg (a.getD k zR) (b.getD k zR)) fun hl=>?_]
 ·rw [show (decide (a.length=b.length)&&Qk (fun k=>eqE qg (a.getD k zR) (b.getD k zR)) a.length)=eqE (.sl 19 qg) a b from qAe (t:=qg) a b zR]
 ·refine Xp (B:=QB N b a ((a.length:Nat):Int)) (g:=some) (fun k hk=>?_) ?_ hN
  ·have hk2:k < b.length:=by omega
   unfold QB
   rw [qI,dec_lt hk,cond_true,run_bind,jM (d:=zR) hk,Option.bind_some,run_bind,jM (d:=zR) hk2,Option.bind_some,run_bind,qBL (hF k hk).1 (hF k hk).2,Option.bind_some,qI,qS,zx,qm (show qz ((k:Int) + 1) by unfold qz; omega),qS,zy]
   cases eqE qg (a.getD k zR) (b.getD k zR)<;>rfl
  ·unfold QB
   rw [qI,jq (Nat.lt_irrefl _),cond_false,qS]
theorem qF3 {a b:qd} (hf:Qb N a):qfY N a b=some (eqE (.sl 19 qg) a.R b.R):=by
 unfold qfY qgF
 rw [run_bind,qEP hf.1 hf.2.1 hf.2.2,Option.bind_some,qS]
end n
end Go.Rx
end
set_option maxRecDepth 100000
noncomputable section
namespace Go.Rx
open Go.Proofs
def oP (e:qa) (id:Vector UInt8 16):Option qa:=if JS e=true then none else rO [e] id
theorem qIl {p:qa} (hs:stB p.qX=true):JS (XW p)=true∨jr (XW p)=true:=by
 by_cases h:p.qX=zSt
 ·left
  show (decide (p.qX=zSt)&&true)=true
  rw [decide_eq_true h]; rfl
 ·right
  exact YH.2 ⟨hs,.inr h,List.Pairwise.nil,fun f hf=>absurd hf List.not_mem_nil⟩
theorem quS {e:qa} (he:JS e=true∨jr e=true) (id:Vector UInt8 16):VO id (oP e id):=by
 unfold oP
 split
 ·exact qIn
 ·rename_i hn
  have hr:=he.resolve_left hn
  exact qHK (fun r hr'=>by rw [List.mem_singleton.1 hr']; exact hr) id
section
variable {N:Nat} [Zs N]
theorem qto {b : qd} {e : qa} (hb : zX b = true) (h1 : e.F.length < N) (h2 : e.F.length ≤ 4611686018427387904) (h : (QH N b e).2 = 0) :
    zX (QH N b e).1=true∧∀ id,rO (QH N b e).1.R id=jR (rO b.R id) (oP e id):=by
 cases hn:JS e with
 | true=>
  rw [qEq hn]
  refine ⟨hb,fun id=>?_⟩
  unfold oP
  rw [if_pos hn,qrR]
 | false=>
  rw [qD3 hn] at h ⊢
  obtain ⟨_,_,hj,hv⟩:=qz_ (qd_ hb) (qpA h1 h2) h
  refine ⟨hv,fun id=>?_⟩
  rw [hj.2 id]
  unfold oP
  rw [if_neg (by rw [hn]; simp)]; rfl
theorem qwj {b:qd} {p:qa} (h:(Wv N b p).2≠0):(Wv N b p).1=qd.mk []:=by
 unfold Wv qrO at *
 split at h
 ·rename_i h1
  rw [if_pos h1]
  split at h
  ·rename_i h2
   rw [if_pos h2]
   split at h
   ·exact (h rfl).elim
   ·rename_i h3
    rw [if_neg h3]
  ·rename_i h2
   rw [if_neg h2]
 ·rename_i h1
  rw [if_neg h1]
theorem qtb {b:qd} {p:qa} (h:(Wv N b p).2=0):qvG b p=true∧(QH N b (XW p)).2=0∧(QH N (QH N b (XW p)).1 (Jj p)).2=0∧Wv N b p=((QH N (QH N b (XW p)).1 (Jj p)).1,0):=by
 unfold Wv qrO at *
 split at h
 ·rename_i h1
  rw [if_pos h1]
  split at h
  ·rename_i h2
   rw [if_pos h2]
   split at h
   ·rename_i h3
    rw [if_pos h3]
    exact ⟨h1,h2,h3,rfl⟩
   ·rename_i h3
    exact (h3 h).elim
  ·rename_i h2
   exact (h2 h).elim
 ·cases h
theorem qwE {b:qd} {p:qa}:qvG b p=true↔zX b=true∧JS p=false∧stB p.qX=true∧(p.F.length=0∨jr (Jj p)=true):=by
 unfold qvG
 rw [Bool.and_eq_true,Bool.and_eq_true,Bool.and_eq_true,Bool.or_eq_true,Bool.not_eq_true',decide_eq_true_iff]
theorem qIP {p:qa} (h:p.F.length=0∨jr (Jj p)=true):JS (Jj p)=true∨jr (Jj p)=true:=by
 refine h.imp (fun h0=>?_) id
 show (true&&decide (p.F.length=0))=true
 rw [decide_eq_true h0]; rfl
theorem qIE {b : qd} {p : qa} (h1 : p.F.length < N) (h2 : p.F.length ≤ 4611686018427387904) (h : (Wv N b p).2 = 0) :
    zX b=true∧zX (Wv N b p).1=true∧(∀ id,rO (Wv N b p).1.R id=jR (jR (rO b.R id) (oP (XW p) id)) (oP (Jj p) id)):=by
 obtain ⟨ha,z1,z2,e⟩:=qtb h
 obtain ⟨hb,hn,hs,hl⟩:=qwE.1 ha
 obtain ⟨v1,r1⟩:=qto (e:=XW p) hb (by have:=big N; show 0 < N; omega) (Nat.zero_le _) z1
 obtain ⟨v2,r2⟩:=qto (e:=Jj p) v1 h1 h2 z2
 rw [e]
 exact ⟨hb,v2,fun id=>by rw [r2,r1]⟩
end
end Go.Rx
end
set_option maxRecDepth 100000
noncomputable section
namespace Go.Rx
open Go.Proofs
def qrL (o:qf):qa:=qa.mk o.ID o.S []
def qpC (o:qf) (v:List UInt8):qa:=qa.mk o.ID zSt [qb.mk o.No (qc.mk o.S v)]
def qjt (b:qd) (id:Vector UInt8 16) (no:Int):List UInt8×Int:=
 if (cellAt (recAt b id).1 no).2=true then ((cellAt (recAt b id).1 no).1.V,0) else ([],6)
def qvz (o:qf) (x:List UInt8×Int):List UInt8×Int:=if x.2=0 then (if Q5 x.1=o.D then x else ([],7)) else x
def qAX (N:Nat) (b:qd) (o:qf) (x:List UInt8×Int):qd×Int:=if x.2=0 then Wv N b (qpC o x.1) else (qd.mk [],x.2)
theorem qA8 {b:qd} (h:zX b=true) (id:Vector UInt8 16):(recAt b id).1.F.length≤8:=by
 unfold recAt
 cases e:qsB b.R id with
 | none=>exact Nat.zero_le _
 | some i=>exact qb1 ((qcJ.1 h).1 i (qlJ e).1).1
theorem qyj {b:qd} (h:zX b=true) (id:Vector UInt8 16) (no:Int):(cellAt (recAt b id).1 no).1.V.length≤200:=by
 unfold cellAt
 cases e:qvL (recAt b id).1.F no with
 | none=>exact Nat.zero_le _
 | some j=>
  unfold recAt at e ⊢
  cases e2:qsB b.R id with
  | none=>rw [e2] at e; cases e
  | some i=>
   rw [e2] at e
   exact qvb (qAH ((qcJ.1 h).1 i (qlJ e2).1).1 j (qlJ e).1)
section
variable {N:Nat} [Zs N]
theorem qFm {b:qd} (h:zX b=true) (o:qf) (id:Vector UInt8 16) (no:Int):Xi N (qW.mk b o) id no=some (qjt b id no):=by
 unfold Xi qak qjt
 refine qB (qFf h id) <| qB (qFp (qA8 h id) no) ?_
 cases e:(cellAt (recAt b id).1 no).2 with
 | true=>exact w_f rfl (qE rfl)
 | false=>exact w_t rfl (qE rfl)
theorem qHQ (b:qd) (o:qf) {v:List UInt8} {e:Int} (h:v.length≤50000):VK N (qW.mk b o) v e=some (qvz o (v,e)):=by
 unfold VK WC qvz
 refine jI rfl (fun h0=>?_) fun h0=>qE (by rw [if_neg (of_decide_eq_false h0)])
 rw [if_pos (of_decide_eq_true h0)]
 refine qB (qoH h) ?_
 have e2:eqE (.ba 32) (Q5 v) (qf.D (qW.o (qW.mk b o)))=decide (Q5 v=o.D):=qJD _ _
 refine jI (by rw [e2]) (fun h1=>qE ?_) fun h1=>qE ?_
 ·rw [Bool.not_eq_true'] at h1
  exact congrArg some (if_neg (of_decide_eq_false h1)).symm
 ·rw [Bool.not_eq_false'] at h1
  exact congrArg some (if_pos (of_decide_eq_true h1)).symm
theorem qD6 {b:qd} (h:zX b=true) (o:qf):XG N (qW.mk b o)=some (qvz o (qjt b o.XU o.Jb)):=by
 unfold XG Yv
 have hl:(qjt b o.XU o.Jb).1.length≤50000:=by
  unfold qjt
  split
  ·have:=qyj h o.XU o.Jb; show (cellAt (recAt b o.XU).1 o.Jb).1.V.length≤50000; omega
  ·exact Nat.zero_le _
 exact qB (qFm h o _ _) <| qB (qHQ b o hl) <| qE rfl
def qba (b:qd) (o:qf) (m:List UInt8×Int):List UInt8×Int:=if o.Kind=1 then (o.V,0) else if o.Kind=2 then qvz o (qjt b o.XU o.Jb) else m
def doD (N:Nat) (b:qd) (o:qf) (m:List UInt8×Int):qd×Int:=
 if zX b=true∧opB o=true then (if o.Kind=0 then Wv N b (qrL o) else qAX N b o (qba b o m)) else (qd.mk [],1)
theorem qFI {o:qf} (h:opB o=true):0≤o.Kind∧o.Kind < 4:=by
 unfold opB at h
 simp only [Bool.and_eq_true,Bool.not_eq_true',decide_eq_false_iff_not] at h
 omega
theorem quY {b:qd} {o:qf} (fb:Qb N b) (hl:(qf.P o).length < N) (hl2:(qf.P o).length≤1000000000000000) (hk:o.Kind≠3) (m:List UInt8×Int):qiu N b o=some (doD N b o m):=by
 have hN:=big N
 have add1:∀ v,Xn N b (qpC o v)=some (Wv N b (qpC o v)):=fun v=>qDb fb (by show 1 < N; omega) (by show 1≤4611686018427387904; omega)
 unfold qiu qsm doD
 refine qB (qmE fb) ?_
 cases hb:zX b with
 | false=>exact w_t rfl <| zd rfl <| qE (by rw [if_neg (fun h=>by cases h.1)])
 | true=>
  refine w_f rfl <| qB (qGe hl hl2) ?_
  cases ho:opB o with
  | false=>exact w_t rfl <| zd rfl <| qE (by rw [if_neg (fun h=>by cases h.2)])
  | true=>
   refine w_f rfl ?_
   rw [if_pos ⟨rfl,rfl⟩]
   unfold qba
   refine jI rfl (fun h0=>?_) fun h0=>?_
   ·rw [if_pos (of_decide_eq_true h0)]
    exact zd (by omega) <| qB (qDb (p:=qrL o) fb (by show 0 < N; omega) (Nat.zero_le _)) <| qE rfl
   rw [if_neg (of_decide_eq_false h0)]
   refine jI rfl (fun h1=>?_) fun h1=>?_
   ·rw [if_pos (of_decide_eq_true h1)]
    exact zd (by omega) <| qB (show qdj (qW.mk b o)=some () from rfl) <| qB (add1 o.V) <| qE rfl
   rw [if_neg (of_decide_eq_false h1)]
   refine jI rfl (fun h2=>?_) fun h2=>?_
   ·rw [if_pos (of_decide_eq_true h2)]
    refine zd (by omega) <| qB (qD6 hb o) ?_
    unfold qAX
    by_cases hz:(qvz o (qjt b o.XU o.Jb)).2=0
    ·rw [if_pos hz]
     exact w_f (by rw [decide_eq_true hz]; rfl) <| qB (add1 _) <| qE rfl
    ·rw [if_neg hz]
     exact w_t (by rw [decide_eq_false hz]; rfl) <| zd rfl <| qE rfl
   have:=qFI ho
   have h0:=of_decide_eq_false h0; have h1:=of_decide_eq_false h1; have h2:=of_decide_eq_false h2
   exact (hk (by omega)).elim
theorem qes {b : qd} {o : qf} {m : List UInt8 × Int} (h : (doD N b o m).2 = 0) :
    zX b=true∧opB o=true∧∃ p:qa,p.F.length≤1∧p.ID=o.ID∧doD N b o m=Wv N b p∧(o.Kind=0∧p=qrL o∨o.Kind≠0∧(qba b o m).2=0∧p=qpC o (qba b o m).1):=by
 unfold doD at h ⊢
 by_cases hb:zX b=true∧opB o=true
 ·rw [if_pos hb] at h ⊢
  refine ⟨hb.1,hb.2,?_⟩
  by_cases h0:o.Kind=0
  ·rw [if_pos h0] at h ⊢
   exact ⟨qrL o,Nat.zero_le _,rfl,rfl,.inl ⟨h0,rfl⟩⟩
  ·rw [if_neg h0] at h ⊢
   unfold qAX at h ⊢
   by_cases hz:(qba b o m).2=0
   ·rw [if_pos hz] at h ⊢
    exact ⟨qpC o (qba b o m).1,Nat.le_refl _,rfl,rfl,.inr ⟨h0,hz,rfl⟩⟩
   ·rw [if_neg hz] at h
    exact (hz h).elim
 ·rw [if_neg hb] at h; cases h
end
end Go.Rx
end
set_option maxRecDepth 100000
noncomputable section
namespace Go.Rx
open Go.Proofs
section
variable {N:Nat} [Zs N]
theorem qvH (o:qf):∃ x,Qj N o=some x∧(x=true→(qf.P o).length≤80∧(qf.V o).length≤300∧∀ k,k < (qf.P o).length→((qf.P o).getD k zP).Lit.length≤300):=by
 have hN:=big N
 by_cases h1:(qf.P o).length≤80
 ·by_cases h2:(qf.V o).length≤300
  ·have hl : Wy N o 0 = some (if Qk (fun k => decide (((qf.P o).getD k zP).Lit.length ≤ 300)) (qf.P o).length then .inr (((qf.P o).length : Nat), false) else .inl ()) := by
      refine (Xp (B:=ZU N o) (g:=some) (q:=fun k=>decide (((qf.P o).getD k zP).Lit.length≤300)) (n:=(qf.P o).length) (hit:=()) (fun k hk=>?_) ?_ (by omega))
      ·unfold ZU
       refine w_t (dec_lt hk) <| qB (jM (d:=zP) hk) ?_
       by_cases h:((qf.P o).getD k zP).Lit.length≤300
       ·rw [decide_eq_true h]
        exact w_f (decide_eq_false (by show ¬ (300:Int) < ((((qf.P o).getD k zP).Lit.length:Nat):Int); omega)) <| zd (Q2 (by omega)) <| qE (by rw [zy]; rfl)
       ·rw [decide_eq_false h]
        exact w_t (decide_eq_true (by show (300:Int) < ((((qf.P o).getD k zP).Lit.length:Nat):Int); omega)) <| qE rfl
      ·unfold ZU
       exact w_f (jq (Nat.lt_irrefl _)) (qE (by rw [jq (Nat.lt_irrefl _)]))
   refine ⟨Qk (fun k=>decide (((qf.P o).getD k zP).Lit.length≤300)) (qf.P o).length,?_,fun h=>⟨h1,h2,fun k hk=>of_decide_eq_true (Vz.1 h k hk)⟩⟩
   unfold Qj ZH
   refine w_f (decide_eq_false (by omega)) <| w_f (decide_eq_false (by omega)) <| qB hl ?_
   cases Qk (fun k=>decide (((qf.P o).getD k zP).Lit.length≤300)) (qf.P o).length<;>rfl
  ·refine ⟨false,?_,fun h=>by cases h⟩
   unfold Qj ZH
   exact w_f (decide_eq_false (by omega)) <| w_t (decide_eq_true (by omega)) <| qE rfl
 ·refine ⟨false,?_,fun h=>by cases h⟩
  unfold Qj ZH
  exact w_t (decide_eq_true (by omega)) <| qE rfl
end
end Go.Rx
end
set_option maxRecDepth 100000
noncomputable section
namespace Go.Rx
open Go.Proofs
theorem qmL {id:Vector UInt8 16} {a u v:Option qa} (ha:VO id a) (hu:VO id u) (hv:VO id v):jR (jR a u) v=jR (jR a v) u:=by rw [qxh ha hu hv,qIS hu hv,← qxh ha hv hu]
def qxn (p:qa):Prop:=(JS (XW p)=true∨jr (XW p)=true)∧(JS (Jj p)=true∨jr (Jj p)=true)
def jP (a:Option qa) (p:qa) (id:Vector UInt8 16):Option qa:=jR (jR a (oP (XW p) id)) (oP (Jj p) id)
theorem qH4 {id:Vector UInt8 16} {a:Option qa} (ha:VO id a) {p q:qa} (hp:qxn p) (hq:qxn q):jP (jP a p id) q id=jP (jP a q id) p id:=by
 have h1:=quS hp.1 id; have h2:=quS hp.2 id; have h3:=quS hq.1 id; have h4:=quS hq.2 id
 unfold jP
 rw [qmL (qu2 ha h1) h2 h3,qmL ha h1 h3,qmL (qu2 (qu2 ha h3) h1) h2 h4,qmL (qu2 ha h3) h1 h4]
section
variable {N:Nat} [Zs N]
theorem qat {b : qd} {p : qa} (h1 : p.F.length < N) (h2 : p.F.length ≤ 4611686018427387904) (h : (Wv N b p).2 = 0) :
    zX b=true∧zX (Wv N b p).1=true∧qxn p∧∀ id,rO (Wv N b p).1.R id=jP (rO b.R id) p id:=by
 obtain ⟨hb,hc,hr⟩:=qIE h1 h2 h
 obtain ⟨_,_,hs,hl⟩:=qwE.1 (qtb h).1
 exact ⟨hb,hc,⟨qIl hs,qIP hl⟩,hr⟩
theorem qDT {b:qd} (fb:Qb N b) (o p:qf):v5 N b o p=some true:=by
 have hN:=big N
 obtain ⟨x,ex⟩:=qH5 (N:=N) b
 obtain ⟨y,ey,hy⟩:=qvH (N:=N) o
 obtain ⟨z,ez,hz⟩:=qvH (N:=N) p
 unfold v5 VX
 refine qB (show qvg=some true from rfl) <| qB ex <| qB ey <| qB ez <| w_f rfl ?_
 cases x with
 | false=>rfl
 | true=>
 refine w_f rfl ?_
 cases y with
 | false=>rfl
 | true=>
 refine w_f rfl ?_
 cases z with
 | false=>rfl
 | true=>
 refine w_f rfl ?_
 obtain ⟨hy1,_⟩:=hy rfl
 obtain ⟨hz1,_⟩:=hz rfl
 refine jI rfl (fun _=>rfl) fun h1=>jI rfl (fun _=>rfl) fun h2=>?_
 have h1:=of_decide_eq_false h1; have h2:=of_decide_eq_false h2
 have k1:o.Kind≠3:=fun e=>by rw [e] at h1; omega
 have k2:p.Kind≠3:=fun e=>by rw [e] at h2; omega
 have fits1:∀ {c:qd} {q:qf},Qb N (doD N c q ([],0)).1:=fun {c q}=>by
  by_cases hd:(doD N c q ([],0)).2=0
  ·obtain ⟨_,_,r,hr1,_,e,_⟩:=qes hd
   rw [e] at hd ⊢
   exact qd_ (qat (by omega) (by omega) hd).2.1
  ·have : (doD N c q ([], 0)).1 = qd.mk [] := by
      unfold doD at hd ⊢
      split
      ·rename_i hb
       rw [if_pos hb] at hd
       split
       ·rename_i h0; rw [if_pos h0] at hd; exact qwj hd
       ·rename_i h0
        rw [if_neg h0] at hd
        unfold qAX at hd ⊢
        split
        ·rename_i h3; rw [if_pos h3] at hd; exact qwj hd
        ·rfl
      ·rfl
   rw [this]
   exact ⟨by show 0 < N; omega,Nat.zero_le _,fun k hk=>absurd hk (Nat.not_lt_zero k)⟩
 refine qB (quY fb (by omega) (by omega) k1 ([],0)) <| qB (quY fits1 (by omega) (by omega) k2 ([],0)) <| qB (quY fb (by omega) (by omega) k2 ([],0)) <| qB (quY fits1 (by omega) (by omega) k1 ([],0)) ?_
 refine jI rfl (fun _=>rfl) fun z1=>jI rfl (fun _=>rfl) fun z2=>jI rfl (fun _=>rfl) fun z3=>jI rfl (fun _=>rfl) fun z4=>?_
 rw [Bool.not_eq_false'] at z1 z2 z3 z4
 have z1:=of_decide_eq_true z1; have z2:=of_decide_eq_true z2; have z3:=of_decide_eq_true z3; have z4:=of_decide_eq_true z4
 obtain ⟨_,_,q1,l1,_,e1,d1⟩:=qes z1
 obtain ⟨_,_,q2,l2,_,e2,d2⟩:=qes z2
 obtain ⟨_,_,q3,l3,_,e3,d3⟩:=qes z3
 obtain ⟨_,_,q4,l4,_,e4,d4⟩:=qes z4
 have part:∀ {c c':qd} {o:qf} {r r':qa},¬ (1 < o.Kind)→(o.Kind=0∧r=qrL o∨o.Kind≠0∧(qba c o ([],0)).2=0∧r=qpC o (qba c o ([],0)).1)→(o.Kind=0∧r'=qrL o∨o.Kind≠0∧(qba c' o ([],0)).2=0∧r'=qpC o (qba c' o ([],0)).1)→r=r':=by
  intro c c' o r r' h hr hr'
  rcases hr with ⟨h0,rfl⟩ | ⟨h0,hv,rfl⟩<;>rcases hr' with ⟨h0',rfl⟩ | ⟨h0',hv',rfl⟩
  ·rfl
  ·exact (h0' h0).elim
  ·exact (h0 h0').elim
  ·have : ∀ c, qba c o ([], 0) = qba c' o ([], 0) := fun c => by
      by_cases e:o.Kind=1
      ·unfold qba; rw [if_pos e,if_pos e]
      ·unfold qba
       rw [if_neg e,if_neg e,if_neg (by omega),if_neg (by omega)]
   rw [this c]
 obtain rfl:=part h1 d1 d4
 obtain rfl:=part h2 d2 d3
 rw [e1] at z1; rw [e2] at z2; rw [e3] at z3; rw [e4] at z4
 obtain ⟨_,_,p1,r1⟩:=qat (by omega) (by omega) z1
 obtain ⟨_,c2,p2,r2⟩:=qat (by omega) (by omega) z2
 obtain ⟨_,_,_,r3⟩:=qat (by omega) (by omega) z3
 obtain ⟨_,c4,_,r4⟩:=qat (by omega) (by omega) z4
 have hb:=(qat (by omega) (by omega) z1).1
 rw [e2,e4]
 refine qB (qF3 (qd_ c2)) <| qE (congrArg some ((Qy (.sl 19 qg) _ _).2 (qwe (Vg.1 c2).1.1 (Vg.1 c4).1.1 fun id=>?_)))
 have hv:VO id (rO b.R id):=qHK (Vg.1 hb).1.2 id
 rw [r2,r4,e1,e3,r1,r3,qH4 hv p1 p2]
end
theorem qJn (b:qd) (o p:qf) (h1:b.R.length≤4611686018427387904) (h2:∀ k,k < b.R.length→(b.R.getD k zR).F.length≤4611686018427387904):∃ N:Nat,v5 N b o p=some true:=by
 obtain ⟨M,hM⟩:=qJX b h1 h2
 have:Zs (100000 + M):=Zs.of (by omega)
 exact ⟨_,qDT (hM (100000 + M) (by omega)) o p⟩
end Go.Rx
end
