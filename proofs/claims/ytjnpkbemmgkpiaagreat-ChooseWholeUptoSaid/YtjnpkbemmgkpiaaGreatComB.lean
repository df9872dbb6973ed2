/- A machine over pure data, sound for the model: a part of the proof of the laws. No condition. -/
import Derived.RangeFuncLeaves
import Derived.RangeFuncCalls
import Derived.RangeFuncRecord
import Derived.LoopNIn
import Derived.OrdersIn
import Derived.LoopN
import Derived.Scope
import Derived.Orders
import Derived.KernelRfl
import Derived.IntWalk
import Derived.Test.YtjnpkbemmgkpiaaGreatComA
set_option linter.unusedSimpArgs false
set_option linter.unusedVariables false
set_option linter.unusedSectionVars false
noncomputable section
namespace Go.Rx
section g
variable {P:Program} {ob:Ob} {γ:Hm} {G:Gh} {w:World}
theorem qU6 {α:Type} (a:Array α) (i:Nat) (x:α) (h:a[i]?=some x):a.setIfInBounds i x=a:=by
 apply Array.ext_getElem?
 intro j
 by_cases hj:j=i
 ·subst hj
  rw [YD _ _ _ (Array.getElem?_eq_some_iff.1 h).1,h]
 ·rw [ZU _ _ _ _ hj]
theorem qNN {α:Type} (a:Array α) (i:Nat) (f:α→α) (x:α) (h:a[i]?=some x):a.modify i f=a.setIfInBounds i (f x):=by
 have hi:=(Array.getElem?_eq_some_iff.1 h).1
 have hx:=(Array.getElem?_eq_some_iff.1 h).2
 apply Array.ext
 ·simp
 ·intro j h1 h2
  simp only [Array.getElem_modify]
  by_cases e:i=j
  ·subst e; simp [hx]
  ·rw [if_neg e,Array.getElem_setIfInBounds_ne (by simpa using h1) e]
theorem qhD (b : Nat) (el : TypeId) (fr : Nat × Nat) : ∀ (dy : List Value) (i : Nat) (w : World) (c d e : List Value) (o : Nat), w.heap[b]? = some (.cells (c ++ d ++ e).toArray el fr) → d.length = dy.length → c.length = o + i →
    (∀ j,c.length≤j→j < c.length + d.length→¬ (fr.1≤j∧j < fr.2))→(∀ v∈dy,v.oneCell'=true)→
    (storeCells ⟨b,o,none⟩ dy i).run P w=.ok () { w with heap:=w.heap.setIfInBounds b (.cells (c++dy++e).toArray el fr) }
 | [],i,w,c,d,e,o,hb,hd,hc,hf,h1=>by
  have:d=[]:=List.length_eq_zero_iff.1 (by simpa using hd)
  subst this
  rw [qU6 _ _ _ hb]
  rfl
 | v::dy,i,w,c,d,e,o,hb,hd,hc,hf,h1=>by
  cases d with
  | nil=>simp at hd
  | cons d0 d=>
   have hcell:w.cell? ⟨b,o + i,none⟩=some d0:=by
    simp only [World.cell?,hb,Option.isSome_none,Bool.false_eq_true,if_false,List.getElem?_toArray]
    rw [← hc]; simp
   have hfz:w.frozen? ⟨b,o + i,none⟩=false:=by
    simp only [World.frozen?,hb]
    have:=hf c.length (Nat.le_refl _) (by simp)
    rw [← hc]
    simp only [Bool.and_eq_false_iff,decide_eq_false_iff_not]
    omega
   have hset:w.setCell ⟨b,o + i,none⟩ v={ w with heap:=w.heap.setIfInBounds b (.cells ((c++[v])++d++e).toArray el fr) }:=by
    simp only [World.setCell]
    rw [qNN _ _ _ _ hb]
    simp only [Option.isSome_none,Bool.false_eq_true,if_false]
    congr 3
    apply Array.ext'
    rw [Array.toList_setIfInBounds,← hc]
    simp
   simp only [storeCells,Sem.run_bind,Wl]
   rw [run_store P w _ v _ (h1 v (by simp)),hcell]
   simp only [hfz,Bool.false_eq_true,if_false,Result.andThen_ok,hset]
   have hlt:=(Array.getElem?_eq_some_iff.1 hb).1
   rw [qhD b el fr dy (i + 1) _ (c++[v]) d e o (YD _ _ _ hlt) (by simpa using hd) (by simp; omega) (fun j h2 h3=>hf j (by simp at h2; omega) (by simp at h2 h3 ⊢; omega)) (fun u hu=>h1 u (by simp [hu]))]
   simp only [Array.setIfInBounds_setIfInBounds]
   simp
theorem qve {t : TypeId} {v : Value} {dy : List Value} {b o : Nat} {el : TypeId} {fr : Nat × Nat} {c d e : List Value} (hb : w.heap[b]? = some (.cells (c ++ d ++ e).toArray el fr)) (hd : d.length = dy.length) (hc : c.length = o)
    (hf:∀ j,c.length≤j→j < c.length + d.length→¬ (fr.1≤j∧j < fr.2)) (h1:∀ v∈dy,v.oneCell'=true) (hv:v.cells=dy.toArray) (hu:∃ i,P.info? t=some i) (hs:qE P t=dy.length) :
    (storeVar t ⟨b,o,none⟩ v).run P w=.ok () { w with heap:=w.heap.setIfInBounds b (.cells (c++dy++e).toArray el fr) }:=by
 simp only [storeVar,Sem.run_bind,Zt hu,Result.andThen_ok,hv,hs]
 rw [if_neg (by simp)]
 exact qhD b el fr dy 0 w c d e o hb hd (by omega) hf h1
theorem qBu (H : qL ob γ G w) {l : Nat} (hl : get ob l = none) (o' : jc) (cap : Nat) {w' : World} {obj : Obj} (hw : w'.heap = w.heap.push obj) (hcl : ∀ n ∈ o'.names, ∃ x, get ob n = some x)
    (hobj:Trans ob γ G w (ins l o' ob) (upd γ l (w.heap.size,cap)) G w'→(∀ i,¬ G w.heap.size i)→zq (ins l o' ob) (upd γ l (w.heap.size,cap)) G w' l o') (hio:WV w w':=by exact ⟨rfl,rfl⟩) :
    qL (ins l o' ob) (upd γ l (w.heap.size,cap)) G w'∧Trans ob γ G w (ins l o' ob) (upd γ l (w.heap.size,cap)) G w':=by
 refine qAN H l o' (w.heap.size,cap) G w' (by rw [hw]; simp) (fun b hb _=>by rw [hw]; exact qcn w _ b hb) ⟨fun _ _ h=>h,fun b i h=>by simp only [World.cell?,hw,qcn w _ b (H.gok b i h)]⟩ (fun _ _ h h'=>absurd h h')
  (by rw [hw]; simp) (.inl (Nat.le_refl _)) (fun o ho=>by rw [hl] at ho; cases ho) (fun n hn=>?_) (fun T=>hobj T fun i hi=>by have:=H.gok _ _ hi; omega) hio
 obtain ⟨x,hx⟩:=hcl n hn
 rw [qT]; split
 ·exact ⟨_,rfl⟩
 ·exact ⟨x,hx⟩
theorem qG6 (H : qL ob γ G w) {l : Nat} (hl : get ob l = none) {x : AV} {cs : List Value} {el : TypeId} (hr : qm ob γ G w x cs) :
    ∃ γ' w',w'={ w with heap:=w.heap.push (.cells cs.toArray el) }∧qL (ins l (.cell false x) ob) γ' G w'∧Trans ob γ G w (ins l (.cell false x) ob) γ' G w'∧qM (ins l (.cell false x) ob) γ' G w' (.p l [] 0) (.pointer (some ⟨w.heap.size,0,none⟩)):=by
 have:=qBu H hl (.cell false x) 0 (w':={ w with heap:=w.heap.push (.cells cs.toArray el) }) (obj:=.cells cs.toArray el) rfl (WJ x cs hr) (fun T hg=>by
  simp only [zq,jg]
  exact ⟨cs,⟨el,(0,0),by simp,fun o _=>by simp⟩,qm.step T _ _ hr,hg⟩)
 refine ⟨_,_,rfl,this.1,this.2,zy rfl ?_⟩
 simp only [qm,jg]
 exact ⟨trivial,false,x,by simp [qT]⟩
theorem qLC (H:qL ob γ G w) {t:TypeId} {z:AV} {l:Nat} (hz:zeroOf P t=some z) (hl:get ob l=none):XV P ob γ G w (Instr.alloc t true (.tuple #[])) (.p l [] 0) (ins l (.cell false z) ob):=by
 obtain ⟨zv,cs,h1,h2,h3,h4,h5⟩:=Wd (ob:=ob) (γ:=γ) (G:=G) (w:=w) hz
 obtain ⟨γ',w',rfl,g1,g2,g3⟩:=qG6 H hl (el:=t) h2
 refine ⟨_,γ',G,_,?_,g1,g2,g3⟩
 simp only [Instr.alloc,Sem.run_bind,h1,Result.andThen_ok,newVar,newRow,run_newObj,Sem.run_pure,h4]
theorem qQ2 (H:qL ob γ G w) {t:TypeId} {x:AV} {v:Value} {l:Nat} (hf:zj P t x=true) (hx:qM ob γ G w x v) (hl:get ob l=none):XV P ob γ G w (Instr.box t v) (.p l [] 0) (ins l (.cell false x) ob):=by
 simp only [zj,Bool.and_eq_true] at hf
 obtain ⟨cs,h2,h3⟩:=qaa hf.2 hx
 obtain ⟨γ',w',rfl,g1,g2,g3⟩:=qG6 H hl (el:=t) h2
 refine ⟨_,γ',G,_,?_,g1,g2,g3⟩
 simp only [Instr.box,newVar,newRow,Sem.run_bind,run_newObj,Result.andThen_ok,Sem.run_pure,KG h2 h3]
theorem qGs (H:qL ob γ G w) {t:TypeId} {l:Nat} (hl:get ob l=none):XV P ob γ G w (Instr.makeMap t none) (.m l) (ins l (.map 0 []) ob):=by
 have:=qBu H hl (.map 0 []) 0 (w':={ w with heap:=w.heap.push (.map #[] 0) }) (obj:=.map #[] 0) rfl (fun n hn=>by simp [jc.names] at hn) (fun T hg=>by
  simp only [zq,jg]
  exact ⟨#[],by simp,rfl,by simp,by simp,hg⟩)
 refine ⟨.map (some w.heap.size),_,G,_,?_,this.1,this.2,zy rfl ?_⟩
 ·simp [Instr.makeMap]
 ·simp only [qm,jg]
  exact ⟨trivial,0,[],by simp [qT]⟩
theorem qwh (H : qL ob γ G w) {l : Nat} (hl : get ob l = none) {sz cap n : Nat} {s : PV} {cs sp : List Value} {el : TypeId} (hr : zu G w sz s cs) (hsz : 0 < sz) (hcap : cap * sz = (cs ++ sp).length) (hn : s.len = n) (hle : n ≤ cap) {w' : World} (hw : w'.heap = w.heap.push (.cells (cs ++ sp).toArray el)) (hio : WV w w' := by exact ⟨rfl, rfl⟩) :
    ∃ γ',qL (ins l (.vec false sz s) ob) γ' G w'∧Trans ob γ G w (ins l (.vec false sz s) ob) γ' G w'∧qM (ins l (.vec false sz s) ob) γ' G w' (.v l n) (.slice (some ⟨w.heap.size,0,none⟩) n cap):=by
 have:=qBu H hl (.vec false sz s) cap (w':=w') (obj:=.cells (cs++sp).toArray el) hw (fun n hn=>by simp [jc.names] at hn) (fun T hg=>by
  simp only [zq,jg]
  exact ⟨hsz,cs,sp,zu.mono T.keeps hr,hcap,fun _=>⟨⟨el,(0,0),by simp [hw],fun o _=>by simp⟩,fun o ho=>absurd ho (hg o),fun h=>by simp at h⟩⟩) hio
 refine ⟨_,this.1,this.2,zy rfl ?_⟩
 simp only [qm,jg]
 exact ⟨_,_,rfl,hle,.inl ⟨false,sz,s,by simp [qT],by omega,fun _=>⟨_,rfl,fun _=>rfl⟩,fun _=>rfl⟩⟩
theorem qzV (H : qL ob γ G w) {t : TypeId} {l off o : Nat} {path : List Nat} {c y x c' : AV} {v : Value} {an : Option Ans} {ps : List Prop} (hg : get ob l = some (.cell false c)) (hoff : AV.zN path c = some o) (hat : AV.at path c = some y)
    (ho:o=off) (hf:zj P t x=true) (hsz:y.size=x.size) (hin:All (AV.inR path c)) (hs:setAt an path c x=some (c',ps)) (hp:All ps) (hx:qM ob γ G w x v) :
    ∃ w',(storeVar t ⟨(γ l).1,off,none⟩ v).run P w=.ok () w'∧qL (ins l (.cell false c') ob) γ G w'∧Trans ob γ G w (ins l (.cell false c') ob) γ G w':=by
 subst ho
 simp only [zj,Bool.and_eq_true,beq_iff_eq] at hf
 obtain ⟨dy,h2,h3⟩:=qaa hf.2 hx
 obtain ⟨td,hu,_⟩:=qaY hf.2
 have h0:=H.obj _ _ hg
 have hlt:=h0.lt trivial
 simp only [zq] at h0
 obtain ⟨cs,⟨el,fr,hb,hfr⟩,hr,hno⟩:=h0
 obtain ⟨c1,d,e,rfl,h4,h5⟩:=qeQ _ _ _ _ _ hat hoff hin hr
 have hdl:=qm.len _ _ h5
 have hyl:=qm.len _ _ h2
 have hr':=qoa path c x c' y o c1 d e dy ps hs hp hin hat hoff h4 hdl hr h2
 refine ⟨_,qve hb (by omega) h4 (fun j h6 h7=>hfr j (by simp; omega)) (qm.qey _ _ h2) (KG h2 h3) (Wj hu) (by omega),?_⟩
 refine XW H hg (.cell false c') G _ (by simp) (fun b hb'=>by simp only; exact ZU _ _ _ _ hb') (XS hno fun b' hb'=>by simp only; exact ZU _ _ _ _ hb') (fun _ _ h h'=>absurd h h') rfl ?_ ?_
 ·intro n hn
  obtain ⟨x,hx⟩:=WJ _ _ hr' n hn
  rw [qT]; split
  ·exact ⟨_,rfl⟩
  ·exact ⟨x,hx⟩
 ·intro T
  simp only [zq]
  refine ⟨c1++dy++e,⟨el,fr,YD _ _ _ hlt,fun j hj=>hfr j (by simp at hj ⊢; omega)⟩,qm.step T _ _ hr',hno⟩
theorem qtM {an : Option Ans} {sz k : Nat} {s y' s' : PV} {c d e dy : List Value} {ps : List Prop} (hr : zu G w sz s (c ++ d ++ e)) (hc : c.length = k * sz) (hd : d.length = sz) (hk : k < s.len) (hs : qdI an s k y' = some (s', ps)) (hp : All ps) (hy : qG G w y' dy) :
    zu G w sz s' (c++dy++e)∧s'.len=s.len∧dy.length=sz:=by
 cases s<;>simp only [zu] at hr
 ·rename_i sz' xs
  obtain ⟨rfl,h1,h2⟩:=hr
  simp only [qdI] at hs
  obtain ⟨hq,hs⟩:=qO hs
  simp only [beq_iff_eq] at hq
  rw [qq hs]
  simp only [PV.len] at hk
  have hxk:xs[k]?=some xs[k]:=List.getElem?_eq_getElem hk
  have hdy:=qG.len _ _ hy
  refine ⟨⟨rfl,?_,fun x hx=>?_⟩,by simp [PV.len],by omega⟩
  ·have := zh.set (ob := []) (γ := fun _ => (0, 0)) (G := G) (w := w) (xs := xs.map AV.pv) ((qcu _ _).2 h1) (k := k) (z := .pv xs[k]) (by simp [hxk]) rfl
      (by rw [← List.map_take,AV.qm5,PV.WO sz' _ (fun z hz=>h2 z (List.mem_of_mem_take hz)),List.length_take,Nat.min_eq_left (by omega)]; exact hc)
      (by simp only [AV.size]; rw [h2 _ (List.getElem_mem hk)]; exact hd) (y:=.pv y') (dy:=dy) (by simpa only [qm] using hy)
   rw [← List.map_set] at this
   exact (qcu _ _).1 this
  ·rcases List.mem_or_eq_of_mem_set hx with h | rfl
   ·exact h2 x h
   ·exact hq
 ·rename_i bs
  obtain ⟨rfl,h1⟩:=hr
  simp only [qdI] at hs
  obtain ⟨b,p1,p2,e1,e2,hp1,hp2⟩:=qJ hs hp
  rw [qq e2]
  obtain ⟨n,rfl,rfl⟩:=qhH e1 hp1
  simp only [qG] at hy
  subst hy
  simp only [PV.len] at hk
  refine ⟨⟨rfl,?_⟩,by simp [PV.len],rfl⟩
  obtain ⟨d0,rfl⟩:=List.length_eq_one_iff.1 hd
  rw [List.map_set,← h1,show k=c.length by omega]
  simp [cu8]
theorem qmV (H : qL ob γ G w) {t : TypeId} {l off sz n b : Nat} {s s' : PV} {x : PV} {v : Value} (hg : get ob l = some (.vec false sz s)) (hn : s.len = n) (hpos : 0 < s.len) (hb : s.len = n → b = (γ l).1)
    (hst:∀ (cs dy:List Value),zu G w sz s cs→qG G w x dy→∃ c d e,cs=c++d++e∧c.length=off∧d.length=dy.length∧zu G w sz s' (c++dy++e)) (hlen:s'.len=s.len)
    (hf:zj P t (.pv x)=true) (hx:qM ob γ G w (.pv x) v) :
    ∃ w',(storeVar t ⟨b,off,none⟩ v).run P w=.ok () w'∧qL (ins l (.vec false sz s') ob) γ G w'∧Trans ob γ G w (ins l (.vec false sz s') ob) γ G w':=by
 have:=hb hn
 subst this
 simp only [zj,Bool.and_eq_true,beq_iff_eq] at hf
 obtain ⟨dy',h2,h3⟩:=qaa hf.2 hx
 obtain ⟨td,hu,_⟩:=qaY hf.2
 have h0:=H.obj _ _ hg
 have hv:=qTq h0 hpos
 have hlt:=h0.lt hv
 simp only [zq] at h0
 obtain ⟨hsz,cs,sp,hr,hcap,h0⟩:=h0
 obtain ⟨hblk,hG,_⟩:=h0 hv
 have hno:∀ i,¬ G (γ l).1 i:=fun i hi=>by have:=(hG i hi).1; simp at this
 have hpy:qG G w x dy':=by simpa only [qm] using h2
 obtain ⟨c,d,e,rfl,h4,h5,h7⟩:=hst cs dy' hr hpy
 obtain ⟨el,fr,hbl,hfr⟩:=hblk
 have hyl:=qG.len _ _ hpy
 simp only [AV.size] at hf
 have hbl':w.heap[(γ l).1]?=some (.cells (c++d++(e++sp)).toArray el fr):=by rw [hbl]; simp
 refine ⟨_,qve hbl' h5 h4 (fun j h6 h7=>hfr j (by simp; omega)) (qG.qey _ _ hpy) (KG h2 h3) (Wj hu) (by omega),?_⟩
 refine XW H hg (.vec false sz s') G _ (by simp) (fun b hb'=>by simp only; exact ZU _ _ _ _ hb') (XS hno fun b' hb'=>by simp only; exact ZU _ _ _ _ hb') (fun _ _ h h'=>absurd h h') ⟨by omega,fun _=>rfl⟩ (fun n hn=>by simp [jc.names] at hn) ?_ (hv:=hv)
 intro T
 simp only [zq]
 refine ⟨hsz,c++dy'++e,sp,zu.mono T.keeps h7,by rw [hcap]; simp; omega,fun _=>⟨⟨el,fr,?_,fun j hj=>hfr j (by simp at hj ⊢; omega)⟩,fun i hi=>absurd hi (hno i),fun h=>by simp at h⟩⟩
 rw [show c++dy'++e++sp=c++dy'++(e++sp) by simp]
 exact YD _ _ _ hlt
end g
end Go.Rx
end
noncomputable section
namespace Go.Rx
section g
variable {P:Program} {ob:Ob} {γ:Hm} {G:Gh} {w:World}
theorem qEt (n:Nat) (hn:256≤n):∀ (r c:Nat),c≤2 * n→Builtin.growBy n r c≤2 * n
 | 0,c,h=>h
 | r + 1,c,h=>by
  simp only [Builtin.growBy]
  split
  ·exact h
  ·exact qEt n hn r _ (by omega)
theorem qPS {qR old:Nat} (h:old < qR):Builtin.nextslicecap qR old≤2 * qR:=by
 unfold Builtin.nextslicecap
 split
 ·omega
 ·split
  ·omega
  ·exact qEt qR (by omega) 4 old (by omega)
def Qo:PV→Nat
 | .s b=>b.length
 | y=>y.len
def qfu (G:Gh) (w:World) (sz:Nat) (y:PV) (ys:List Value):Prop:=match y with
 | .s b=>sz=1∧ys=b.map cu8
 | y=>zu G w sz y ys
theorem qfu.len {sz:Nat} {s:PV} {cs:List Value} (h:qfu G w sz s cs):cs.length=Qo s * sz:=by
 cases s<;>simp only [qfu] at h
 case s=>obtain ⟨rfl,rfl⟩:=h; simp [Qo]
 all_goals exact zu.len h
theorem qtt {sz:Nat} {s y s':PV} {cs ys:List Value} (hr:zu G w sz s cs) (hy:qfu G w sz y ys) (h:s.app y=some s'):zu G w sz s' (cs++ys)∧s'.len=s.len + Qo y:=by
 cases s<;>simp only [zu] at hr
 ·obtain ⟨rfl,h1,h2⟩:=hr
  cases y<;>simp only [PV.app] at h<;>try (simp at h; done)
  split at h
  ·simp only [Option.some.injEq] at h
   subst h
   simp only [qfu,zu] at hy
   obtain ⟨rfl,h3,h4⟩:=hy
   exact ⟨⟨rfl,zt.append _ _ _ _ h1 h3,fun x hx=>by
    rcases List.mem_append.1 hx with hx | hx
    ·exact h2 x hx
    ·exact h4 x hx⟩,by simp [PV.len,Qo]⟩
  ·simp at h
 ·obtain ⟨rfl,rfl⟩:=hr
  cases y<;>simp only [PV.app] at h<;>try (simp at h; done)
  ·simp only [Option.some.injEq] at h
   subst h
   simp only [qfu] at hy
   obtain ⟨_,rfl⟩:=hy
   exact ⟨⟨rfl,by simp⟩,by simp [PV.len,Qo]⟩
  ·simp only [Option.some.injEq] at h
   subst h
   simp only [qfu,zu] at hy
   obtain ⟨_,rfl⟩:=hy
   exact ⟨⟨rfl,by simp⟩,by simp [PV.len,Qo]⟩
theorem qf9 {w':World} (h:w'.heap=w.heap) {b off:Nat} {cs:List Value} (hc:Qq w b off cs):Qq w' b off cs:=fun j hj=>by rw [← hc j hj]; simp only [World.cell?,h]
theorem qyP (bs:List UInt8):∀ c∈bs.map cu8,c.oneCell'=true:=by
 intro c hc; obtain ⟨b,_,rfl⟩:=List.mem_map.1 hc; rfl
theorem qhV {b off:Nat} {cs:List Value} (h:Qq w b off cs):(loadCells ⟨b,off,none⟩ cs.length).run P w=.ok cs.toArray w:=
 run_loadCells_list (P:=P) w ⟨b,off,none⟩ cs (fun j v hv=>by rw [Wl,h j (List.getElem?_eq_some_iff.1 hv).1]; exact hv)
theorem qUz {sz:Nat} {s:PV} {cs:List Value} (h:zu G w sz s cs):∀ c∈cs,c.oneCell'=true:=by
 cases s<;>simp only [zu] at h
 ·exact zt.qey _ _ h.2.1
 ·obtain ⟨_,rfl⟩:=h; exact qyP _
theorem qrQ (H : qL ob γ G w) {h : Ob} (hh : ∀ l o, get h l = some o → get ob l = some o) {x : AV} {v : Value} {y s s' : PV} {sz : Nat} {ps : List Prop} (ht : qaB h x = some (y, ps)) (hp : All ps) (hx : qM ob γ G w x v) (happ : s.app y = some s') (hs : ∃ cs, zu G w sz s cs) :
    ∃ ys,qfu G w sz y ys∧(Builtin.lenOf v).run P w=.ok (Qo y) w∧(∀ c∈ys,c.oneCell'=true)∧∀ w':World,w'.heap=w.heap→(Builtin.firstCells sz (Qo y) v).run P w'=.ok ys.toArray w':=by
 unfold qaB at ht
 obtain ⟨cs0,hs⟩:=hs
 split at ht
 ·rename_i z
  have:=qq ht
  subst this
  obtain ⟨cs,hr,ho⟩:=QH.1 hx
  cases y with
  | l sz2 xs2=>
   have hq:sz2=sz:=by
    cases s<;>simp only [PV.app] at happ<;>try (simp at happ; done)
    split at happ
    ·rename_i hq; simp only [beq_iff_eq] at hq; simp only [zu] at hs; rw [← hq,hs.1]
    ·simp at happ
   subst hq
   simp only [qG] at hr
   obtain ⟨ad,cap,rfl,h1,h2,h3⟩:=hr
   cases (qU ho)
   rcases h3 with rfl | ⟨b,off,vs,rfl,h4,h5,h6⟩
   ·refine ⟨[],⟨rfl,rfl,by simp⟩,rfl,by simp,fun w' hw=>?_⟩
    cases ad<;>simp [Builtin.firstCells,Qo,PV.len,loadCells,loadCellsFrom]
   ·have hT:qfu G w sz2 (.l sz2 xs2) vs:=⟨rfl,h4,h2⟩
    refine ⟨vs,hT,rfl,zt.qey _ _ h4,fun w' hw=>?_⟩
    simp only [Builtin.firstCells]
    rw [← hT.len]; exact qhV (qf9 hw h5)
  | s bs=>
   have hq:sz=1:=by
    cases s<;>simp only [PV.app] at happ<;>try (simp at happ; done)
    simp only [zu] at hs; exact hs.1
   subst hq
   simp only [qG] at hr
   subst hr
   cases (qU ho)
   refine ⟨bs.map cu8,⟨rfl,rfl⟩,rfl,qyP bs,fun w' hw=>?_⟩
   simp only [Builtin.firstCells,Qo,qjQ,Sem.run_pure]
   congr 1
   apply Array.ext'
   simp [cu8]
  | bl ys=>
   have hq:sz=1:=by
    cases s<;>simp only [PV.app] at happ<;>try (simp at happ; done)
    simp only [zu] at hs; exact hs.1
   subst hq
   simp only [qG] at hr
   obtain ⟨ad,cap,rfl,h1,h3⟩:=hr
   cases (qU ho)
   rcases h3 with rfl | ⟨b,off,rfl,h5,h6⟩
   ·refine ⟨[],⟨rfl,rfl⟩,rfl,by simp,fun w' hw=>?_⟩
    cases ad<;>simp [Builtin.firstCells,Qo,PV.len,loadCells,loadCellsFrom]
   ·refine ⟨ys.map cu8,⟨rfl,rfl⟩,rfl,qyP ys,fun w' hw=>?_⟩
    have:=qhV (P:=P) (qf9 hw h5)
    simp only [Builtin.firstCells,Qo,PV.len,Nat.mul_one]
    simpa using this
  | _=>cases s<;>simp [PV.app] at happ
 ·rename_i l n
  split at ht
  ·rename_i fz sz' z hg
   obtain ⟨rfl,hn⟩:=zG ht hp
   have hg':=hh _ _ hg
   have h0:=H.obj _ _ hg'
   simp only [zq] at h0
   obtain ⟨hsz,cs,sp,hr,hcap,hX⟩:=h0
   have hblk:=qEu hcap fun e=>(hX e).1
   have h1:=zx rfl rfl hx
   simp only [qm] at h1
   obtain ⟨a,cap,h1,h2,h3⟩:=h1
   simp only [List.cons.injEq,and_true] at h1
   subst h1
   have hc0:cap≠0→a=some ⟨(γ l).1,0,none⟩:=by
    rcases h3 with ⟨fz',sz2,x',g1,g2,g3,g4⟩ | ⟨xs,_,_,g1,_⟩
    ·rw [hg'] at g1; cases g1
     intro e
     obtain ⟨b,e1,e2⟩:=g3 e
     rw [e1,e2 hn]
    ·rw [hg'] at g1; cases g1
   have hsz':sz'=sz∧Qo y=n∧qfu G w sz y cs:=by
    cases s<;>cases y<;>simp only [PV.app] at happ<;>try (simp at happ; done)
    ·split at happ
     ·rename_i hq
      simp only [beq_iff_eq] at hq
      simp only [zu] at hs hr
      exact ⟨by rw [← hr.1,← hs.1,hq],hn,by rw [← hs.1,hq]; exact ⟨rfl,hr.2.1,fun x hx=>by rw [hr.2.2 x hx,hr.1]⟩⟩
     ·simp at happ
    ·simp only [zu] at hr
    ·simp only [zu] at hs hr
     exact ⟨by rw [hr.1,hs.1],hn,⟨hs.1,hr.2⟩⟩
   obtain ⟨rfl,h4,h5⟩:=hsz'
   refine ⟨cs,h5,by rw [h4]; rfl,qUz hr,fun w' hw=>?_⟩
   have hl:=qfu.len h5
   by_cases hz:cap=0
   ·have h0 : cs = [] := by
       have:n=0:=by omega
       rw [h4,this,Nat.zero_mul] at hl
       exact List.length_eq_zero_iff.1 hl
    have hn0:n=0:=by omega
    subst h0
    rw [h4,hn0]
    cases a<;>simp [Builtin.firstCells,loadCells,loadCellsFrom]
   ·rw [hc0 hz]
    simp only [Builtin.firstCells]
    rw [← hl]
    exact qhV (qf9 hw fun j hj=>by rw [hblk j (by simp; omega),List.getElem?_append_left hj])
  ·simp at ht
 ·simp at ht
theorem qEU {e:TypeId} {z:AV} (h:zeroOf P e=some z):∃ zv,(∀ w':World,(zeroValue e).run P w'=.ok zv w')∧zv.cells.size=qE P e:=by
 obtain ⟨zv,cs,h1,h2,h3,h4,h5⟩:=Wd (ob:=[]) (γ:=fun _=>(0,0)) (G:=fun _ _=>False) (w:=default) h
 refine ⟨zv,h1,?_⟩
 simp only [zj,Bool.and_eq_true,beq_iff_eq] at h5
 rw [h4,h5.1,← qm.len _ _ h2]
 simp
theorem qg7 (z:Array Value) (n:Nat):(Builtin.zeroCells z n).toList.length=n * z.size:=by simp [Builtin.zeroCells]
theorem qyh {u:TypeId} {uk:TK} (hu:qy P u=some uk) (huk:uk.qe3=true):P.underlying u=some .string∨∃ e,P.underlying u=some (.slice e):=by
 cases uk<;>simp [TK.qe3] at huk
 ·exact .inl (Xa hu)
 ·exact .inr ⟨_,zC hu⟩
theorem run_append_room {t u ty e : TypeId} {v : Value} {base : Option Addr} {sLen cap n : Nat} {new : List Value} {uk : TK} (hk : qy P t = some (.slice e)) (hu : qy P u = some uk) (huk : uk.qe3 = true)
    (hl:(Builtin.lenOf v).run P w=.ok n w) (hf:(Builtin.firstCells (qE P e) n v).run P w=.ok new.toArray w) (hle:sLen + n≤cap) {w':World} (hst:∀ a,base=some a→(storeCells (a.add (sLen * qE P e)) new).run P w=.ok () w') (hno:base=none→w'=w) :
    (Builtin.append_ #[t,u] ty #[.slice base sLen cap,v]).run P w=.ok (.slice base (sLen + n) cap) w':=by
 rcases qyh hu huk with hu' | ⟨e',hu'⟩
 all_goals
  cases base with
  | none=>simp [Builtin.append_,run_underlying (zC hk),run_underlying hu',Zt (vT hk),hl,hf,hle,hno rfl]
  | some a=>simp [Builtin.append_,run_underlying (zC hk),run_underlying hu',Zt (vT hk),hl,hf,hle,hst a rfl]
theorem qfI (a:Option Addr) (sz n cap:Nat):(Builtin.firstCells sz 0 (.slice a n cap)).run P w=.ok (([]:List Value).toArray) w:=by
 cases a with
 | none=>rfl
 | some a=>simp only [Builtin.firstCells,Nat.zero_mul]; rfl
theorem run_append_grow {t u ty e : TypeId} {v : Value} {base : Option Addr} {sLen cap n : Nat} {old new : List Value} {uk : TK} {z : AV} (hk : qy P t = some (.slice e)) (hu : qy P u = some uk) (huk : uk.qe3 = true)
    (hb:0 < bytesOf P e) (hl:(Builtin.lenOf v).run P w=.ok n w) (hf:∀ w':World,w'.heap=w.heap→(Builtin.firstCells (qE P e) n v).run P w'=.ok new.toArray w') (hold:∀ w':World,w'.heap=w.heap→(Builtin.firstCells (qE P e) sLen (.slice base sLen cap)).run P w'=.ok old.toArray w')
    (hlt:cap < sLen + n) (hby:(sLen + n) * bytesOf P e≤zi) (hz:zeroOf P e=some z) :
    ∃ k sp w',(Builtin.append_ #[t,u] ty #[.slice base sLen cap,v]).run P w=.ok (.slice (some ⟨w.heap.size,0,none⟩) (sLen + n) (sLen + n + k)) w'∧sp.length=k * qE P e∧w'.heap=w.heap.push (.cells (old++new++sp).toArray e)∧WV w w':=by
 have hbi:∃ i,P.info? e=some i∧i.bytes=bytesOf P e∧i.size=qE P e:=by
  unfold bytesOf at hb
  cases hi:P.info? e with
  | none=>simp [hi] at hb
  | some i=>exact ⟨i,rfl,by simp [bytesOf,hi],by simp [qE,hi]⟩
 obtain ⟨i,hi,hib,his⟩:=hbi
 obtain ⟨zv,hz1,hz2⟩:=qEU hz
 have hn:¬ (sLen + n≤cap):=by omega
 have hb0:i.bytes≠0:=by omega
 have h48':¬ (281474976710656 < Builtin.nextslicecap (sLen + n) cap * i.bytes):=by
  have h1:=qPS hlt
  have h2:Builtin.nextslicecap (sLen + n) cap * i.bytes≤2 * (sLen + n) * i.bytes:=Nat.mul_le_mul_right _ h1
  have h3:2 * (sLen + n) * i.bytes=2 * ((sLen + n) * bytesOf P e):=by rw [hib,Nat.mul_assoc]
  simp only [zi] at hby
  omega
 have hq:(Question.appendCap (sLen + n) cap e).forced=false:=rfl
 obtain ⟨k,hk2⟩:=qDR (sLen + n) cap e (w.tape w.drawn (Question.appendCap (sLen + n) cap e))
 have hf':=hf { w with drawn:=w.drawn + 1 } rfl
 have hold':=hold { w with drawn:=w.drawn + 1 } rfl
 have hcap:sLen + n + k - (sLen + n)=k:=by omega
 refine ⟨k,(Builtin.zeroCells zv.cells k).toList,{ w with heap:=w.heap.push (.cells (old++new++(Builtin.zeroCells zv.cells k).toList).toArray e),drawn:=w.drawn + 1 },?_,by rw [qg7,hz2],rfl,rfl,rfl⟩
 have harr:(old++(new++(Builtin.zeroCells zv.cells k).toList)).toArray=old.toArray++(new.toArray++Builtin.zeroCells zv.cells k):=by apply Array.ext'; simp
 have h63:¬ (9223372036854775807 < ((sLen:Int) + (n:Int))):=by
  have:sLen + n≤(sLen + n) * bytesOf P e:=Nat.le_mul_of_pos_right _ hb
  simp only [zi] at hby; omega
 rcases qyh hu huk with hu' | ⟨e',hu'⟩
 all_goals
  simp [Builtin.append_,run_underlying (zC hk),run_underlying hu',sizeOf,typeInfo,hi,his,hl,hn,hb0,h48',hq,hk2,hcap,hz1,newRow,h63,IntKind.max,IntKind.signed,IntKind.bits]
  rw [show (Builtin.firstCells (qE P e) sLen (Value.slice base sLen cap)).run P w.drew=_ from hold w.drew rfl]
  simp only [Result.andThen_ok]
  rw [show (Builtin.firstCells (qE P e) n v).run P w.drew=_ from hf w.drew rfl]
  simp only [Result.andThen_ok,harr]
  rfl
end g
end Go.Rx
end
noncomputable section
namespace Go.Rx
section g
variable {P:Program} {ob:Ob} {γ:Hm} {G:Gh} {w:World}
def WE (P:Program) (ob:Ob) (γ:Hm) (G:Gh) (w:World) (s:Sem Next) (r:AV) (ob':Ob):Prop:=
 ∃ v γ' G' w',(s.run P w=.ok (.value v) w'∨(s.run P w=.ok .skip w'∧v=.tuple #[]))∧qL ob' γ' G' w'∧Trans ob γ G w ob' γ' G' w'∧qM ob' γ' G' w' r v
def qTz (P:Program) (ob:Ob) (γ:Hm) (G:Gh) (w:World) (s:Sem Next) (h h':Ob) (out:Out):Prop:=
 ∃ r,out=.ret r∧((h'=h∧WE P ob γ G w s r ob)∨(∃ l o',h'=ins l o' h∧WE P ob γ G w s r (ins l o' ob))∨∀ T,h=qD T ob→(∀ n x,get h' n=some x→has T n=true∨get ob n=none)→WE P ob γ G w s r (merge T h' ob))
theorem WE.ofW {s:Sem Value} {r:AV} {ob':Ob} (h:XV P ob γ G w s r ob'):WE P ob γ G w (do pure (Next.value (← s))) r ob':=by
 obtain ⟨v,γ',G',w',h1,h2,h3,h4⟩:=h
 exact ⟨v,γ',G',w',.inl (by simp [h1]),h2,h3,h4⟩
theorem qvv {ob:Ob} {γ:Hm} {G:Gh} {w:World}:qM ob γ G w (.tup []) (.tuple #[]):=⟨[],rfl,rfl⟩
theorem WE.ofU {s:Sem Unit} {ob':Ob} {γ':Hm} {G':Gh} {w':World} (h:s.run P w=.ok () w') (h1:qL ob' γ' G' w') (h2:Trans ob γ G w ob' γ' G' w'):WE P ob γ G w (do s; pure Next.skip) (.tup []) ob':=
 ⟨_,γ',G',w',.inr ⟨by simp [h],rfl⟩,h1,h2,qvv⟩
theorem qLQ {d:Option Tmp} {lvl:Nat} {h h':Ob} {o:jc} {r:Nat→AV} {out:Out} {ps:List Prop} (hs:newObj d lvl h o r=some ((out,h'),ps)):∃ l,out=.ret (r l)∧h'=ins l o h∧get h l=none:=by
 unfold newObj at hs
 split at hs
 ·split at hs
  ·rename_i hg
   have:=qq hs
   simp only [Prod.mk.injEq] at this
   exact ⟨_,this.1,this.2,hg⟩
  ·simp at hs
 ·simp at hs
theorem qe7 {l:Nat} {o:jc} {h h':Ob} {out:Out} {ps:List Prop} (hs:done l o h=some ((out,h'),ps)):out=.ret (.tup [])∧h'=ins l o h:=by
 have:=qq hs
 simp only [Prod.mk.injEq] at this
 exact this
theorem Ym {qs ps:List Prop} {x:Unit} (h:Wp qs=some (x,ps)) (hp:All ps):All qs:=by
 simp only [Wp,Option.some.injEq,Prod.mk.injEq] at h
 rw [h.2]; exact hp
theorem qtU {e:TypeId} (h:qcH P e=true):zu G w (qE P e) (Qy P e) []∧(Qy P e).len=0:=by
 unfold qcH at h
 unfold Qy
 split at h
 ·simp only [beq_iff_eq] at h; exact ⟨⟨h,rfl⟩,rfl⟩
 ·exact ⟨⟨rfl,rfl,by simp⟩,rfl⟩
theorem qzB (H : qL ob γ G w) {h : Ob} (hh : ∀ l o, get h l = some o → get ob l = some o) {t u ty e : TypeId} {uk : TK} {x : AV} {v : Value} {y s : PV} {z : AV} {ps : List Prop} {l : Nat} (hk : qy P t = some (.slice e)) (hu : qy P u = some uk)
    (huk:uk.qe3=true) (hsz:0 < qE P e) (hb:0 < bytesOf P e) (hz:zeroOf P e=some z) (hem:qcH P e=true) (ht:qaB h x=some (y,ps)) (hp:All ps) (hx:qM ob γ G w x v)
    (happ:(Qy P e).app y=some s) (hby:s.len * bytesOf P e≤zi) (hl:get ob l=none) :
    XV P ob γ G w (Builtin.append_ #[t,u] ty #[.slice none 0 0,v]) (.v l s.len) (ins l (.vec false (qE P e) s) ob):=by
 obtain ⟨he,he0⟩:=qtU (G:=G) (w:=w) hem
 obtain ⟨ys,h1,h2,h3,h4⟩:=qrQ (P:=P) H hh ht hp hx happ ⟨[],he⟩
 obtain ⟨h5,h6⟩:=qtt he h1 happ
 simp only [List.nil_append] at h5
 have hn:s.len=Qo y:=by omega
 by_cases hz0:s.len=0
 ·have hyl:=qfu.len h1
  have hy1:ys=[]:=by
   rw [← hn,hz0,Nat.zero_mul] at hyl
   exact List.length_eq_zero_iff.1 hyl
  subst hy1
  have hrun:=run_append_room (P:=P) (w:=w) (t:=t) (u:=u) (ty:=ty) (base:=none) (sLen:=0) (cap:=0) (new:=[]) hk hu huk h2 (h4 w rfl) (by omega) (w':=w) (fun _ h=>by cases h) (fun _=>rfl)
  obtain ⟨q1,q2⟩:=qwx H l (fz:=false) (b:=0) hsz h5 (fun o ho=>by rw [hl] at ho; cases ho)
  refine ⟨_,_,G,w,hrun,q1,q2,zy rfl ?_⟩
  simp only [qm]
  exact ⟨none,0,by rw [← hn,hz0],by omega,.inl ⟨false,qE P e,s,by simp [qT],Nat.le_refl _,fun e=>absurd rfl e,fun _=>by rw [jg]⟩⟩
 obtain ⟨k,sp,w',g1,g2,g3,hio⟩:=run_append_grow (P:=P) (w:=w) (t:=t) (u:=u) (ty:=ty) (base:=none) (sLen:=0) (cap:=0) (old:=[]) (new:=ys) hk hu huk hb h2 h4 (fun w' _=>by simp [Builtin.firstCells]) (by omega) (by rw [Nat.zero_add,← hn]; exact hby) hz
 simp only [List.nil_append] at g3
 have hlen:=zu.len h5
 obtain ⟨γ',q1,q2,q3⟩:=qwh H hl (cap:=0 + Qo y + k) (n:=s.len) h5 hsz (by simp [hlen,g2,hn,Nat.add_mul]) rfl (by omega) (w':=w') g3 hio
 refine ⟨_,γ',G,w',g1,q1,q2,?_⟩
 rw [Nat.zero_add,← hn] at *
 exact q3
theorem qyv (H : qL ob γ G w) {h : Ob} (hh : ∀ l o, get h l = some o → get ob l = some o) {t u ty e : TypeId} {uk : TK} {x : AV} {v va : Value} {y s s' : PV} {z : AV} {ps : List Prop} {l n : Nat} {fz : Bool} (hk : qy P t = some (.slice e)) (hu : qy P u = some uk)
    (huk:uk.qe3=true) (hsz:0 < qE P e) (hb:0 < bytesOf P e) (hz:zeroOf P e=some z) (ht:qaB h x=some (y,ps)) (hp:All ps) (hx:qM ob γ G w x v) (ha:qM ob γ G w (.v l n) va)
    (hg:get ob l=some (.vec fz (qE P e) s)) (happ:s.app y=some s') (hby:s'.len * bytesOf P e≤zi) (hn:s.len=n) :
    XV P ob γ G w (Builtin.append_ #[t,u] ty #[va,v]) (.v l s'.len) (ins l (.vec fz (qE P e) s') ob):=by
 have h0:=H.obj _ _ hg
 have hlt:=h0.lt
 simp only [zq] at h0
 obtain ⟨_,cs,sp,hr,hcap,hX⟩:=h0
 have h1:=zx rfl rfl ha
 simp only [qm] at h1
 obtain ⟨a,cap,h1,h2,h3⟩:=h1
 simp only [List.cons.injEq,and_true] at h1
 subst h1
 obtain ⟨hc0,hd0⟩:(cap≠0→a=some ⟨(γ l).1,0,none⟩)∧cap=(γ l).2:=by
  rcases h3 with ⟨fz',sz2,x',g1,g2,g3,g4⟩ | ⟨xs,_,_,g1,_⟩
  ·rw [hg] at g1; cases g1
   refine ⟨fun e=>?_,g4 hn⟩
   obtain ⟨b,e1,e2⟩:=g3 e
   rw [e1,e2 hn]
  ·rw [hg] at g1; cases g1
 have hb2:(γ l).2=cap:=hd0.symm
 rw [hb2] at hcap hX
 obtain ⟨ys,t1,t2,t3,t4⟩:=qrQ (P:=P) H hh ht hp hx happ ⟨cs,hr⟩
 obtain ⟨h5,h6⟩:=qtt hr t1 happ
 have hcl:=zu.len hr
 have hyl:=qfu.len t1
 have hnl:s'.len=n + Qo y:=by omega
 have hspl:cap * qE P e=cs.length + sp.length:=by rw [hcap]; simp
 by_cases hroom:n + Qo y≤cap
 ·by_cases hz0:cap=0
  ·have hn0:n=0:=by omega
   have hy0:Qo y=0:=by omega
   have hc1:cs=[]:=by
    rw [hn,hn0,Nat.zero_mul] at hcl
    exact List.length_eq_zero_iff.1 hcl
   have hy1:ys=[]:=by
    rw [hy0,Nat.zero_mul] at hyl
    exact List.length_eq_zero_iff.1 hyl
   subst hc1; subst hy1
   rw [List.append_nil] at h5
   have e0:upd γ l ((γ l).1,0)=γ:=by
    have:((γ l).1,0)=γ l:=by rw [← hz0,← hb2]
    rw [this,qlT]
   have hT:=qwx H l (fz:=fz) (b:=(γ l).1) hsz h5 (fun o ho=>by rw [hg] at ho; cases ho; rw [e0]; exact ⟨by omega,fun _=>rfl⟩)
   rw [e0] at hT
   have hrun:=run_append_room (P:=P) (w:=w) (t:=t) (u:=u) (ty:=ty) (base:=a) (sLen:=n) (cap:=cap) (new:=[]) hk hu huk t2 (t4 w rfl) hroom (w':=w) (fun _ _=>rfl) (fun _=>rfl)
   refine ⟨_,γ,G,_,hrun,hT.1,hT.2,zy rfl ?_⟩
   simp only [qm]
   exact ⟨a,cap,by rw [hnl],by omega,.inl ⟨fz,qE P e,s',by simp [qT],Nat.le_refl _,fun e=>absurd hz0 e,fun _=>hd0⟩⟩
  obtain ⟨b,hbc⟩:∃ b,(b,cap)=γ l:=⟨(γ l).1,by rw [hd0]⟩
  have hb1:(γ l).1=b:=by rw [← hbc]
  obtain ⟨hblk,hG,hGfz⟩:=hX hz0
  have hlt:=hlt (show (γ l).2≠0 by rw [hb2]; exact hz0)
  rw [hb1] at hblk hG hGfz hlt
  have ha1:=hc0 hz0
  rw [hb1] at ha1
  subst ha1
  have hblk2:=hblk
  obtain ⟨el,fr,hbl,hfr⟩:=hblk
  have hle:ys.length≤sp.length:=by
   have:(n + Qo y) * qE P e≤cap * qE P e:=Nat.mul_le_mul_right _ hroom
   rw [Nat.add_mul] at this
   rw [hn] at hcl
   omega
  have hsp:sp=sp.take ys.length++sp.drop ys.length:=(List.take_append_drop _ _).symm
  have hbl':w.heap[b]?=some (.cells (cs++sp.take ys.length++sp.drop ys.length).toArray el fr):=by rw [hbl,List.append_assoc,← hsp]
  have hst:=qhD (P:=P) b el fr ys 0 w cs (sp.take ys.length) (sp.drop ys.length) (0 + n * qE P e) hbl' (by simp; omega) (by rw [hcl,hn]; omega) (fun j h6 h7=>hfr j (by simp at h7 ⊢; omega)) t3
  have hrun:=run_append_room (P:=P) (w:=w) (t:=t) (u:=u) (ty:=ty) (base:=some ⟨b,0,none⟩) (sLen:=n) (cap:=cap) (new:=ys) hk hu huk t2 (t4 w rfl) hroom (w':={ w with heap:=w.heap.setIfInBounds b (.cells (cs++ys++sp.drop ys.length).toArray el fr) })
   (fun a ha=>by cases ha; rw [Wl]; exact hst) (fun h=>by cases h)
  let G':Gh:=fun b' i=>G b' i∨(fz=true∧b'=b∧i < (cs++ys).length)
  have hcell:∀ i,i < cs.length→({ w with heap:=w.heap.setIfInBounds b (.cells (cs++ys++sp.drop ys.length).toArray el fr) }:World).cell? ⟨b,i,none⟩=w.cell? ⟨b,i,none⟩:=fun i hi=>by
   simp only [World.cell?,YD _ _ _ hlt,hbl,Option.isSome_none,Bool.false_eq_true,if_false,List.getElem?_toArray]
   rw [List.append_assoc,List.getElem?_append_left hi,List.getElem?_append_left hi]
  have hT:=XW H hg (.vec fz (qE P e) s') G' { w with heap:=w.heap.setIfInBounds b (.cells (cs++ys++sp.drop ys.length).toArray el fr) } (by simp) (fun b' hb'=>by rw [hb1] at hb'; simp only; exact ZU _ _ _ _ hb')
   ⟨fun _ _ h=>.inl h,fun b' i h=>by
    by_cases e:b'=b
    ·subst e; exact hcell i (hG i h).2
    ·simp only [World.cell?,ZU _ _ _ _ e]⟩
   (fun b' i h h'=>by
    rcases h with h | ⟨_,h,_⟩
    ·exact absurd h h'
    ·rw [hb1]; exact h) ⟨by omega,fun _=>rfl⟩ (fun n hn=>by simp [jc.names] at hn) (fun T=>by
    simp only [zq,hb1,hb2]
    refine ⟨hsz,cs++ys,sp.drop ys.length,zu.mono T.keeps h5,by simp; omega,fun _=>⟨⟨el,fr,YD _ _ _ hlt,fun j hj=>hfr j (by simp at hj ⊢; omega)⟩,fun o ho=>?_,fun hf j hj=>.inr ⟨hf,rfl,by simpa using hj⟩⟩⟩
    rcases ho with ho | ⟨h1,_,h2⟩
    ·exact ⟨(hG o ho).1,by have:=(hG o ho).2; simp; omega⟩
    ·exact ⟨h1,h2⟩) (hv:=show (γ l).2≠0 by rw [hb2]; exact hz0)
  refine ⟨_,γ,G',_,hrun,hT.1,hT.2,zy rfl ?_⟩
  simp only [qm]
  exact ⟨_,cap,by rw [hnl],by omega,.inl ⟨fz,qE P e,s',by simp [qT],Nat.le_refl _,fun _=>⟨b,rfl,fun _=>hb1.symm⟩,fun _=>hd0⟩⟩
 ·
  have hold:∀ w':World,w'.heap=w.heap→(Builtin.firstCells (qE P e) n (.slice a n cap)).run P w'=.ok cs.toArray w':=fun w' hw=>by
   by_cases hz0:cap=0
   ·have hn0:n=0:=by omega
    have hc1:cs=[]:=by
     rw [hn,hn0,Nat.zero_mul] at hcl
     exact List.length_eq_zero_iff.1 hcl
    subst hc1
    rw [hn0]
    exact qfI _ _ _ _
   ·rw [hc0 hz0]
    obtain ⟨hblk2,_⟩:=hX hz0
    simp only [Builtin.firstCells]
    rw [← hn,← hcl]
    exact qhV (qf9 hw fun j hj=>by rw [XM hblk2 j (by simp; omega),List.getElem?_append_left hj])
  obtain ⟨k,sp',w',g1,g2,g3,hio⟩:=run_append_grow (P:=P) (w:=w) (t:=t) (u:=u) (ty:=ty) (base:=a) (sLen:=n) (cap:=cap) (old:=cs) (new:=ys) hk hu huk hb t2 t4 hold (by omega) (by rw [← hnl]; exact hby) hz
  let G':Gh:=fun b' i=>G b' i∨(fz=true∧b'=w.heap.size∧i < (cs++ys).length)
  have hno:∀ i,¬ G w.heap.size i:=fun i hi=>by have:=H.gok _ _ hi; omega
  have hT:=qAN H l (.vec fz (qE P e) s') (w.heap.size,n + Qo y + k) G' w' (by rw [g3]; simp) (fun b' hb' _=>by rw [g3]; exact qcn w _ b' hb') ⟨fun _ _ h=>.inl h,fun b' i h=>by simp only [World.cell?,g3,qcn w _ b' (H.gok b' i h)]⟩
   (fun b' i h h'=>by
    rcases h with h | ⟨_,h,_⟩
    ·exact absurd h h'
    ·exact h) (by rw [g3]; simp) (.inl (Nat.le_refl _)) (fun o ho=>by rw [hg] at ho; cases ho; exact ⟨by omega,fun e=>by omega⟩) (fun n hn=>by simp [jc.names] at hn) (fun T=>by
    simp only [zq,jg]
    refine ⟨hsz,cs++ys,sp',zu.mono T.keeps h5,?_,fun _=>⟨⟨e,(0,0),by simp [g3],fun o _=>by simp⟩,fun o ho=>?_,fun hf j hj=>.inr ⟨hf,rfl,by simpa using hj⟩⟩⟩
    ·simp only [List.length_append,hcl,hyl,g2,hn,Nat.add_mul]
    ·rcases ho with ho | ⟨h1,_,h2⟩
     ·exact absurd ho (hno o)
     ·exact ⟨h1,h2⟩) hio
  refine ⟨_,_,G',w',g1,hT.1,hT.2,zy rfl ?_⟩
  simp only [qm,jg]
  exact ⟨_,_,by rw [hnl],by omega,.inl ⟨fz,qE P e,s',by simp [qT],Nat.le_refl _,fun _=>⟨_,rfl,fun _=>rfl⟩,fun _=>rfl⟩⟩
end g
end Go.Rx
end
noncomputable section
namespace Go.Rx
section g
variable {P:Program} {ob:Ob} {γ:Hm} {G:Gh} {w:World}
theorem qG7 {e : TypeId} {val : Operand → AV} {ρ : Operand → Value} (S : jt ob γ G w val ρ) (h1 : qE P e = 1) : ∀ (l : List (Nat × Operand)) (k : Nat), (l.map fun q => val q.2).all (fun x => zj P e x) = true → qc7 k l = true →
    ∃ css,Yg (qE P e) k (l.map fun q=>(q.1,ρ q.2)) css∧zh ob γ G w (l.map fun q=>val q.2) css.flatten∧∀ x∈l.map fun q=>val q.2,x.size=1
 | [],k,_,_=>⟨[],trivial,rfl,by simp⟩
 | (i,o)::r,k,hf,hd=>by
  simp only [List.map_cons,List.all_cons,Bool.and_eq_true] at hf
  simp only [qc7,Bool.and_eq_true,beq_iff_eq] at hd
  obtain ⟨css,g1,g2,g3⟩:=qG7 S h1 r (k + 1) hf.2 hd.2
  have hf1:=hf.1
  simp only [zj,Bool.and_eq_true,beq_iff_eq] at hf1
  obtain ⟨c,g4,g5⟩:=qaa hf1.2 (S o)
  have hl:=qm.len _ _ g4
  refine ⟨c::css,⟨hd.1,KG g4 g5,by omega,g1⟩,by simp only [List.map_cons,zh,List.flatten_cons]; exact ⟨c,_,rfl,g4,g2⟩,?_⟩
  intro x hx
  simp only [List.map_cons,List.mem_cons] at hx
  rcases hx with rfl | hx
  ·omega
  ·exact g3 x hx
theorem qTc (H : qL ob γ G w) {t e : TypeId} {n l : Nat} {parts : Array (Nat × Operand)} {val : Operand → AV} {ρ : Operand → Value} (S : jt ob γ G w val ρ) (hk : qy P t = some (.slice e)) (hd : qc7 0 parts.toList = true) (hn : n = parts.size)
    (hm:n * qE P e≤16777216) (hz:ZQ P e=true) (h1:qE P e=1) (hf:(parts.toList.map fun q=>val q.2).all (fun x=>zj P e x)=true) (hl:get ob l=none) :
    XV P ob γ G w (Instr.buildSlice t n (parts.map fun q=>(q.1,ρ q.2))) (.v l n) (ins l (.fns (parts.toList.map fun q=>val q.2)) ob):=by
 obtain ⟨css,g1,g2,g3⟩:=qG7 S h1 parts.toList 0 hf hd
 have hmap:(parts.map fun q=>(q.1,ρ q.2))=(parts.toList.map fun q=>(q.1,ρ q.2)).toArray:=by apply Array.ext'; simp
 have he:∃ d,P.underlying e=some d:=by
  simp only [ZQ,Bool.and_eq_true] at hz
  exact Option.isSome_iff_exists.1 hz.2
 have hrun:=qgS (P:=P) (w:=w) (zC hk) he hz hm g1 (by simp [hn])
 have:=qBu H hl (.fns (parts.toList.map fun q=>val q.2)) n (w':={ w with heap:=w.heap.push (.cells css.flatten.toArray e) }) (obj:=.cells css.flatten.toArray e) rfl (qob _ _ g2) (fun T hg=>by
  simp only [zq,jg]
  exact ⟨css.flatten,⟨e,(0,0),by simp,fun o _=>by simp⟩,zh.step T _ _ g2,g3,hg,by simp [hn]⟩)
 refine ⟨_,_,G,_,by rw [hmap]; exact hrun,this.1,this.2,zy rfl ?_⟩
 simp only [qm,jg]
 exact ⟨_,_,rfl,Nat.le_refl _,.inr ⟨parts.toList.map fun q=>val q.2,_,rfl,by simp [qT],by simp [hn],rfl⟩⟩
theorem qRo (H : qL ob γ G w) {t e : TypeId} {n l : Nat} {parts : Array (Nat × Operand)} {val : Operand → AV} {ρ : Operand → Value} (S : jt ob γ G w val ρ) (hk : qy P t = some (.slice e)) (hd : qc7 0 parts.toList = true) (hn : n = parts.size)
    (hm:n * qE P e≤16777216) (hz:ZQ P e=true) (h0:0 < qE P e) {an:Option Ans} {xs:List PV} (hx:AV.Z7 (parts.toList.map fun q=>val q.2)=some xs) {s:PV} {ps:List Prop} (hs:qhG P an e xs=some (s,ps)) (hp:All ps) (hl:get ob l=none) :
    XV P ob γ G w (Instr.buildSlice t n (parts.map fun q=>(q.1,ρ q.2))) (.v l n) (ins l (.vec false (qE P e) s) ob):=by
 obtain ⟨cs,h1,h2,h3,h4,h5⟩:=qpU S hk hd hn hm hz hx hs hp
 obtain ⟨γ',q1,q2,q3⟩:=qwh H hl (sp:=[]) (cap:=n) (n:=n) (el:=e) h2 h0 (by simp [h5]) h4 (Nat.le_refl _) (w':={ w with heap:=w.heap.push (.cells cs.toArray e) }) (by simp)
 refine ⟨_,γ',G,_,h1,q1,q2,?_⟩
 rw [h4]; exact q3
theorem qQh (zs:List Value) (k:Nat):((Array.range (k * zs.length)).map (fun i=>zs.toArray[i % zs.toArray.size]!)).toList=(List.replicate k zs).flatten:=by
 induction k with
 | zero=>simp
 | succ k ih=>
  apply List.ext_getElem
  ·simp [List.length_flatten]
  ·intro i h1 h2
   have hz:0 < zs.length:=by
    simp at h1
    rcases Nat.eq_zero_or_pos zs.length with h | h
    ·rw [h] at h1; simp at h1
    ·exact h
   have hm:i % zs.length < zs.length:=Nat.mod_lt _ hz
   have hl:((Array.range ((k + 1) * zs.length)).map (fun i=>zs.toArray[i % zs.toArray.size]!)).toList[i]=zs[i % zs.length]:=by
    simp [getElem!_pos,hm]
   rw [hl]
   simp only [List.replicate_succ,List.flatten_cons]
   by_cases hi:i < zs.length
   ·rw [List.getElem_append_left hi]
    congr 1
    exact Nat.mod_eq_of_lt hi
   ·rw [List.getElem_append_right (by omega)]
    have h3:i - zs.length < k * zs.length:=by
     simp only [List.length_map,Array.length_toList,Array.size_map,Array.size_range] at h1
     rw [Nat.succ_mul] at h1; omega
    have h4:(List.replicate k zs).flatten[i - zs.length]'(by simp [List.length_flatten]; exact h3)=((Array.range (k * zs.length)).map (fun i=>zs.toArray[i % zs.toArray.size]!)).toList[i - zs.length]'(by simpa using h3):=by
     congr 1
     exact ih.symm
    rw [h4]
    have hm2:(i - zs.length) % zs.length < zs.length:=Nat.mod_lt _ hz
    simp only [Array.getElem_toList,Array.getElem_map,Array.getElem_range,List.size_toArray]
    rw [getElem!_pos _ _ (by simpa using hm2)]
    simp only [List.getElem_toArray]
    congr 1
    rw [← Nat.mod_eq_sub_mod (by omega)]
theorem qmE {z:PV} {cs:List Value} (h:qG G w z cs):∀ k,zt G w (List.replicate k z) (List.replicate k cs).flatten
 | 0=>rfl
 | k + 1=>⟨cs,_,by simp [List.replicate_succ],h,qmE h k⟩
theorem qBL (H : qL ob γ G w) {t e : TypeId} {k l : Nat} {z : PV} (hk : qy P t = some (.slice e)) (hz : zeroOf P e = some (.pv z)) (h0 : 0 < qE P e) (hb : 0 < bytesOf P e) (hem : qcH P e = true) (hby : k * bytesOf P e ≤ zi) (hl : get ob l = none) :
    XV P ob γ G w (Instr.makeSlice t (.int .i64 k) (.int .i64 k)) (.v l k) (ins l (.vec false (qE P e) (match Jm P e with | true=>.bl (List.replicate k 0) | false=>.l (qE P e) (List.replicate k z))) ob):=by
 obtain ⟨zv,cs,h1,h2,h3,h4,h5⟩:=Wd (ob:=ob) (γ:=γ) (G:=G) (w:=w) hz
 simp only [zj,Bool.and_eq_true,beq_iff_eq] at h5
 have hzl:=qm.len _ _ h2
 have h2':qG G w z cs:=by simpa only [qm] using h2
 have hseq:∃ s,s=(match Jm P e with | true=>PV.bl (List.replicate k 0) | false=>PV.l (qE P e) (List.replicate k z))∧zu G w (qE P e) s (List.replicate k cs).flatten∧s.len=k:=by
  refine ⟨_,rfl,?_⟩
  cases hu:Jm P e with
  | true=>
   simp only [qcH,hu,beq_iff_eq] at hem
   have hzz:z=.i .u8 0:=by
    have hki:qy P e=some (.int .u8):=by
     unfold Jm at hu; split at hu
     ·rename_i h; exact h
     ·simp at hu
    unfold zeroOf at hz
    simp only [qid,hki] at hz
    split at hz
    ·simp only [Option.some.injEq,AV.pv.injEq] at hz; exact hz.symm
    ·simp at hz
   subst hzz
   simp only [qG] at h2'
   subst h2'
   refine ⟨⟨hem,?_⟩,by simp [PV.len]⟩
   clear hby hl
   induction k with
   | zero=>rfl
   | succ k ih=>simp only [List.replicate_succ,List.flatten_cons,ih,List.map_cons]; rfl
  | false=>
   exact ⟨⟨rfl,qmE h2' k,fun x hx=>by rw [(List.mem_replicate.1 hx).2]; simp only [AV.size] at h5; omega⟩,by simp [PV.len]⟩
 obtain ⟨s,hs,hr,hlen⟩:=hseq
 rw [← hs]
 have hcl:=zu.len hr
 obtain ⟨γ',q1,q2,q3⟩:=qwh H hl (sp:=[]) (cap:=k) (n:=k) (el:=e) hr h0 (by simp only [List.append_nil,hcl,hlen]) hlen (Nat.le_refl _) (w':={ w with heap:=w.heap.push (.cells (List.replicate k cs).flatten.toArray e) }) (by simp)
 refine ⟨_,γ',G,_,?_,q1,q2,q3⟩
 have hbi:∃ i,P.info? e=some i∧i.bytes=bytesOf P e:=by
  unfold bytesOf at hb
  cases hi:P.info? e with
  | none=>simp [hi] at hb
  | some i=>exact ⟨i,rfl,by simp [bytesOf,hi]⟩
 obtain ⟨i,hi,hib⟩:=hbi
 have hti:(typeInfo e).run P w=.ok i w:=by simp [typeInfo,hi]
 have hk1:k≤k * bytesOf P e:=Nat.le_mul_of_pos_right _ hb
 have hw:IntKind.i64.wrap (k:Int)=k:=by
  simp only [zi] at hby
  simp only [IntKind.wrap,IntKind.signed,IntKind.bits]
  simp
  omega
 have hbk:¬ (281474976710656 < (bytesOf P e:Int) * (k:Int)):=by
  simp only [zi] at hby
  have:((k * bytesOf P e:Nat):Int)=(bytesOf P e:Int) * (k:Int):=by push_cast; rw [Int.mul_comm]
  omega
 have hrow:((Array.range (k * qE P e)).map fun i=>cs.toArray[i % cs.toArray.size]!)=(List.replicate k cs).flatten.toArray:=by
  apply Array.ext'
  have:=qQh cs k
  rw [show cs.length=qE P e by omega] at this
  exact this
 have hneg:¬ ((k:Int) < 0):=by omega
 by_cases hk0:k * qE P e=0
 ·have hcs:(List.replicate k cs).flatten=[]:=List.length_eq_zero_iff.1 (by rw [hcl,hlen]; exact hk0)
  simp [Instr.makeSlice,run_underlying (zC hk),Go.asInt,Vq,hti,hib,hw,hneg,hbk,Zt (vT hk),hk0,newRow,hcs]
  congr 2
  apply Array.ext'
  simp
 ·simp [Instr.makeSlice,run_underlying (zC hk),Go.asInt,Vq,hti,hib,hw,hneg,hbk,Zt (vT hk),hk0,newRow,h1,h4]
  rw [← hrow]
  simp
end g
end Go.Rx
end
noncomputable section
namespace Go.Rx
section g
variable {P:Program} {ob:Ob} {γ:Hm} {G:Gh} {w:World}
theorem qIf {sz:Nat} {s:PV} {cs:List Value} (h:zu G w sz s cs):qp6 s=sz∧s.JY=true:=by
 cases s<;>simp only [zu] at h
 ·exact ⟨h.1,rfl⟩
 ·exact ⟨h.1.symm,rfl⟩
def qWV (sz:Nat) (s:PV):Prop:=qp6 s=sz∧s.JY=true
theorem qk7 (H:qL ob γ G w) {l sz:Nat} {fz:Bool} {s:PV} (hg:get ob l=some (.vec fz sz s)):∃ G',qL (ins l (.vec true sz s) ob) γ G' w∧Trans ob γ G w (ins l (.vec true sz s) ob) γ G' w:=by
 have h0:=H.obj _ _ hg
 have hlt:=h0.lt
 simp only [zq] at h0
 obtain ⟨hsz,cs,sp,hr,hcap,hX⟩:=h0
 by_cases hz:(γ l).2=0
 ·have hc1 : cs = [] := by
     rw [hz,Nat.zero_mul] at hcap
     have:=List.length_eq_zero_iff.1 hcap.symm
     exact (List.append_eq_nil_iff.1 this).1
  subst hc1
  have e0:upd γ l ((γ l).1,0)=γ:=by
   have:((γ l).1,0)=γ l:=by rw [← hz]
   rw [this,qlT]
  have hT:=qwx H l (fz:=true) (b:=(γ l).1) hsz hr (fun o ho=>by rw [hg] at ho; cases ho; rw [e0]; exact ⟨Nat.le_refl _,fun _=>rfl⟩)
  rw [e0] at hT
  exact ⟨G,hT.1,hT.2⟩
 obtain ⟨hblk,hG,_⟩:=hX hz
 let G':Gh:=fun b i=>G b i∨(b=(γ l).1∧i < cs.length)
 have hk:J0 G w G' w:=⟨fun _ _ h=>.inl h,fun _ _ _=>rfl⟩
 have hin:inG G' (γ l).1 0 cs.length:=fun j hj=>.inr ⟨rfl,by simpa using hj⟩
 have hT:=XW H hg (.vec true sz s) G' w rfl (fun _ _=>rfl) hk (fun b i h h'=>by
  rcases h with h | ⟨h,_⟩
  ·exact absurd h h'
  ·exact h) ⟨Nat.le_refl _,fun _=>rfl⟩ (fun n hn=>by simp [jc.names] at hn) (fun T=>by
  simp only [zq]
  refine ⟨hsz,cs,sp,zu.mono hk hr,hcap,fun _=>⟨hblk,fun o ho=>⟨trivial,?_⟩,fun _=>hin⟩⟩
  rcases ho with ho | ⟨_,ho⟩
  ·exact (hG o ho).2
  ·exact ho) (hv:=hz)
 exact ⟨G',hT.1,hT.2⟩
theorem qBj (H:qL ob γ G w) {l sz cap:Nat} {x:PV} {a:Option Addr} (hl:get ob l=some (.vec true sz x)) (hc:cap≠0→a=some ⟨(γ l).1,0,none⟩) (hd:cap=(γ l).2):qG G w x [.slice a x.len cap]∧qWV sz x:=by
 have h0:=H.obj _ _ hl
 simp only [zq] at h0
 obtain ⟨hsz,cs,sp,hr,hcap,hX⟩:=h0
 refine ⟨?_,qIf hr⟩
 have hcl:=zu.len hr
 have hle:x.len≤cap:=by
  have:x.len * sz≤(γ l).2 * sz:=by rw [hcap,← hcl]; simp
  rw [hd]
  exact Nat.le_of_mul_le_mul_right this hsz
 by_cases hz:cap=0
 ·have hx:x.len=0:=by omega
  cases x<;>simp only [zu] at hr
  ·rename_i sz' xs
   obtain rfl:xs=[]:=List.length_eq_zero_iff.1 hx
   simp only [qG]
   exact ⟨a,cap,rfl,hle,by simp,.inl trivial⟩
  ·rename_i xs
   obtain rfl:xs=[]:=List.length_eq_zero_iff.1 hx
   simp only [qG]
   exact ⟨a,cap,rfl,hle,.inl trivial⟩
 ·rw [hc hz]
  obtain ⟨hblk,_,hfz⟩:=hX (by rw [← hd]; exact hz)
  exact qC7 hr (fun j hj=>by rw [XM hblk j (by simp; omega),List.getElem?_append_left hj]) (hfz trivial) hle
theorem qMj {l n cap sz : Nat} {fz : Bool} {s : PV} {a : Option Addr} (hg : get ob l = some (.vec fz sz s)) (hn : s.len = n)
    (h:(∃ fz sz x,get ob l=some (.vec fz sz x)∧n≤x.len∧(cap≠0→∃ b,a=some ⟨b,0,none⟩∧(x.len=n→b=(γ l).1))∧(x.len=n→cap=(γ l).2))∨(∃ xs b,a=some ⟨b,0,none⟩∧get ob l=some (.fns xs)∧n=xs.length∧(b,cap)=γ l)) :
    (cap≠0→a=some ⟨(γ l).1,0,none⟩)∧cap=(γ l).2:=by
 rcases h with ⟨fz',sz2,x',g1,g2,g3,g4⟩ | ⟨xs,_,_,g1,_⟩
 ·rw [hg] at g1; cases g1
  refine ⟨fun e=>?_,g4 hn⟩
  obtain ⟨b,e1,e2⟩:=g3 e
  rw [e1,e2 hn]
 ·rw [hg] at g1; cases g1
theorem qz_ (H : qL ob γ G w) {t e : TypeId} {x : Operand} {lo hi : Option Operand} {val : Operand → AV} {ρ : Operand → Value} (S : jt ob γ G w val ρ) {l n sz a b : Nat} {fz : Bool} {s : PV} {an : Option Ans} {ps : List Prop}
    (hv:val x=.v l n) (hk:qy P t=some (.slice e)) (hg:get ob l=some (.vec fz sz s)) (hsz:sz=qE P e) (hb:bounds an (lo.map val) (hi.map val) n=some ((a,b),ps)) (hp:All ps) (hn:s.len=n) :
    XV P ob γ G w (Instr.sliceAt t (ρ x) (lo.map ρ) (hi.map ρ) none) (.pv (s.sub a b)) (ins l (.vec true sz s) ob):=by
 obtain ⟨G',h1,h2⟩:=qk7 H hg
 have hx:=S x
 rw [hv] at hx
 have h3:=zx rfl rfl hx
 simp only [qm] at h3
 obtain ⟨ad,cap,h3,h4,h5⟩:=h3
 simp only [List.cons.injEq,and_true] at h3
 obtain ⟨hc,hd⟩:=qMj hg hn h5
 obtain ⟨hrep,q1,q2⟩:=qBj h1 (by rw [qT,if_pos rfl]) hc hd
 have hbd:=qcL (P:=P) (f:=true) S hb hp h4
 have hsub:=qMP q2 hrep hbd.2.1 (by rw [hn]; exact hbd.2.2)
 refine ⟨_,γ,G',w,?_,h1,h2,zy (by cases s<;>first | rfl | (simp [PV.JY] at q2)) (by simpa only [qm] using hsub)⟩
 rw [h3,q1,hsz]
 simp only [Instr.sliceAt,Sem.run_bind,run_underlying (zC hk),Result.andThen_ok,Instr.slice,Option.map_none,hbd.1,Zt (vT hk),Sem.run_pure]
theorem qyF (H : qL ob γ G w) {t : TypeId} {x : Operand} {val : Operand → AV} {ρ : Operand → Value} (S : jt ob γ G w val ρ) {l n m off o : Nat} {path : List Nat} {ro : Bool} {c : AV} {bs : Vector UInt8 m}
    (hv:val x=.p l path off) (hk:qy P t=some (.bytes n)) (hg:get ob l=some (.cell ro c)) (hoff:AV.zN path c=some o) (hat:AV.at path c=some (.pv (.ba m bs))) (ho:o=off) (hm:m=n) (hin:All (AV.inR path c)) :
    XV P ob γ G w (Instr.sliceAt t (ρ x) none none none) (.pv (.bl bs.toList)) (ins l (.cell true c) ob):=by
 subst ho; subst hm
 have h0:=H.obj _ _ hg
 have hlt:=h0.lt trivial
 simp only [zq] at h0
 obtain ⟨cs,hblk,hr,_⟩:=h0
 let G':Gh:=fun b i=>G b i∨(b=(γ l).1∧i < cs.length)
 have hk':J0 G w G' w:=⟨fun _ _ h=>.inl h,fun _ _ _=>rfl⟩
 have hinG:inG G' (γ l).1 0 cs.length:=fun j hj=>.inr ⟨rfl,by simpa using hj⟩
 have hT:=XW H hg (.cell true c) G' w rfl (fun _ _=>rfl) hk' (fun b i h h'=>by
  rcases h with h | ⟨h,_⟩
  ·exact absurd h h'
  ·exact h) rfl (fun n hn=>by
   obtain ⟨x,hx⟩:=WJ _ _ hr n hn
   rw [qT]; split
   ·exact ⟨_,rfl⟩
   ·exact ⟨x,hx⟩) (fun T=>by
  simp only [zq]
  exact ⟨cs,hblk,qm.step T _ _ hr,hinG⟩)
 obtain ⟨c1,d,e,rfl,h4,h5⟩:=qeQ _ _ _ _ _ hat hoff hin hr
 simp only [qm,qG] at h5
 subst h5
 have hx:=S x
 rw [hv] at hx
 have h3:=zx rfl rfl hx
 simp only [qm] at h3
 obtain ⟨h3,_⟩:=h3
 simp only [List.cons.injEq,and_true] at h3
 obtain ⟨eb,hu,he,hse⟩:=Vm hk
 refine ⟨.slice (some ⟨(γ l).1,o,none⟩) m m,γ,G',w,?_,hT.1,hT.2,zy rfl ?_⟩
 ·rw [h3]
  simp only [Instr.sliceAt,Sem.run_bind,run_underlying hu,Result.andThen_ok,Instr.sureAddr,Sem.run_pure,Instr.sliceBounds,Zt (Wj he),Nat.zero_mul,Wl,Nat.add_zero]
  simp
 ·simp only [qm,qG]
  refine ⟨some ⟨(γ l).1,o,none⟩,m,by simp,by simp,.inr ⟨(γ l).1,o,rfl,?_,?_⟩⟩
  ·have:=qbD (XM hblk)
   rwa [Nat.zero_add,h4] at this
  ·have:=qwp hinG (o:=c1.length) (m:=(bs.toList.map cu8).length) (by simp)
   rw [Nat.zero_add,h4] at this
   simpa using this
theorem qIj {c:Call} {val:Operand→AV} {ρ:Operand→Value} (S:jt ob γ G w val ρ) {x y:AV} (h:c.args.toList.map val=[x,y]):∃ v u,c.args.map ρ=#[v,u]∧qM ob γ G w x v∧qM ob γ G w y u:=by
 cases hl:c.args.toList with
 | nil=>simp [hl] at h
 | cons a r=>
  cases r with
  | nil=>simp [hl] at h
  | cons b r=>
   cases r with
   | cons=>simp [hl] at h
   | nil=>
    simp only [hl,List.map_cons,List.map_nil,List.cons.injEq,and_true] at h
    have:c.args.map ρ=#[ρ a,ρ b]:=by apply Array.ext'; simp [hl]
    exact ⟨_,_,this,h.1▸S a,h.2▸S b⟩
theorem qFo {c:Call} {t u:TypeId} (h:c.argTypes.toList=[t,u]):c.argTypes=#[t,u]:=Array.ext' h
theorem qGL (H : qL ob γ G w) {lvl : Nat} {d : Option Tmp} {an : Option Ans} {val : Operand → AV} {ρ : Operand → Value} (S : jt ob γ G w val ρ) {h h' : Ob} (hh : ∀ l o, get h l = some o → get ob l = some o) {t : TypeId} {a x : Operand} {out : Out} {ps : List Prop}
    (hs:zd P lvl d an val h (.store t a x)=some ((out,h'),ps)) (hp:All ps):qTz P ob γ G w (do Instr.storeAt t (ρ a) (ρ x); pure Next.skip) h h' out:=by
 simp only [zd] at hs
 have ha:=S a
 have fin:∀ {ad:Addr} {w':World},ρ a=.pointer (some ad)→(storeVar t ad (ρ x)).run P w=.ok () w'→(Instr.storeAt t (ρ a) (ρ x)).run P w=.ok () w':=fun e h=>by
  rw [e]; simp only [Instr.storeAt,Instr.sureAddr,Sem.run_bind,Sem.run_pure,Result.andThen_ok,h]
 split at hs
 ·rename_i l path off hv
  rw [hv] at ha
  have h3:=zx rfl rfl ha
  simp only [qm] at h3
  obtain ⟨h3,_⟩:=h3
  simp only [List.cons.injEq,and_true] at h3
  split at hs
  ·rename_i c hg
   split at hs
   ·rename_i o y h1 h2
    obtain ⟨hc,hs⟩:=qO hs
    simp only [Bool.and_eq_true,beq_iff_eq] at hc
    obtain ⟨_,p1,p2,e1,e2,hp1,hp2⟩:=qJ hs hp
    obtain ⟨c',p3,p4,e3,e4,hp3,hp4⟩:=qJ e2 hp2
    obtain ⟨rfl,rfl⟩:=qe7 e4
    obtain ⟨w',g1,g2,g3⟩:=qzV H (hh _ _ hg) h1 h2 hc.1.1 hc.1.2 hc.2 (Ym e1 hp1) e3 hp3 (S x)
    exact ⟨_,rfl,.inr (.inl ⟨l,_,rfl,.ofU (fin h3 g1) g2 g3⟩)⟩
   ·simp at hs
  ·simp at hs
 ·rename_i l n path off hv
  rw [hv] at ha
  have h3:=zx rfl rfl ha
  simp only [qm] at h3
  obtain ⟨b,h3,h4⟩:=h3
  simp only [List.cons.injEq,and_true] at h3
  split at hs
  ·rename_i sz s x' hg hx
   have hg':=hh _ _ hg
   have hb:s.len=n→b=(γ l).1:=fun hn=>by
    rcases h4 with ⟨fz',sz',x',g1,g2,g3⟩ | ⟨xs,g1,_⟩
    ·rw [hg'] at g1; cases g1; exact g3 hn
    ·rw [hg'] at g1; cases g1
   have hxx:=S x
   rw [hx] at hxx
   split at hs
   ·rename_i k
    obtain ⟨hc,hs⟩:=qO hs
    simp only [Bool.and_eq_true,beq_iff_eq] at hc
    obtain ⟨_,p1,p2,e1,e2,hp1,hp2⟩:=qJ hs hp
    obtain ⟨s',p3,p4,e3,e4,hp3,hp4⟩:=qJ e2 hp2
    obtain ⟨rfl,rfl⟩:=qe7 e4
    obtain ⟨q1,q2,q3⟩:s.len=n∧k < n∧off=k * sz:=Ym e1 hp1
    have hlen:s'.len=s.len:=by
     cases s<;>simp only [qdI] at e3
     case l=>obtain ⟨_,e3⟩:=qO e3; rw [qq e3]; simp [PV.len]
     case bl=>obtain ⟨_,_,_,_,e5,_,_⟩:=qJ e3 hp3; rw [qq e5]; simp [PV.len]
     all_goals simp at e3
    obtain ⟨w',g1,g2,g3⟩:=qmV (t:=t) (off:=off) (x:=x') H hg' q1 (by omega) hb (fun cs dy hr hy=>by
     have hk:k < s.len:=by omega
     have hcl:=zu.len hr
     have hkl:k * sz + sz≤cs.length:=by
      rw [hcl,← Nat.succ_mul]; exact Nat.mul_le_mul_right _ hk
     have hsp:cs=cs.take (k * sz)++(cs.drop (k * sz)).take sz++cs.drop (k * sz + sz):=by
      rw [← List.drop_drop,List.append_assoc,List.take_append_drop,List.take_append_drop]
     have hd:((cs.drop (k * sz)).take sz).length=sz:=by simp; omega
     have hc':(cs.take (k * sz)).length=k * sz:=by simp; omega
     rw [hsp] at hr
     obtain ⟨r1,r2,r3⟩:=qtM hr hc' hd hk e3 hp3 hy
     exact ⟨_,_,_,hsp,by rw [hc',q3],by rw [hd,r3],r1⟩) hlen hc.1 hxx
    exact ⟨_,rfl,.inr (.inl ⟨l,_,rfl,.ofU (fin h3 g1) g2 g3⟩)⟩
   ·rename_i k r _
    obtain ⟨y,p1,p2,e1,e2,hp1,hp2⟩:=qJ hs hp
    obtain ⟨hk0,hy⟩:=qd0 e1 hp1
    split at e2
    ·rename_i o z h1 h2
     obtain ⟨hc,e2⟩:=qO e2
     simp only [Bool.and_eq_true,beq_iff_eq] at hc
     obtain ⟨_,p3,p4,e3,e4,hp3,hp4⟩:=qJ e2 hp2
     obtain ⟨q1,q2⟩:s.len=n∧off=k * sz + o:=Ym e3 hp3
     obtain ⟨_,p5,p6,e5,e6,hp5,hp6⟩:=qJ e4 hp4
     have hin:=Ym e5 hp5
     obtain ⟨yy,p7,p8,e7,e8,hp7,hp8⟩:=qJ e6 hp6
     split at e8
     ·rename_i y'
      obtain ⟨s',p9,p10,e9,e10,hp9,hp10⟩:=qJ e8 hp8
      obtain ⟨rfl,rfl⟩:=qe7 e10
      have hlen:s'.len=s.len:=by
       cases s<;>simp only [qdI] at e9
       case l=>obtain ⟨_,e9⟩:=qO e9; rw [qq e9]; simp [PV.len]
       case bl=>obtain ⟨_,_,_,_,e11,_,_⟩:=qJ e9 hp9; rw [qq e11]; simp [PV.len]
       all_goals simp at e9
      obtain ⟨w',g1,g2,g3⟩:=qmV (t:=t) (off:=off) (x:=x') H hg' q1 (Nat.lt_of_le_of_lt (Nat.zero_le _) (qyy hy)) hb (fun cs dy hr hdy=>by
       have hkl:=qyy hy
       simp only [Int.toNat_natCast] at hy hkl
       obtain ⟨c,d,e,rfl,t1,t2,t3⟩:=qAn hr hy
       obtain ⟨c1,d1,f1,rfl,t4,t5⟩:=qeQ (ob:=[]) (γ:=fun _=>(0,0)) r (.pv y) z o d h2 h1 hin (by simpa only [qm] using t2)
       have t6:=qm.len _ _ t5
       have t7:=qG.len _ _ hdy
       have t8:=qoa (ob:=[]) (γ:=fun _=>(0,0)) (G:=G) (w:=w) r (.pv y) (.pv x') (.pv y') z o c1 d1 f1 dy p7 e7 hp7 hin h2 h1 t4 t6 (by simpa only [qm] using t2) (by simpa only [qm] using hdy)
       have t9:=qG.len _ _ t2
       obtain ⟨r1,r2,r3⟩:=qtM hr t1 (by rw [t9]; exact t3) hkl e9 hp9 (by simpa only [qm] using t8)
       refine ⟨c++c1,d1,f1++e,by simp,by simp; omega,by rw [t6,hc.2]; exact t7.symm,by simpa [List.append_assoc] using r1⟩) hlen hc.1 hxx
      exact ⟨_,rfl,.inr (.inl ⟨l,_,rfl,.ofU (fin h3 g1) g2 g3⟩)⟩
     ·simp at e8
    ·simp at e2
   ·simp at hs
  ·simp at hs
 ·simp at hs
theorem qgT {n:Nat} (h:Nat.blt 0 n=true):0 < n:=Nat.le_of_ble_eq_true h
theorem qvZ {an:Option Ans} {k:PV} {x:AV} {c:Nat} {es:jN} {r:Nat×jN} {ps:List Prop} (h:qns an k x c es=some (r,ps)) (hp:All ps):qaF k x c es=some (r.1,r.2):=by
 unfold qns at h
 split at h
 ·obtain ⟨rfl,h2⟩:=zG h hp; exact h2
 ·exact Jh h
theorem qOb {an:Option Ans} {k:PV} {es:jN} {r:Option (AV×Nat)} {ps:List Prop} (h:qjX an k es=some (r,ps)) (hp:All ps):Vb k es=some r:=by
 unfold qjX at h
 split at h
 ·obtain ⟨rfl,h2⟩:=zG h hp; exact h2
 ·exact Jh h
theorem qSE {an:Option Ans} {k:PV} {es r:jN} {ps:List Prop} (h:qNI an k es=some (r,ps)) (hp:All ps):qbY k es=some r:=by
 unfold qNI at h
 split at h
 ·obtain ⟨rfl,h2⟩:=zG h hp; exact h2
 ·exact Jh h
theorem qTQ {an:Option Ans} {b:Int} {x:AV} {es r:jN} {ps:List Prop} (h:atO an b x es=some (r,ps)) (hp:All ps):qgd b x es=some r:=by
 unfold atO at h
 split at h
 ·obtain ⟨rfl,h2⟩:=zG h hp; exact h2
 ·exact Jh h
theorem qtB (H : qL ob γ G w) {val : Operand → AV} {ρ : Operand → Value} (S : jt ob γ G w val ρ) {h h' : Ob} (hh : ∀ l o, get h l = some o → get ob l = some o) {an : Option Ans} {t : TypeId} {m k x : Operand} {out : Out} {ps : List Prop}
    (hs:(match qy P t,val m,val k with
    | some (.map kt e),.m l,.pv k=>match get h l with
     | some (.map c es)=>qR (zj P kt (.pv k)&&eqT P 30 kt&&zj P e (val x)&&(val x).Y1) ((qns an k (val x) c es).with fun r=>done l (.map r.1 r.2) h)
     | _=>none
    | _,_,_=>none)=some ((out,h'),ps)) (hp:All ps):qTz P ob γ G w (do Instr.mapUpdate t (ρ m) (ρ k) (ρ x); pure Next.skip) h h' out:=by
 split at hs
 ·rename_i kt e l kk h1 h2 h3
  split at hs
  ·rename_i c es hg
   obtain ⟨hc,hs⟩:=qO hs
   simp only [Bool.and_eq_true,zj] at hc
   obtain ⟨r,p1,p2,e1,e2,hp1,hp2⟩:=qJ hs hp
   obtain ⟨rfl,rfl⟩:=qe7 e2
   obtain ⟨G',w',g1,g2,g3⟩:=qAJ H S h1 h2 h3 (hh _ _ hg) hc.1.1.1.2 hc.1.1.2 hc.2 (qvZ e1 hp1)
   exact ⟨_,rfl,.inr (.inl ⟨l,_,rfl,.ofU g1 g2 g3⟩)⟩
  ·simp at hs
 ·simp at hs
end g
end Go.Rx
end
noncomputable section
namespace Go.Rx
section g
variable {P:Program} {ob ob':Ob} {γ γ':Hm} {G:Gh} {w:World}
def qeb (ob ob':Ob) (γ γ':Hm) (ns:List Nat):Prop:=∀ n∈ns,get ob' n=get ob n∧γ' n=γ n
theorem qeb.left {ns ms:List Nat} (h:qeb ob ob' γ γ' (ns++ms)):qeb ob ob' γ γ' ns:=fun n hn=>h n (List.mem_append_left _ hn)
theorem qeb.right {ns ms:List Nat} (h:qeb ob ob' γ γ' (ns++ms)):qeb ob ob' γ γ' ms:=fun n hn=>h n (List.mem_append_right _ hn)
mutual
theorem qfo:∀ (x:AV) (cs:List Value),qeb ob ob' γ γ' x.names→qm ob γ G w x cs→qm ob' γ' G w x cs
 | .pv _,_,_,h=>h
 | .ag xs,cs,ha,h=>by
  simp only [AV.names] at ha
  simp only [qm] at h ⊢
  exact qn3 xs cs ha h
 | .nils,_,_,h=>h
 | .v l n,cs,ha,h=>by
  obtain ⟨e1,e2⟩:=ha l (by simp [AV.names])
  simp only [qm] at h ⊢
  rw [e1,e2]; exact h
 | .p l path off,cs,ha,h=>by
  obtain ⟨e1,e2⟩:=ha l (by simp [AV.names])
  simp only [qm] at h ⊢
  rw [e1,e2]; exact h
 | .pe l n path off,cs,ha,h=>by
  obtain ⟨e1,e2⟩:=ha l (by simp [AV.names])
  simp only [qm] at h ⊢
  rw [e1,e2]; exact h
 | .ro _,_,_,h=>h
 | .nilp,_,_,h=>h
 | .m l,cs,ha,h=>by
  obtain ⟨e1,e2⟩:=ha l (by simp [AV.names])
  simp only [qm] at h ⊢
  rw [e1,e2]; exact h
 | .nilm,_,_,h=>h
 | .fn f a c,cs,ha,h=>by
  simp only [AV.names] at ha
  simp only [qm] at h ⊢
  obtain ⟨va,vc,h1,h2,h3⟩:=h
  exact ⟨va,vc,h1,qfK a va ha.left h2,qfK c vc ha.right h3⟩
 | .nilf,_,_,h=>h
 | .iface t x,cs,ha,h=>by
  simp only [AV.names] at ha
  simp only [qm] at h ⊢
  obtain ⟨c,v,h1,h2,h3⟩:=h
  exact ⟨c,v,h1,qfo x c ha h2,h3⟩
 | .nili,_,_,h=>h
 | .yl l,cs,ha,h=>by
  obtain ⟨e1,e2⟩:=ha l (by simp [AV.names])
  simp only [qm] at h ⊢
  rw [e1,e2]; exact h
 | .es _,_,_,h=>h
 | .tup _,_,_,h=>h
 | .undef,_,_,h=>h
theorem qn3:∀ (xs:List AV) (cs:List Value),qeb ob ob' γ γ' (AV.q9 xs)→zh ob γ G w xs cs→zh ob' γ' G w xs cs
 | [],_,_,h=>h
 | x::xs,cs,ha,h=>by
  simp only [AV.q9] at ha
  simp only [zh] at h ⊢
  obtain ⟨c,d,e,h1,h2⟩:=h
  exact ⟨c,d,e,qfo x c ha.left h1,qn3 xs d ha.right h2⟩
theorem qfK:∀ (xs:List AV) (vs:List Value),qeb ob ob' γ γ' (AV.q9 xs)→zB ob γ G w xs vs→zB ob' γ' G w xs vs
 | [],_,_,h=>h
 | x::xs,vs,ha,h=>by
  simp only [AV.q9] at ha
  simp only [zB] at h ⊢
  obtain ⟨c,v,r,e,h1,h2,h3⟩:=h
  exact ⟨c,v,r,e,qfo x c ha.left h1,h2,qfK xs r ha.right h3⟩
end
theorem KO {x:AV} {v:Value} (ha:qeb ob ob' γ γ' x.names) (h:qM ob γ G w x v):qM ob' γ' G w x v:=by
 rcases qq8 h with ⟨xs,rfl⟩ | rfl | ⟨cs,h1,h2⟩
 ·obtain ⟨vs,e,h⟩:=h
  simp only [AV.names] at ha
  exact ⟨vs,e,qfK xs vs ha h⟩
 ·trivial
 ·exact qeY (qfo x cs ha h1) h2
theorem qsu:∀ (es:jN) (l:List MapEntry),q_ ob γ G w es l→q_ ob' γ' G w es l
 | [],_,h=>h
 | (k,x,n)::r,l,h=>by
  simp only [q_] at h ⊢
  obtain ⟨e,t,h1,h2,h3,h4,h5⟩:=h
  refine ⟨e,t,h1,KO (fun n hn=>by simp [AV.names] at hn) h2,⟨?_,h3.2⟩,h4,qsu r t h5⟩
  cases x with
  | pv x=>exact KO (fun n hn=>by simp [AV.names] at hn) h3.1
  | _=>simp [AV.Y1] at h3
theorem qOQ {sl:List (Nat×AV)} {t:Nat} {x:AV} (h:get sl t=some x):∀ m∈x.names,m∈AV.q9 (sl.map (·.2)):=by
 induction sl with
 | nil=>simp [get_nil,zK] at h
 | cons e r ih=>
  obtain ⟨a,y⟩:=e
  intro m hm
  simp only [get_nil,zK] at h
  simp only [List.map_cons,AV.q9,List.mem_append]
  split at h
  ·cases h; exact .inl hm
  ·exact .inr (ih h m hm)
theorem qoC {l:Nat} {o:jc} (ha:qeb ob ob' γ γ' o.names) (hl:γ' l=γ l) (h:zq ob γ G w l o):zq ob' γ' G w l o:=by
 cases o<;>simp only [zq,hl] at h ⊢
 ·obtain ⟨cs,h1,h2,h3⟩:=h; exact ⟨cs,h1,qfo _ _ ha h2,h3⟩
 ·exact h
 ·obtain ⟨cs,h1,h2,h3⟩:=h; exact ⟨cs,h1,qn3 _ _ ha h2,h3⟩
 ·obtain ⟨e,h1,h2,h3⟩:=h; exact ⟨e,h1,qsu _ _ h2,h3⟩
 ·rename_i ps n sl as0 bd fn st pe d
  obtain ⟨tmps,fn',h1,h2,h3,h4,h5⟩:=h
  obtain ⟨e1,e2⟩:=ha d (by simp [jc.names])
  refine ⟨tmps,fn',by rw [e2]; exact h1,h2,fun t x hx=>?_,by rw [e1]; exact h4,h5⟩
  obtain ⟨v,g1,g2⟩:=h3 t x hx
  refine ⟨v,g1,KO (fun m hm=>ha m ?_) g2⟩
  simp only [jc.names,List.mem_cons]
  exact .inr (qOQ hx m hm)
 ·exact h
theorem qL.sub (H:qL ob γ G w) (hs:∀ l o,get ob' l=some o→get ob l=some o) (hc:∀ l o,get ob' l=some o→∀ n∈o.names,∃ x,get ob' n=some x):qL ob' γ G w:=by
 refine ⟨fun l o hl=>?_,fun l l' o o' h1 h2 v1 v2=>H.inj l l' o o' (hs l o h1) (hs l' o' h2) v1 v2,H.gok,hc⟩
 refine qoC (fun n hn=>?_) rfl (H.obj l o (hs l o hl))
 obtain ⟨x,hx⟩:=hc l o hl n hn
 exact ⟨by rw [hx,hs n x hx],rfl⟩
theorem qhe {x:AV} {v:Value} (hs:∀ l o,get ob' l=some o→get ob l=some o) (hc:∀ n∈x.names,∃ o,get ob' n=some o) (h:qM ob γ G w x v):qM ob' γ G w x v:=
 KO (fun n hn=>by obtain ⟨o,ho⟩:=hc n hn; exact ⟨by rw [ho,hs n o ho],rfl⟩) h
theorem Trans.drop {h₀:Ob} {γ₀:Hm} {G₀:Gh} {w₀:World} (T:Trans h₀ γ₀ G₀ w₀ ob γ G w) (hs:∀ l o,get ob' l=some o→get ob l=some o) (hk:∀ l o,get h₀ l=some o→∃ x,get ob' l=some x):Trans h₀ γ₀ G₀ w₀ ob' γ G w:=by
 refine ⟨T.keeps,T.size,T.frame,T.gnew,fun l o hl=>?_,fun l o hl hv=>T.fresh l o (hs l o hl) hv,T.io⟩
 obtain ⟨o',h1,h2⟩:=T.kept l o hl
 obtain ⟨x,hx⟩:=hk l o hl
 have:=hs l x hx
 rw [h1] at this; cases this
 exact ⟨o',hx,h2⟩
theorem get_merge (T:List Nat) (h ob:Ob) (j:Nat):get (merge T h ob) j=match get h j with | some x=>some x | none=>if has T j then none else get ob j:=by
 unfold merge
 rw [qO9,get_filter ob (fun n=>!has T n)]
 cases get h j with
 | some x=>rfl
 | none=>cases has T j<;>rfl
def qjD (h:Ob) (γ' γ:Hm):Hm:=fun l=>if has (dom h) l then γ' l else γ l
theorem Jk {h:Ob} {l:Nat} {x:jc} (hl:get h l=some x):qjD h γ' γ l=γ' l:=by
 unfold qjD; rw [if_pos ((Wy h l).2 ⟨x,hl⟩)]
theorem JK {h:Ob} {l:Nat} (hl:get h l=none):qjD h γ' γ l=γ l:=by
 unfold qjD; rw [if_neg]; rw [(Yt h l).2 hl]; simp
theorem qyd {γ₁ γ₂ γ:Hm} {l:Nat} {o o':jc} (h:Vt γ₁ γ l o o') (e:γ₂ l=γ₁ l):Vt γ₂ γ l o o':=by
 cases o<;>cases o'<;>simp only [Vt,e] at h ⊢<;>exact h
theorem qln {T : List Nat} {h' : Ob} {G' : Gh} {w' : World} (H : qL ob γ G w) (H' : qL h' γ' G' w') (Tr : Trans (qD T ob) γ G w h' γ' G' w') (hc : ∀ n x, get h' n = some x → has T n = true ∨ get ob n = none) :
    qL (merge T h' ob) (qjD h' γ' γ) G' w'∧Trans ob γ G w (merge T h' ob) (qjD h' γ' γ) G' w':=by
 have hin:∀ l o,get (qD T ob) l=some o↔has T l=true∧get ob l=some o:=fun l o=>by
  rw [vG]; cases has T l<;>simp
 have hout:∀ {l:Nat} {o:jc},get ob l=some o→has T l=false→get h' l=none:=fun {l o} h1 h2=>by
  cases hg:get h' l with
  | none=>rfl
  | some x => rcases hc l x hg with h | h
              ·rw [h] at h2; cases h2
              ·rw [h] at h1; cases h1
 have hget:∀ {l:Nat} {o:jc},get (merge T h' ob) l=some o→get h' l=some o∨(get h' l=none∧has T l=false∧get ob l=some o):=fun {l o} hl=>by
  rw [get_merge] at hl
  cases hg:get h' l with
  | some x=>rw [hg] at hl; exact .inl hl
  | none=>
   rw [hg] at hl
   simp only at hl
   cases ht:has T l with
   | true=>rw [ht] at hl; simp at hl
   | false=>rw [ht] at hl; exact .inr ⟨rfl,rfl,by simpa using hl⟩
 have hnew:∀ {l:Nat} {o:jc},get h' l=some o→get (merge T h' ob) l=some o:=fun hl=>by rw [get_merge,hl]
 have hold:∀ {l:Nat} {o:jc},get ob l=some o→has T l=false→get (merge T h' ob) l=some o:=fun h1 h2=>by
  rw [get_merge,hout h1 h2]; simp [h2,h1]
 have hT:Trans ob γ G w (merge T h' ob) (qjD h' γ' γ) G' w':=by
  refine ⟨Tr.keeps,Tr.size,fun b hb hno=>Tr.frame b hb fun l o hl hv=>hno l o ((hin l o).1 hl).2 hv,fun b o h1 h2=>?_,fun l o hl=>?_,fun l o hl hv=>?_,Tr.io⟩
  ·rcases Tr.gnew b o h1 h2 with h | ⟨l,x,hl,hv,he⟩
   ·exact .inl h
   ·exact .inr ⟨l,x,((hin l x).1 hl).2,hv,he⟩
  ·cases ht:has T l with
   | true=>
    obtain ⟨o',h1,h2⟩:=Tr.kept l o ((hin l o).2 ⟨ht,hl⟩)
    exact ⟨o',hnew h1,qyd h2 (Jk h1)⟩
   | false=>exact ⟨o,hold hl ht,qka (H.obj l o hl) (JK (hout hl ht))⟩
  ·rcases hget hl with h | ⟨h1,h2,h3⟩
   ·rw [Jk h]
    rcases Tr.fresh l o h ((jJ (Jk h)).1 hv) with h | ⟨l₀,o₀,h4,hx,h5⟩
    ·exact .inl h
    ·exact .inr ⟨l₀,o₀,((hin _ _).1 h4).2,hx,h5⟩
   ·exact .inr ⟨l,o,h3,(jJ (JK h1)).1 hv,by rw [JK h1]⟩
 refine ⟨⟨fun l o hl=>?_,fun l l' o o' hl hl' v v' he=>?_,H'.gok,fun l o hl n hn=>?_⟩,hT⟩
 ·rcases hget hl with h | ⟨h1,h2,h3⟩
  ·refine qoC (fun n hn=>?_) (Jk h) (H'.obj l o h)
   obtain ⟨x,hx⟩:=H'.closed l o h n hn
   exact ⟨by rw [hnew hx,hx],Jk hx⟩
  ·have h0:=H.obj l o h3
   have hno:live γ l o→∀ l₁ o₁,get (qD T ob) l₁=some o₁→live γ l₁ o₁→(γ l₁).1≠(γ l).1:=fun hv l₁ o₁ h4 hx he=>by
    obtain ⟨h5,h6⟩:=(hin _ _).1 h4
    have:=H.inj l₁ l o₁ o h6 h3 hx hv he
    subst this; rw [h5] at h2; cases h2
   refine zq.step hT (fun hv=>Tr.frame _ (h0.lt hv) (hno hv)) (JK h1) (fun hv i=>⟨fun hi=>?_,Tr.keeps.sub _ _⟩) h0
   by_cases hgi:G (γ l).1 i
   ·exact hgi
   ·rcases Tr.gnew _ _ hi hgi with h | ⟨l₁,x,h4,hx,h5⟩
    ·have:=h0.lt hv; omega
    ·exact absurd h5 (hno hv l₁ x h4 hx)
 ·have mixed : ∀ {l l' : Nat} {o o' : jc}, get h' l = some o → get h' l' = none → has T l' = false → get ob l' = some o' → live γ' l o → live γ l' o' → (γ' l).1 = (γ l').1 → False := fun {l l' o o'} h1 h2 h3 h4 v1 v2 h5 => by
     rcases Tr.fresh l o h1 v1 with h | ⟨l₀,o₀,h6,hx,h7⟩
     ·have:=(H.obj l' o' h4).lt v2; omega
     ·obtain ⟨h8,h9⟩:=(hin _ _).1 h6
      have:=H.inj l₀ l' o₀ o' h9 h4 hx v2 (by rw [h7,h5])
      subst this; rw [h8] at h3; cases h3
  rcases hget hl with h | ⟨h1,h2,h3⟩<;>rcases hget hl' with h' | ⟨h1',h2',h3'⟩
  ·rw [Jk h,Jk h'] at he; exact H'.inj l l' o o' h h' ((jJ (Jk h)).1 v) ((jJ (Jk h')).1 v') he
  ·rw [Jk h,JK h1'] at he; exact (mixed h h1' h2' h3' ((jJ (Jk h)).1 v) ((jJ (JK h1')).1 v') he).elim
  ·rw [JK h1,Jk h'] at he; exact (mixed h' h1 h2 h3 ((jJ (Jk h')).1 v') ((jJ (JK h1)).1 v) he.symm).elim
  ·rw [JK h1,JK h1'] at he; exact H.inj l l' o o' h3 h3' ((jJ (JK h1)).1 v) ((jJ (JK h1')).1 v') he
 ·rcases hget hl with h | ⟨h1,h2,h3⟩
  ·obtain ⟨x,hx⟩:=H'.closed l o h n hn; exact ⟨x,hnew hx⟩
  ·obtain ⟨x,hx⟩:=H.closed l o h3 n hn
   cases ht:has T n with
   | true=>obtain ⟨o',h4,_⟩:=Tr.kept n x ((hin n x).2 ⟨ht,hx⟩); exact ⟨o',hnew h4⟩
   | false=>exact ⟨x,hold hx ht⟩
theorem qub {T:List Nat} {h':Ob} {G':Gh} {w':World} {x:AV} {v:Value} (h:qM h' γ' G' w' x v):qM (merge T h' ob) (qjD h' γ' γ) G' w' x v:=
 KO (fun n hn=>by
  obtain ⟨o,ho⟩:=qqX h n hn
  exact ⟨by rw [get_merge,ho],Jk ho⟩) h
end g
end Go.Rx
end
noncomputable section
namespace Go.Rx
section g
variable {P:Program} {ob:Ob} {γ:Hm} {G:Gh} {w:World}
def qdD (h:Ob) (fz:List Nat):Prop:=∀ l∈fz,∃ f sz x,get h l=some (.vec f sz x)
theorem qER : ∀ (fz : List Nat) (h : Ob) (G : Gh), qL h γ G w → qdD h fz →
    ∃ G',qL (freeze fz h) γ G' w∧Trans h γ G w (freeze fz h) γ G' w∧(∀ l f sz x,get h l=some (.vec f sz x)→∃ f',get (freeze fz h) l=some (.vec f' sz x)∧(l∈fz→f'=true))∧(∀ l o,get (freeze fz h) l=some o→∃ o',get h l=some o'∧o.names=o'.names)
 | [],h,G,H,_=>⟨G,H,Trans.refl H,fun l f sz x hl=>⟨f,hl,by simp⟩,fun l o hl=>⟨o,hl,rfl⟩⟩
 | l::r,h,G,H,hv=>by
  obtain ⟨f,sz,x,hl⟩:=hv l (by simp)
  obtain ⟨G1,H1,T1⟩:=qk7 H hl
  have he:freeze (l::r) h=freeze r (ins l (.vec true sz x) h):=by simp only [freeze,hl,qOL]
  have hv1:qdD (ins l (.vec true sz x) h) r:=fun l' hl'=>by
   obtain ⟨f',sz',x',h'⟩:=hv l' (by simp [hl'])
   rw [qT]; split
   ·exact ⟨_,_,_,rfl⟩
   ·exact ⟨_,_,_,h'⟩
  obtain ⟨G2,H2,T2,K,N⟩:=qER r _ G1 H1 hv1
  rw [he]
  refine ⟨G2,H2,T1.trans H T2,fun l' f' sz' x' h'=>?_,fun l' o hl'=>?_⟩
  ·by_cases e:l=l'
   ·subst e
    rw [hl] at h'; cases h'
    obtain ⟨f2,h2,h3⟩:=K l true sz x (by rw [qT,if_pos rfl])
    refine ⟨f2,h2,fun _=>?_⟩
    by_cases hm:l∈r
    ·exact h3 hm
    ·
     have:∀ (r:List Nat) (h:Ob),l∉r→get (freeze r h) l=get h l:=by
      intro r
      induction r with
      | nil=>intro h _; rfl
      | cons a r ih=>
       intro h hn
       simp only [freeze]
       split
       ·rw [ih _ (fun hm=>hn (by simp [hm])),qT,if_neg (fun e=>hn (by simp [e]))]
       ·exact ih _ (fun hm=>hn (by simp [hm]))
     rw [this r _ hm,qT,if_pos rfl] at h2
     cases h2; rfl
   ·obtain ⟨f2,h2,h3⟩:=K l' f' sz' x' (by rw [qT,if_neg e]; exact h')
    refine ⟨f2,h2,fun hm=>h3 ?_⟩
    rcases List.mem_cons.1 hm with rfl | hm
    ·exact absurd rfl e
    ·exact hm
  ·obtain ⟨o',h1,h2⟩:=N l' o hl'
   rw [qT] at h1
   split at h1
   ·rename_i e; subst e; cases h1; exact ⟨_,hl,h2⟩
   ·exact ⟨o',h1,h2⟩
mutual
theorem qmC (h:Ob):∀ (x:AV) (y:PV) (fz:List Nat) (ps:List Prop),snap h x=some (y,fz,ps)→qdD h fz
 | .pv x,y,fz,ps,hs=>by simp only [snap,Option.some.injEq,Prod.mk.injEq] at hs; obtain ⟨_,rfl,_⟩:=hs; intro l hl; simp at hl
 | .v l n,y,fz,ps,hs=>by
  simp only [snap] at hs
  split at hs
  ·rename_i f sz x hg
   simp only [Option.some.injEq,Prod.mk.injEq] at hs
   obtain ⟨_,rfl,_⟩:=hs
   intro l' hl'; simp at hl'; subst hl'; exact ⟨_,_,_,hg⟩
  ·simp at hs
 | .ag xs,y,fz,ps,hs=>by
  simp only [snap] at hs
  split at hs
  ·rename_i ys a qs hq
   simp only [Option.some.injEq,Prod.mk.injEq] at hs
   obtain ⟨_,rfl,_⟩:=hs
   exact qBc h xs _ _ _ hq
  ·simp at hs
 | .nils,y,fz,ps,hs=>by simp [snap] at hs
 | .p _ _ _,y,fz,ps,hs=>by simp [snap] at hs
 | .pe _ _ _ _,y,fz,ps,hs=>by simp [snap] at hs
 | .ro _,y,fz,ps,hs=>by simp [snap] at hs
 | .nilp,y,fz,ps,hs=>by simp [snap] at hs
 | .m _,y,fz,ps,hs=>by simp [snap] at hs
 | .nilm,y,fz,ps,hs=>by simp [snap] at hs
 | .fn _ _ _,y,fz,ps,hs=>by simp [snap] at hs
 | .nilf,y,fz,ps,hs=>by simp [snap] at hs
 | .iface _ _,y,fz,ps,hs=>by simp [snap] at hs
 | .nili,y,fz,ps,hs=>by simp [snap] at hs
 | .tup _,y,fz,ps,hs=>by simp [snap] at hs
 | .yl _,y,fz,ps,hs=>by simp [snap] at hs
 | .es _,y,fz,ps,hs=>by simp [snap] at hs
 | .undef,y,fz,ps,hs=>by simp [snap] at hs
theorem qBc (h:Ob):∀ (xs:List AV) (ys:List PV) (fz:List Nat) (ps:List Prop),qmB h xs=some (ys,fz,ps)→qdD h fz
 | [],ys,fz,ps,hs=>by simp only [qmB,Option.some.injEq,Prod.mk.injEq] at hs; obtain ⟨_,rfl,_⟩:=hs; intro l hl; simp at hl
 | x::xs,ys,fz,ps,hs=>by
  simp only [qmB] at hs
  split at hs
  ·rename_i y a ps1 ys' b qs h1 h2
   simp only [Option.some.injEq,Prod.mk.injEq] at hs
   obtain ⟨_,rfl,_⟩:=hs
   intro l hl
   rcases List.mem_append.1 hl with hl | hl
   ·exact qmC h x _ _ _ h1 l hl
   ·exact qBc h xs _ _ _ h2 l hl
  ·simp at hs
end
end g
structure Ka (h:Ob) (G:Gh) (w:World) (γ:Hm) (fz:List Nat) (h2:Ob) (G':Gh):Prop where
 ok:qL h2 γ G' w
 tr:Trans h γ G w h2 γ G' w
 vec:∀ l f sz x,l∈fz→get h l=some (.vec f sz x)→get h2 l=some (.vec true sz x)
section g
variable {P:Program} {h h2:Ob} {γ:Hm} {G G':Gh} {w:World} {fz:List Nat}
theorem qEp (H:qL h γ G w) {l sz:Nat} {f:Bool} {x:PV} (hl:get h l=some (.vec f sz x)):x.JY=true:=by
 have h0:=H.obj _ _ hl
 simp only [zq] at h0
 obtain ⟨_,cs,sp,hr,_⟩:=h0
 exact (qIf hr).2
mutual
theorem qqM (F:Ka h G w γ fz h2 G'):∀ (x:AV) (y:PV) (a:List Nat) (ps:List Prop) (cs:List Value),snap h x=some (y,a,ps)→(∀ l∈a,l∈fz)→All ps→qm h γ G w x cs→qG G' w y cs
 | .pv x,y,a,ps,cs,hs,ha,hp,hr=>by
  simp only [snap,Option.some.injEq,Prod.mk.injEq] at hs
  obtain ⟨rfl,_⟩:=hs
  simp only [qm] at hr
  exact qG.mono F.tr.keeps _ _ hr
 | .v l n,y,a,ps,cs,hs,ha,hp,hr=>by
  simp only [snap] at hs
  split at hs
  ·rename_i f sz x hg
   simp only [Option.some.injEq,Prod.mk.injEq] at hs
   obtain ⟨rfl,rfl,rfl⟩:=hs
   simp only [qm] at hr
   obtain ⟨b,cap,rfl,h1,h3⟩:=hr
   have hn:x.len=n:=hp
   obtain ⟨hc,hd⟩:=qMj hg hn h3
   have:=(qBj F.ok (F.vec l f sz x (ha l (by simp)) hg) hc hd).1
   rw [hn] at this
   exact this
  ·simp at hs
 | .ag xs,y,a,ps,cs,hs,ha,hp,hr=>by
  simp only [snap] at hs
  split at hs
  ·rename_i ys b qs hq
   simp only [Option.some.injEq,Prod.mk.injEq] at hs
   obtain ⟨rfl,rfl,rfl⟩:=hs
   simp only [qm] at hr
   simp only [qG]
   exact qxG F _ _ _ _ _ hq ha hp hr
  ·simp at hs
 | .nils,y,a,ps,cs,hs,_,_,_=>by simp [snap] at hs
 | .p _ _ _,y,a,ps,cs,hs,_,_,_=>by simp [snap] at hs
 | .pe _ _ _ _,y,a,ps,cs,hs,_,_,_=>by simp [snap] at hs
 | .ro _,y,a,ps,cs,hs,_,_,_=>by simp [snap] at hs
 | .nilp,y,a,ps,cs,hs,_,_,_=>by simp [snap] at hs
 | .m _,y,a,ps,cs,hs,_,_,_=>by simp [snap] at hs
 | .nilm,y,a,ps,cs,hs,_,_,_=>by simp [snap] at hs
 | .fn _ _ _,y,a,ps,cs,hs,_,_,_=>by simp [snap] at hs
 | .nilf,y,a,ps,cs,hs,_,_,_=>by simp [snap] at hs
 | .iface _ _,y,a,ps,cs,hs,_,_,_=>by simp [snap] at hs
 | .nili,y,a,ps,cs,hs,_,_,_=>by simp [snap] at hs
 | .tup _,y,a,ps,cs,hs,_,_,_=>by simp [snap] at hs
 | .yl _,y,a,ps,cs,hs,_,_,_=>by simp [snap] at hs
 | .es _,y,a,ps,cs,hs,_,_,_=>by simp [snap] at hs
 | .undef,y,a,ps,cs,hs,_,_,_=>by simp [snap] at hs
theorem qxG (F:Ka h G w γ fz h2 G'):∀ (xs:List AV) (ys:List PV) (a:List Nat) (ps:List Prop) (cs:List Value),qmB h xs=some (ys,a,ps)→(∀ l∈a,l∈fz)→All ps→zh h γ G w xs cs→zt G' w ys cs
 | [],ys,a,ps,cs,hs,ha,hp,hr=>by
  simp only [qmB,Option.some.injEq,Prod.mk.injEq] at hs
  obtain ⟨rfl,_⟩:=hs
  exact hr
 | x::xs,ys,a,ps,cs,hs,ha,hp,hr=>by
  simp only [qmB] at hs
  split at hs
  ·rename_i y a1 ps1 ys' b qs h1 h2
   simp only [Option.some.injEq,Prod.mk.injEq] at hs
   obtain ⟨rfl,rfl,rfl⟩:=hs
   simp only [zh] at hr
   obtain ⟨c,d,rfl,g1,g2⟩:=hr
   have:=Vp hp
   exact ⟨c,d,rfl,qqM F _ _ _ _ _ h1 (fun l hl=>ha l (by simp [hl])) this.1 g1,qxG F _ _ _ _ _ h2 (fun l hl=>ha l (by simp [hl])) this.2 g2⟩
  ·simp at hs
end
theorem qJv {e:TypeId}:qG G w (Qy P e) [.slice none 0 0]:=by
 unfold Qy
 split
 ·simp only [qG]; exact ⟨none,0,rfl,by simp,.inl trivial⟩
 ·simp only [qG]; exact ⟨none,0,rfl,by simp,by simp,.inl trivial⟩
theorem qvo (F : Ka h G w γ fz h2 G') (d : Nat) :
    (∀ (t:TypeId) (x y:AV) (a:List Nat) (ps:List Prop) (cs:List Value),qbt P h d t x=some (y,a,ps)→(∀ l∈a,l∈fz)→All ps→qm h γ G w x cs→qm h2 γ G' w y cs∧y.isAgg=x.isAgg)∧
    (∀ (ts:List TypeId) (xs ys:List AV) (a:List Nat) (ps:List Prop) (cs:List Value),jZ P h d ts xs=some (ys,a,ps)→(∀ l∈a,l∈fz)→All ps→zh h γ G w xs cs→zh h2 γ G' w ys cs)∧
    (∀ (ts:List TypeId) (xs ys:List AV) (a:List Nat) (ps:List Prop) (vs:List Value),jZ P h d ts xs=some (ys,a,ps)→(∀ l∈a,l∈fz)→All ps→zB h γ G w xs vs→zB h2 γ G' w ys vs):=by
 induction d with
 | zero=>exact ⟨fun _ _ _ _ _ _ hs=>by simp [qbt] at hs,fun _ _ _ _ _ _ hs=>by simp [jZ] at hs,fun _ _ _ _ _ _ hs=>by simp [jZ] at hs⟩
 | succ d ih=>
  refine ⟨?_,?_,?_⟩
  ·intro t x y a ps cs hs ha hp hr
   unfold qbt at hs
   split at hs
   ·split at hs
    ·simp only [Option.some.injEq,Prod.mk.injEq] at hs
     obtain ⟨rfl,_⟩:=hs
     simp only [qm] at hr
     subst hr
     refine ⟨by simp only [qm]; exact qJv,?_⟩
     unfold Qy; split<;>rfl
    ·simp at hs
   ·rename_i l n
    split at hs
    ·rename_i y' a' ps' hq
     simp only [Option.some.injEq,Prod.mk.injEq] at hs
     obtain ⟨rfl,rfl,rfl⟩:=hs
     have:=qqM F _ _ _ _ _ hq ha hp hr
     refine ⟨by simpa only [qm] using this,?_⟩
     simp only [snap] at hq
     split at hq
     ·rename_i f sz x hg
      simp only [Option.some.injEq,Prod.mk.injEq] at hq
      obtain ⟨rfl,rfl,_⟩:=hq
      have:=qEp F.ok (F.vec l f sz x (ha l (by simp)) hg)
      cases x<;>first | rfl | (simp [PV.JY] at this)
     ·simp at hq
    ·simp at hs
   ·rename_i xs
    split at hs
    ·rename_i fs hk
     split at hs
     ·rename_i ys a' ps' hq
      simp only [Option.some.injEq,Prod.mk.injEq] at hs
      obtain ⟨rfl,rfl,rfl⟩:=hs
      simp only [qm] at hr
      exact ⟨qDB.2 (ih.2.1 _ _ _ _ _ _ hq ha hp hr),qTy _⟩
     ·simp at hs
    ·simp only [Option.some.injEq,Prod.mk.injEq] at hs
     obtain ⟨rfl,_⟩:=hs
     exact ⟨qm.step F.tr _ _ hr,rfl⟩
   ·simp only [Option.some.injEq,Prod.mk.injEq] at hs
    obtain ⟨rfl,_⟩:=hs
    exact ⟨qm.step F.tr _ _ hr,rfl⟩
  ·intro ts xs ys a ps cs hs ha hp hr
   cases ts with
   | nil=>
    cases xs with
    | nil=>simp only [jZ,Option.some.injEq,Prod.mk.injEq] at hs; obtain ⟨rfl,_⟩:=hs; exact hr
    | cons=>simp [jZ] at hs
   | cons t ts=>
    cases xs with
    | nil=>simp [jZ] at hs
    | cons x xs=>
     simp only [jZ] at hs
     split at hs
     ·rename_i y a1 ps1 ys' b qs h1 h3
      simp only [Option.some.injEq,Prod.mk.injEq] at hs
      obtain ⟨rfl,rfl,rfl⟩:=hs
      simp only [zh] at hr ⊢
      obtain ⟨c,e,rfl,g1,g2⟩:=hr
      have:=Vp hp
      exact ⟨c,e,rfl,(ih.1 _ _ _ _ _ _ h1 (fun l hl=>ha l (by simp [hl])) this.1 g1).1,ih.2.1 _ _ _ _ _ _ h3 (fun l hl=>ha l (by simp [hl])) this.2 g2⟩
     ·simp at hs
  ·intro ts xs ys a ps vs hs ha hp hr
   cases ts with
   | nil=>
    cases xs with
    | nil=>simp only [jZ,Option.some.injEq,Prod.mk.injEq] at hs; obtain ⟨rfl,_⟩:=hs; exact hr
    | cons=>simp [jZ] at hs
   | cons t ts=>
    cases xs with
    | nil=>simp [jZ] at hs
    | cons x xs=>
     simp only [jZ] at hs
     split at hs
     ·rename_i y a1 ps1 ys' b qs h1 h3
      simp only [Option.some.injEq,Prod.mk.injEq] at hs
      obtain ⟨rfl,rfl,rfl⟩:=hs
      simp only [zB] at hr ⊢
      obtain ⟨c,v,r,rfl,g1,g2,g3⟩:=hr
      have:=Vp hp
      obtain ⟨q1,q2⟩:=ih.1 _ _ _ _ _ _ h1 (fun l hl=>ha l (by simp [hl])) this.1 g1
      exact ⟨c,v,r,rfl,q1,by rw [q2]; exact g2,ih.2.2 _ _ _ _ _ _ h3 (fun l hl=>ha l (by simp [hl])) this.2 g3⟩
     ·simp at hs
theorem qp1 (h:Ob) (d:Nat):(∀ (t:TypeId) (x y:AV) (a:List Nat) (ps:List Prop),qbt P h d t x=some (y,a,ps)→qdD h a)∧(∀ (ts:List TypeId) (xs ys:List AV) (a:List Nat) (ps:List Prop),jZ P h d ts xs=some (ys,a,ps)→qdD h a):=by
 induction d with
 | zero=>exact ⟨fun _ _ _ _ _ hs=>by simp [qbt] at hs,fun _ _ _ _ _ hs=>by simp [jZ] at hs⟩
 | succ d ih=>
  have no:qdD h []:=fun l hl=>by simp at hl
  constructor
  ·intro t x y a ps hs
   unfold qbt at hs
   split at hs
   ·split at hs
    ·simp only [Option.some.injEq,Prod.mk.injEq] at hs; obtain ⟨_,rfl,_⟩:=hs; exact no
    ·simp at hs
   ·split at hs
    ·rename_i hq
     simp only [Option.some.injEq,Prod.mk.injEq] at hs; obtain ⟨_,rfl,_⟩:=hs
     exact qmC h _ _ _ _ hq
    ·simp at hs
   ·split at hs
    ·split at hs
     ·rename_i hq
      simp only [Option.some.injEq,Prod.mk.injEq] at hs; obtain ⟨_,rfl,_⟩:=hs
      exact ih.2 _ _ _ _ _ hq
     ·simp at hs
    ·simp only [Option.some.injEq,Prod.mk.injEq] at hs; obtain ⟨_,rfl,_⟩:=hs; exact no
   ·simp only [Option.some.injEq,Prod.mk.injEq] at hs; obtain ⟨_,rfl,_⟩:=hs; exact no
  ·intro ts xs ys a ps hs
   cases ts with
   | nil=>
    cases xs with
    | nil=>simp only [jZ,Option.some.injEq,Prod.mk.injEq] at hs; obtain ⟨_,rfl,_⟩:=hs; exact no
    | cons=>simp [jZ] at hs
   | cons t ts=>
    cases xs with
    | nil=>simp [jZ] at hs
    | cons x xs=>
     simp only [jZ] at hs
     split at hs
     ·rename_i h1 h3
      simp only [Option.some.injEq,Prod.mk.injEq] at hs; obtain ⟨_,rfl,_⟩:=hs
      intro l hl
      rcases List.mem_append.1 hl with hl | hl
      ·exact ih.1 _ _ _ _ _ h1 l hl
      ·exact ih.2 _ _ _ _ _ h3 l hl
     ·simp at hs
theorem qmA (H:qL h γ G w) (hv:qdD h fz):∃ G',Ka h G w γ fz (freeze fz h) G'∧∀ l o,get (freeze fz h) l=some o→∃ o',get h l=some o'∧o.names=o'.names:=by
 obtain ⟨G',h1,h2,h3,h4⟩:=qER fz h G H hv
 refine ⟨G',⟨h1,h2,fun l f sz x hl hg=>?_⟩,h4⟩
 obtain ⟨f',h5,h6⟩:=h3 l f sz x hg
 rw [h6 hl] at h5; exact h5
end g
end Go.Rx
end
noncomputable section
namespace Go.Rx
section g
variable {P:Program} {ob:Ob} {γ:Hm} {G:Gh} {w:World}
def X2 (P:Program) (f:Value) (args:Array Value) (w:World) (R:Value→World→Prop):Prop:=
 match (do let d ← Deferred.ofValue f args; invoke d.target d.args:Sem Next).run P w with
 | .ok (.value v) w'=>R v w'
 | .ok (.enter k as0) w'=>Calls P k as0 w' fun e w''=>∃ v,e=.returned v∧R v w''
 | .ok (.round l fn tmps as0 bd) w'=>RoundIn Fence.wide 0 P l fn tmps as0 bd w' fun e w''=>∃ v,e=.returned v∧R v w''
 | _=>False
theorem X2.mono {f:Value} {args:Array Value} {R R':Value→World→Prop} (h:X2 P f args w R) (hr:∀ v w',R v w'→R' v w'):X2 P f args w R':=by
 unfold X2 at *
 generalize (do let d ← Deferred.ofValue f args; invoke d.target d.args:Sem Next).run P w=r at *
 cases r with
 | ok n w'=>
  cases n<;>simp only at h ⊢<;>first
   | exact hr _ _ h
   | exact h.mono fun e w'' ⟨v,he,hv⟩=>⟨v,he,hr _ _ hv⟩
 | halt=>simp at h
def Valid (P:Program):Vn:=fun _ f args h o h'=>∀ (γ:Hm) (G:Gh) (w:World) (vf:Value) (vas:List Value),qL h γ G w→qM h γ G w f vf→zB h γ G w args vas→
 ∃ r,o=.ret r∧X2 P vf vas.toArray w fun v w'=>∃ γ' G',qL h' γ' G' w'∧Trans h γ G w h' γ' G' w'∧qM h' γ' G' w' r v
theorem Ka.nil (H:qL ob γ G w):Ka ob G w γ [] ob G:=⟨H,Trans.refl H,fun _ _ _ _ h=>by simp at h⟩
theorem Jj {ns:List Nat} {h:Ob} (hc:jI ns h=true):(∀ n∈ns,∃ o,get h n=some o)∧∀ l o,get h l=some o→∀ n∈o.names,∃ x,get h n=some x:=by
 simp only [jI,qgD,Bool.and_eq_true,List.all_eq_true] at hc
 refine ⟨fun n hn=>(Wy h n).1 (hc.1 n hn),fun l o hl n hn=>?_⟩
 have hmem:∀ {h:Ob} {l:Nat} {o:jc},get h l=some o→(l,o)∈h:=by
  intro h l o
  induction h with
  | nil=>intro hg; simp [get_nil,zK] at hg
  | cons e r ih=>
   obtain ⟨a,y⟩:=e
   intro hg
   simp only [get_nil,zK] at hg
   split at hg
   ·rename_i e; subst e; cases hg; simp
   ·exact List.mem_cons_of_mem _ (ih hg)
 exact (Wy h n).1 (hc.2 _ (hmem hl) n hn)
theorem Vh {T:List Nat} {h:Ob} {l:Nat} {o:jc} (hl:get (qD T h) l=some o):has T l=true∧get h l=some o:=by
 rw [vG] at hl
 cases ht:has T l<;>simp [ht] at hl
 exact ⟨rfl,hl⟩
theorem qO5 {xs:List AV} {n:Nat}:n∈AV.q9 xs↔∃ x∈xs,n∈x.names:=by
 induction xs with
 | nil=>simp [AV.q9]
 | cons x xs ih=>simp [AV.q9,ih]
theorem qqr {ob':Ob} {xs:List AV} {vs:List Value} (hs:∀ l o,get ob' l=some o→get ob l=some o) (hc:∀ n∈AV.q9 xs,∃ o,get ob' n=some o) (h:zB ob γ G w xs vs):zB ob' γ G w xs vs:=
 qfK xs vs (fun n hn=>by obtain ⟨o,ho⟩:=hc n hn; exact ⟨by rw [ho,hs n o ho],rfl⟩) h
theorem qvR (h:Ob):∀ (xs ys:List AV) (fz:List Nat) (ps:List Prop),Qk.tupL h xs=some (ys,fz,ps)→qdD h fz
 | [],ys,fz,ps,hs=>by
  simp only [Qk.tupL,Option.some.injEq,Prod.mk.injEq] at hs
  obtain ⟨_,rfl,_⟩:=hs
  intro l hl; simp at hl
 | x::xs,ys,fz,ps,hs=>by
  unfold Qk.tupL at hs
  split at hs
  ·rename_i heq; cases heq
  ·rename_i l n xs' heq
   cases heq
   split at hs
   ·rename_i y a ps1 ys' b qs h1 h2
    simp only [Option.some.injEq,Prod.mk.injEq] at hs
    obtain ⟨_,rfl,_⟩:=hs
    intro l' hl'
    rcases List.mem_append.1 hl' with hl' | hl'
    ·exact qmC h _ _ _ _ h1 l' hl'
    ·exact qvR h _ _ _ _ h2 l' hl'
   ·simp at hs
  ·rename_i x' xs' _ heq
   cases heq
   split at hs
   ·rename_i ys' b qs h2
    simp only [Option.some.injEq,Prod.mk.injEq] at hs
    obtain ⟨_,rfl,_⟩:=hs
    exact qvR h _ _ _ _ h2
   ·simp at hs
theorem qPX (h:Ob) {x y:AV} {fz:List Nat} {ps:List Prop} (hs:Qk.tupS h x=some (y,fz,ps)):qdD h fz:=by
 unfold Qk.tupS at hs
 split at hs
 ·split at hs
  ·rename_i h1
   simp only [Option.some.injEq,Prod.mk.injEq] at hs
   obtain ⟨_,rfl,_⟩:=hs
   exact qmC h _ _ _ _ h1
  ·simp at hs
 ·split at hs
  ·rename_i h1
   simp only [Option.some.injEq,Prod.mk.injEq] at hs
   obtain ⟨_,rfl,_⟩:=hs
   exact qvR h _ _ _ _ h1
  ·simp at hs
 ·simp only [Option.some.injEq,Prod.mk.injEq] at hs
  obtain ⟨_,rfl,_⟩:=hs
  intro l hl; simp at hl
theorem qQX {h h2 : Ob} {G' : Gh} {fz : List Nat} (F : Ka h G w γ fz h2 G') {l n : Nat} {y : PV} {a : List Nat} {ps : List Prop} {cs : List Value} (hs : snap h (.v l n) = some (y, a, ps)) (ha : ∀ l ∈ a, l ∈ fz) (hp : All ps) (hr : qm h γ G w (.v l n) cs) :
    qm h2 γ G' w (.pv y) cs∧AV.isAgg (.pv y)=false:=by
 refine ⟨by simp only [qm]; exact qqM F _ _ _ _ _ hs ha hp hr,?_⟩
 simp only [snap] at hs
 split at hs
 ·rename_i f sz x hg
  simp only [Option.some.injEq,Prod.mk.injEq] at hs
  obtain ⟨rfl,rfl,_⟩:=hs
  have:=qEp F.ok (F.vec l f sz x (ha l (by simp)) hg)
  cases x<;>first | rfl | (simp [PV.JY] at this)
 ·simp at hs
theorem qqb {h h2:Ob} {G':Gh} {fz:List Nat} (F:Ka h G w γ fz h2 G'):∀ (xs ys:List AV) (a:List Nat) (ps:List Prop) (vs:List Value),Qk.tupL h xs=some (ys,a,ps)→(∀ l∈a,l∈fz)→All ps→zB h γ G w xs vs→zB h2 γ G' w ys vs
 | [],ys,a,ps,vs,hs,_,_,hr=>by
  simp only [Qk.tupL,Option.some.injEq,Prod.mk.injEq] at hs
  obtain ⟨rfl,_⟩:=hs
  exact hr
 | x::xs,ys,a,ps,vs,hs,ha,hp,hr=>by
  unfold Qk.tupL at hs
  simp only [zB] at hr
  obtain ⟨c,v,r,rfl,g1,g2,g3⟩:=hr
  split at hs
  ·rename_i heq; cases heq
  ·rename_i l n xs' heq
   cases heq
   split at hs
   ·rename_i y a1 ps1 ys' b qs h1 h3
    simp only [Option.some.injEq,Prod.mk.injEq] at hs
    obtain ⟨rfl,rfl,rfl⟩:=hs
    have:=Vp hp
    obtain ⟨q1,q2⟩:=qQX F h1 (fun l hl=>ha l (by simp [hl])) this.1 g1
    simp only [zB]
    exact ⟨c,v,r,rfl,q1,by rw [q2]; exact g2,qqb F _ _ _ _ _ h3 (fun l hl=>ha l (by simp [hl])) this.2 g3⟩
   ·simp at hs
  ·rename_i x' xs' _ heq
   cases heq
   split at hs
   ·rename_i ys' b qs h3
    simp only [Option.some.injEq,Prod.mk.injEq] at hs
    obtain ⟨rfl,rfl,rfl⟩:=hs
    simp only [zB]
    exact ⟨c,v,r,rfl,qm.step F.tr _ _ g1,g2,qqb F _ _ _ _ _ h3 ha hp g3⟩
   ·simp at hs
theorem qO6 {h h2:Ob} {G':Gh} {fz:List Nat} (F:Ka h G w γ fz h2 G') {x y:AV} {ps:List Prop} {v:Value} (hs:Qk.tupS h x=some (y,fz,ps)) (hp:All ps) (hr:qM h γ G w x v):qM h2 γ G' w y v:=by
 unfold Qk.tupS at hs
 split at hs
 ·rename_i l n
  split at hs
  ·rename_i y' a1 ps1 h1
   simp only [Option.some.injEq,Prod.mk.injEq] at hs
   obtain ⟨rfl,rfl,rfl⟩:=hs
   obtain ⟨cs,g1,g2⟩:∃ cs,qm h γ G w (.v l n) cs∧zp (AV.isAgg (.v l n)) cs v:=hr
   obtain ⟨q1,q2⟩:=qQX F h1 (fun _ h=>h) hp g1
   exact qeY q1 (by rw [q2]; exact g2)
  ·simp at hs
 ·rename_i xs
  split at hs
  ·rename_i ys b qs h1
   simp only [Option.some.injEq,Prod.mk.injEq] at hs
   obtain ⟨rfl,rfl,rfl⟩:=hs
   obtain ⟨vs,e,g⟩:=hr
   exact ⟨vs,e,qqb F _ _ _ _ _ h1 (fun _ h=>h) hp g⟩
  ·simp at hs
 ·simp only [Option.some.injEq,Prod.mk.injEq] at hs
  obtain ⟨rfl,rfl,_⟩:=hs
  exact qM.step F.tr _ _ hr
theorem qIi (H : qL ob γ G w) {hn : Hint} {K lvl : Nat} {d : Option Tmp} {an : Option Ans} {f : AV} {ts : List TypeId} {args : List AV} {T : List Nat} {out : Out} {ho : Ob} {ps : List Prop} {vf : Value} {vas : List Value}
    (hs:Qk P hn (Valid P) K lvl d an f ts args (qD T ob)=some ((out,ho),ps)) (hp:All ps) (hf:qM ob γ G w f vf) (ha:args.all AV.Ja=true→zB ob γ G w args vas)
    (hc:∀ n x,get ho n=some x→has T n=true∨get ob n=none) :
    ∃ r,out=.ret r∧X2 P vf vas.toArray w fun v w'=>∃ γ' G',qL (merge T ho ob) γ' G' w'∧Trans ob γ G w (merge T ho ob) γ' G' w'∧qM (merge T ho ob) γ' G' w' r v:=by
 unfold Qk at hs
 split at hs
 ·rename_i r h'
  obtain ⟨hcl,hs⟩:=qO hs
  simp only [Bool.and_eq_true] at hcl
  obtain ⟨hcn,hco⟩:=Jj hcl.1.1
  have HR:qL (qD T ob) γ G w:=H.sub (fun l o hl=>(Vh hl).2) hco
  have hfR:qM (qD T ob) γ G w f vf:=qhe (fun l o hl=>(Vh hl).2) (fun n hn=>hcn n (by simp [hn])) hf
  have haR:zB (qD T ob) γ G w args vas:=qqr (fun l o hl=>(Vh hl).2) (fun n hn=>hcn n (by simp [hn])) (ha hcl.2)
  have key : ∀ {args' : List AV} {fz : List Nat} {ps1 : List Prop}, (match (match f with | .fn (.func k) _ _ => hn.raw k | _ => false) with
      | true=>some (args,[],[])
      | false=>jZ P (qD T ob) 30 ts args)=some (args',fz,ps1)→All ps1→∃ G2,Ka (qD T ob) G w γ fz (freeze fz (qD T ob)) G2∧zB (freeze fz (qD T ob)) γ G2 w args' vas:=fun {args' fz ps1} he hp1=>by
   split at he
   ·simp only [Option.some.injEq,Prod.mk.injEq] at he
    obtain ⟨rfl,rfl,_⟩:=he
    exact ⟨G,Ka.nil HR,haR⟩
   ·obtain ⟨G2,F,_⟩:=qmA HR ((qp1 (P:=P) _ 30).2 _ _ _ _ _ he)
    exact ⟨G2,F,(qvo F 30).2.2 _ _ _ _ _ _ he (fun _ h=>h) hp1 haR⟩
  split at hs
  ·simp at hs
  ·rename_i args' fz ps1 he
   split at hs
   ·simp only [Option.some.injEq,Prod.mk.injEq] at hs
    obtain ⟨⟨rfl,rfl⟩,rfl⟩:=hs
    have hpp:=Vp hp
    obtain ⟨G2,F,haF⟩:=key he hpp.1
    have hv:Valid P lvl f args' (freeze fz (qD T ob)) (.ret r) h':=hpp.2
    obtain ⟨r',e,hcall⟩:=hv γ G2 w vf vas F.ok (qM.step F.tr _ _ hfR) haF
    cases e
    refine ⟨r,rfl,hcall.mono fun v w' ⟨γ',G',g1,g2,g3⟩=>?_⟩
    have:=qln H g1 (F.tr.trans HR g2) hc
    exact ⟨_,G',this.1,this.2,qub g3⟩
   ·split at hs
    ·rename_i r' fz' qs hq
     obtain ⟨hcl2,hs⟩:=qO hs
     simp only [Option.some.injEq,Prod.mk.injEq] at hs
     obtain ⟨⟨rfl,rfl⟩,rfl⟩:=hs
     have hpp:=Vp hp
     have hpp1:=Vp hpp.1
     obtain ⟨G2,F,haF⟩:=key he hpp1.1
     have hv:Valid P lvl f args' (freeze fz (qD T ob)) (.ret r) h':=hpp1.2
     obtain ⟨r2,e,hcall⟩:=hv γ G2 w vf vas F.ok (qM.step F.tr _ _ hfR) haF
     cases e
     refine ⟨r',rfl,hcall.mono fun v w' ⟨γ',G',g1,g2,g3⟩=>?_⟩
     obtain ⟨G3,F3,_⟩:=qmA g1 (qPX h' hq)
     have g4:=qO6 F3 hq hpp.2 g3
     obtain ⟨hcn2,hco2⟩:=Jj hcl2
     have hsub:∀ l o,get (qD (dom (qD T ob)) (freeze fz' h')) l=some o→get (freeze fz' h') l=some o:=fun l o hl=>(Vh hl).2
     have HK:=F3.ok.sub hsub hco2
     have T1:=(F.tr.trans HR g2).trans HR F3.tr
     have T2:=T1.drop hsub (fun l o hl=>by
      obtain ⟨o',h1,_⟩:=T1.kept l o hl
      exact ⟨o',by rw [vG,if_pos ((Wy _ l).2 ⟨o,hl⟩)]; exact h1⟩)
     have:=qln H HK T2 hc
     exact ⟨_,G3,this.1,this.2,qub (qhe hsub hcn2 g4)⟩
    ·simp at hs
 ·simp at hs
end g
end Go.Rx
end
noncomputable section
namespace Go.Rx
section g
variable {P:Program} {ob ob':Ob} {γ γ':Hm} {G G':Gh} {w w':World}
def qel (ob ob':Ob):Prop:=∀ j,get ob' j=get ob j
theorem qel.heap (h:qel ob ob') (H:qL ob γ G w):qL ob' γ G w:=
 H.sub (fun l o hl=>by rw [← h l]; exact hl) (fun l o hl n hn=>by
  rw [h l] at hl
  obtain ⟨x,hx⟩:=H.closed l o hl n hn
  exact ⟨x,by rw [h n]; exact hx⟩)
theorem qel.val (h:qel ob ob') {x:AV} {v:Value} (hr:qM ob γ G w x v):qM ob' γ G w x v:=
 KO (fun n _=>⟨h n,rfl⟩) hr
theorem qel.trans {h₀:Ob} {γ₀:Hm} {G₀:Gh} {w₀:World} (h:qel ob ob') (T:Trans h₀ γ₀ G₀ w₀ ob γ G w):Trans h₀ γ₀ G₀ w₀ ob' γ G w:=
 T.drop (fun l o hl=>by rw [← h l]; exact hl) (fun l o hl=>by
  obtain ⟨o',h1,_⟩:=T.kept l o hl
  exact ⟨o',by rw [h l]; exact h1⟩)
theorem qTa {T:List Nat} {l:Nat} {o:jc} (hl:has T l=true∨get ob l=none):qel (ins l o ob) (merge T (ins l o (qD T ob)) ob):=fun j=>by
 rw [get_merge,qT,qT,vG]
 by_cases e:l=j
 ·simp [e]
 ·simp only [e,if_false]
  cases ht:has T j
  ·simp
  ·cases get ob j<;>simp
theorem qOz {T:List Nat}:qel ob (merge T (qD T ob) ob):=fun j=>by
 rw [get_merge,vG]
 cases ht:has T j
 ·simp
 ·cases get ob j<;>simp
def jz (P:Program) (s:Sem Next) (w:World) (R:Value→World→Prop):Prop:=
 match s.run P w with
 | .ok (.value v) w'=>R v w'
 | .ok .skip w'=>R undef w'
 | .ok (.enter k as0) w'=>Calls P k as0 w' fun e w''=>∃ v,e=.returned v∧R v w''
 | .ok (.round l fn tmps as0 bd) w'=>RoundIn Fence.wide 0 P l fn tmps as0 bd w' fun e w''=>∃ v,e=.returned v∧R v w''
 | _=>False
def FW (ro:Option Nat):Fence:={ Fence.wide with round:=ro }
theorem jz.wp {ro:Option Nat} {nn:Nat} {o:Oper} {a:Act} {R:Value→World→Prop} {next:Act→World→Prop} {Q:Exit→Act→World→Prop} (h:jz P (execOp a.eval o) w R) (hn:∀ v w',R v w'→next (a.put o.dst v) w'):o.wpIn (FW ro) nn P a w next Q:=by
 refine ⟨fun _ _=>trivial,?_⟩
 have hnd:∀ c,o.op≠.defer c:=by
  intro c hc
  unfold jz at h
  simp only [execOp,hc,Sem.run_bind] at h
  cases hr:(resolve a.eval c o.type).run P w with
  | ok d w1=>simp [hr] at h
  | halt x w1=>simp [hr] at h
 rw [Oper.semAt_eq _ _ _ hnd]
 unfold jz at h
 generalize (execOp a.eval o).run P w=r at *
 cases r with
 | ok n w1=>
  cases n<;>simp only at h
  ·exact hn _ _ h
  ·exact hn _ _ h
  ·refine ⟨fun hd=>by simp [FW,Fence.wide] at hd,trivial,?_⟩
   have:=(callsIn_wide (n:=nn - 1)).2 (h.mono (R':=fun
    | .returned v,w''=>next (a.put o.dst v) w''
    | .panicked chain,w''=>Q (.panic chain) a w''
    | .outgrown,_=>LetsOut Q) fun e w2 ⟨v,he,hv⟩=>by subst he; exact hn _ _ hv)
   exact this.2
  ·refine ⟨fun hd=>by simp [FW,Fence.wide] at hd,trivial,?_⟩
   have:=h.mono (R':=fun
    | .returned v,w''=>next (a.put o.dst v) w''
    | .panicked chain,w''=>Q (.panic chain) a w''
    | .outgrown,_=>LetsOut Q) fun e w2 ⟨v,he,hv⟩=>by subst he; exact hn _ _ hv
   exact fun c cs _=>this.2 c cs (room_wide _)
 | halt x w1=>simp at h
def qbA (ob:Ob) (γ:Hm) (G:Gh) (w:World) (ob':Ob) (r:AV) (v:Value) (w':World):Prop:=
 ∃ γ' G',qL ob' γ' G' w'∧Trans ob γ G w ob' γ' G' w'∧qM ob' γ' G' w' r v
theorem qbA.same {ob'':Ob} {r:AV} {v:Value} (h:qel ob' ob'') (hb:qbA ob γ G w ob' r v w'):qbA ob γ G w ob'' r v w':=by
 obtain ⟨γ',G',h1,h2,h3⟩:=hb
 exact ⟨γ',G',h.heap h1,h.trans h2,h.val h3⟩
theorem jz.mono {s:Sem Next} {R R':Value→World→Prop} (h:jz P s w R) (hr:∀ v w',R v w'→R' v w'):jz P s w R':=by
 unfold jz at *
 generalize s.run P w=r at *
 cases r with
 | ok n w1=>
  cases n<;>simp only at h ⊢<;>first
   | exact hr _ _ h
   | exact h.mono fun e w'' ⟨v,he,hv⟩=>⟨v,he,hr _ _ hv⟩
 | halt=>simp at h
theorem jz.ofN {s:Sem Next} {r:AV} (h:qcQ P ob γ G w s r):jz P s w (qbA ob γ G w ob r):=by
 obtain ⟨v,G',w',h1,h2,h3,h4⟩:=h
 unfold jz; rw [h1]; exact ⟨γ,G',h2,h3,h4⟩
theorem jz.ofM {s:Sem Next} {r:AV} (h:WE P ob γ G w s r ob'):jz P s w (qbA ob γ G w ob' r):=by
 obtain ⟨v,γ',G',w',h1 | ⟨h1,rfl⟩,h2,h3,h4⟩:=h
 ·unfold jz; rw [h1]; exact ⟨γ',G',h2,h3,h4⟩
 ·unfold jz; rw [h1]; exact ⟨γ',G',h2,h3,h4⟩
theorem jz.ofC {ρ:Operand→Value} {o:Oper} {f:Operand} {args:Array Operand} {ts:Array TypeId} {R:Value→World→Prop} (ho:o.op=.call { callee:=.value f,args:=args,argTypes:=ts }) (h:X2 P (ρ f) (args.map ρ) w R):jz P (execOp ρ o) w R:=by
 unfold X2 at h
 unfold jz
 have:execOp ρ o=(do let d ← Deferred.ofValue (ρ f) (args.map ρ); invoke d.target d.args:Sem Next):=by simp only [execOp,ho,resolve]
 rw [this]
 generalize (do let d ← Deferred.ofValue (ρ f) (args.map ρ); invoke d.target d.args:Sem Next).run P w=r at *
 cases r with
 | ok n w1=>cases n<;>simp only at h ⊢<;>exact h
 | halt=>simp at h
theorem qIn (H : qL ob γ G w) {an : Option Ans} {val : Operand → AV} {ρ : Operand → Value} (S : jt ob γ G w val ρ) {h : Ob} (hh : ∀ l o, get h l = some o → get ob l = some o) {o : Oper} {r : AV} {ps : List Prop}
    (hs:jO P an val h o.op=some (r,ps)) (hp:All ps):qcQ P ob γ G w (execOp ρ o) r:=by
 cases ho:o.op<;>rw [ho] at hs
 case load t a=>
  obtain ⟨v,h1,h2⟩:=qKo H S hh hs hp
  simp only [execOp,ho]
  exact .of0 (.same H h1 h2)
 case lookup t m k ok=>
  obtain ⟨v,h1,h2⟩:=qDY H S hh hs hp
  simp only [execOp,ho]
  exact .of0 (.same H h1 h2)
 case call c=>
  simp only [jO] at hs
  simp only [execOp,ho]
  split at hs
  ·rename_i hc
   split at hs
   ·rename_i kt e l ht ha
    split at hs
    ·rename_i cl es hg
     rw [qq hs]
     have h0:=H.obj _ _ (hh _ _ hg)
     simp only [zq] at h0
     obtain ⟨ents,hb,hents,_⟩:=h0
     obtain ⟨t,htt,hk⟩:∃ t,c.argTypes=#[t]∧qy P t=some (.map kt e):=by
      cases hl:c.argTypes.toList with
      | nil=>simp [hl] at ht
      | cons t r=>
       cases r with
       | nil=>simp [hl] at ht; exact ⟨t,Array.ext' hl,ht⟩
       | cons=>simp [hl] at ht
     obtain ⟨a,haa,hv⟩:∃ a,c.args=#[a]∧val a=.m l:=by
      cases hl:c.args.toList with
      | nil=>simp [hl] at ha
      | cons t r=>
       cases r with
       | nil=>simp [hl] at ha; exact ⟨t,Array.ext' hl,ha⟩
       | cons=>simp [hl] at ha
     have hx:=S a
     rw [hv] at hx
     have h3:=zx rfl rfl hx
     simp only [qm] at h3
     obtain ⟨h3,_⟩:=h3
     simp only [List.cons.injEq,and_true] at h3
     refine .same H (v:=.int .i64 es.length) ?_ (jr.2 rfl)
     have hl:es.length=ents.size:=by rw [q_.len hents]; simp
     simp [resolve,hc,invoke,builtin,htt,haa,h3,Builtin.len_,run_underlying (V9 hk),XE hb,goInt,hl]
    ·simp at hs
   ·simp at hs
  ·simp at hs
 all_goals (simp [jO] at hs)
end g
end Go.Rx
end
noncomputable section
namespace Go.Rx
section g
variable {P:Program} {ob:Ob} {γ:Hm} {G:Gh} {w:World}
theorem qPT {ob:Ob} {γ:Hm}:∀ (xs:List PV) (vs:List Value),zB ob γ G w (xs.map AV.pv) vs→∃ css,j_ G w xs vs css
 | [],vs,h=>by simp only [List.map_nil,zB] at h; subst h; exact ⟨[],trivial⟩
 | x::xs,vs,h=>by
  simp only [List.map_cons,zB] at h
  obtain ⟨c,v,r,rfl,h1,h2,h3⟩:=h
  obtain ⟨css,hc⟩:=qPT xs r h3
  have h1':qG G w x c:=by simpa only [qm] using h1
  exact ⟨c::css,h1',KG (ob:=ob) (γ:=γ) (x:=.pv x) h1 h2,hc⟩
theorem qJw:∀ {xs:List PV} {vs:List Value} {css:List (List Value)},j_ G w xs vs css→xs.length=vs.length
 | [],[],[],_=>rfl
 | [],[],_::_,h=>by simp [j_] at h
 | [],_::_,_,h=>by simp [j_] at h
 | _::_,[],_,h=>by simp [j_] at h
 | _::_,_::_,[],h=>by simp [j_] at h
 | x::xs,v::vs,c::css,h=>by
  simp only [j_] at h
  simp [qJw h.2.2]
theorem qAd (H : qL ob γ G w) {h : Ob} {t e : TypeId} {n : Nat} {parts : Array (Nat × Operand)} {val : Operand → AV} {ρ : Operand → Value} (S : jt ob γ G w val ρ) {T : List Nat} (hT : h = qD T ob) (hk : qy P t = some (.slice e)) (hd : qc7 0 parts.toList = true) (hn : n = parts.size)
    (hm:n * qE P e≤16777216) (hz:ZQ P e=true) {an:Option Ans} {x:PV} {h1:Ob} {ps:List Prop} (hs:qpb P an h e (parts.toList.map fun q=>val q.2)=some ((x,h1),ps)) (hp:All ps)
    (hc:∀ n x,get h1 n=some x→has T n=true∨get ob n=none):WE P ob γ G w (do pure (Next.value (← Instr.buildSlice t n (parts.map fun q=>(q.1,ρ q.2))))) (.pv x) (merge T h1 ob):=by
 subst hT
 unfold qpb at hs
 split at hs
 case h_2=>simp at hs
 rename_i hcl
 simp only [Bool.and_eq_true] at hcl
 split at hs
 case h_2=>simp at hs
 rename_i rs fz ps1 he
 split at hs
 case h_2=>simp at hs
 rename_i xs hx
 split at hs
 case h_2=>simp at hs
 rename_i x' ps2 hsq
 simp only [Option.some.injEq,Prod.mk.injEq] at hs
 obtain ⟨⟨rfl,rfl⟩,rfl⟩:=hs
 have hpp:=Vp hp
 have hsub:∀ l o,get (qD T ob) l=some o→get ob l=some o:=fun l o hl=>(Vh hl).2
 obtain ⟨hcn,hco⟩:=Jj hcl.1
 have HR:=H.sub hsub hco
 obtain ⟨G2,F,_⟩:=qmA HR ((qp1 (P:=P) _ 30).2 _ _ _ _ _ he)
 have hL0:zB ob γ G w (parts.toList.map fun q=>val q.2) (parts.toList.map fun q=>ρ q.2):=by
  have:=qpc S (parts.toList.map (·.2)) (by simpa [List.map_map,Function.comp_def] using hcl.2)
  simpa [List.map_map,Function.comp_def] using this
 have hL:=qqr hsub (fun n hn=>hcn n hn) hL0
 have hL2:=(qvo F 30).2.2 _ _ _ _ _ _ he (fun _ h=>h) hpp.1 hL
 rw [qcW hx] at hL2
 obtain ⟨css,hv⟩:=qPT xs _ hL2
 obtain ⟨h1,h2,h3,h4,h5⟩:=qxV hsq hpp.2 hv
 have hM:=qln H F.ok F.tr hc
 have hxl:xs.length=n:=by
  have hl1:=qJw hv
  simp at hl1; omega
 have hmap:(parts.map fun q=>(q.1,ρ q.2))=(parts.toList.map fun q=>(q.1,ρ q.2)).toArray:=by apply Array.ext'; simp
 have hdn:Yg (qE P e) 0 (parts.toList.map fun q=>(q.1,ρ q.2)) css:=by
  refine qrw (xs:=xs) (by simpa [Function.comp_def] using hv) h4 fun j q hq=>?_
  simp only [List.getElem?_map,Option.map_eq_some_iff] at hq
  obtain ⟨p,hp1,rfl⟩:=hq
  exact qtr _ 0 hd j p hp1
 have hee:∃ d,P.underlying e=some d:=by
  simp only [ZQ,Bool.and_eq_true] at hz
  exact Option.isSome_iff_exists.1 hz.2
 have hrun:(Instr.buildSlice t n (parts.map fun q=>(q.1,ρ q.2))).run P w=.ok (.slice (some ⟨w.heap.size,0,none⟩) x'.len x'.len) { w with heap:=w.heap.push (.cells css.flatten.toArray e) }:=by
  rw [hmap,qgS (zC hk) hee hz hm hdn (by simp [hn]),h2,hxl]
 obtain ⟨G',g1,g2,g3,g4⟩:=qy2 (sp:=[]) hM.1 (w':={ w with heap:=w.heap.push (.cells css.flatten.toArray e) }) (cs:=css.flatten) (el:=e) (fr:=(0,0)) (by simp)
 refine WE.ofW ⟨_,_,G',_,hrun,g1,hM.2.trans H g2,zy (by cases x'<;>first | rfl | (simp [PV.JY] at h3)) ?_⟩
 simp only [qm]
 exact qC7 (zu.mono g2.keeps h1) g3 g4 (Nat.le_refl _)
theorem qGr (H : qL ob γ G w) {lvl : Nat} {d : Option Tmp} {an : Option Ans} {val : Operand → AV} {ρ : Operand → Value} (S : jt ob γ G w val ρ) {h h' : Ob} (hh : ∀ l o, get h l = some o → get ob l = some o) {o : Oper} {out : Out} {ps : List Prop}
    (hs:zd P lvl d an val h o.op=some ((out,h'),ps)) (hp:All ps) (hfresh:∀ l,(∃ x,get h' l=some x)→get h l=none→get ob l=none):qTz P ob γ G w (execOp ρ o) h h' out:=by
 have new:∀ {o':jc} {r:Nat→AV} {ps:List Prop},newObj d lvl h o' r=some ((out,h'),ps)→∃ l,out=.ret (r l)∧h'=ins l o' h∧get ob l=none:=fun hs=>by
  obtain ⟨l,h1,h2,h3⟩:=qLQ hs
  exact ⟨l,h1,h2,hfresh l ⟨_,by rw [h2,qT,if_pos rfl]⟩ h3⟩
 cases ho:o.op<;>rw [ho] at hs
 case alloc t=>
  simp only [zd] at hs
  split at hs
  ·rename_i z hz
   obtain ⟨l,rfl,rfl,hl⟩:=new hs
   simp only [execOp,ho]
   exact ⟨_,rfl,.inr (.inl ⟨l,_,rfl,.ofW (qLC H hz hl)⟩)⟩
  ·simp at hs
 case box t x=>
  simp only [zd] at hs
  obtain ⟨hf,hs⟩:=qO hs
  obtain ⟨l,rfl,rfl,hl⟩:=new hs
  simp only [execOp,ho]
  exact ⟨_,rfl,.inr (.inl ⟨l,_,rfl,.ofW (qQ2 H hf (S x) hl)⟩)⟩
 case buildSlice t n parts=>
  simp only [zd] at hs
  split at hs
  ·rename_i e hk
   obtain ⟨hc,hs⟩:=qO hs
   simp only [Bool.and_eq_true,decide_eq_true_eq,beq_iff_eq] at hc
   obtain ⟨⟨⟨hd,hn⟩,hm⟩,hz⟩:=hc
   simp only [execOp,ho]
   split at hs
   ·rename_i xs hx
    obtain ⟨h0,hs⟩:=qO hs
    obtain ⟨s,p1,p2,e1,e2,hp1,hp2⟩:=qJ hs hp
    obtain ⟨l,rfl,rfl,hl⟩:=new e2
    exact ⟨_,rfl,.inr (.inl ⟨l,_,rfl,.ofW (qRo H S hk hd hn hm hz (qgT h0) hx e1 hp1 hl)⟩)⟩
   ·split at hs
    ·rename_i x h1 ps' hq
     simp only [Option.some.injEq,Prod.mk.injEq] at hs
     obtain ⟨⟨rfl,rfl⟩,rfl⟩:=hs
     exact ⟨_,rfl,.inr (.inr fun T hT hc=>qAd H S hT hk hd hn hm hz hq hp hc)⟩
    obtain ⟨h0,hs⟩:=qO hs
    simp only [Bool.and_eq_true,beq_iff_eq] at h0
    obtain ⟨l,rfl,rfl,hl⟩:=new hs
    exact ⟨_,rfl,.inr (.inl ⟨l,_,rfl,.ofW (qTc H S hk hd hn hm hz h0.1 h0.2 hl)⟩)⟩
  ·simp at hs
 case makeMap t r=>
  cases r with
  | some _=>simp [zd] at hs
  | none=>
   simp only [zd] at hs
   split at hs
   ·obtain ⟨l,rfl,rfl,hl⟩:=new hs
    simp only [execOp,ho]
    exact ⟨_,rfl,.inr (.inl ⟨l,_,rfl,.ofW (qGs H hl)⟩)⟩
   ·simp at hs
 case makeSlice t n c=>
  simp only [zd] at hs
  split at hs
  ·rename_i e n' c' hk hn hc
   split at hs
   ·rename_i k z hz
    obtain ⟨hq,hs⟩:=qO hs
    simp only [Bool.and_eq_true] at hq
    obtain ⟨_,p1,p2,e1,e2,hp1,hp2⟩:=qJ hs hp
    obtain ⟨_,q1,q2,q3⟩:=zG e1 hp1
    obtain ⟨l,rfl,rfl,hl⟩:=new e2
    have hN:=S n
    have hC:=S c
    rw [hn,jr] at hN
    rw [hc,jr] at hC
    simp only [execOp,ho]
    rw [hN,hC,q1,q2]
    exact ⟨_,rfl,.inr (.inl ⟨l,_,rfl,.ofW (qBL H hk hz (qgT hq.1.1) (qgT hq.1.2) hq.2 q3 hl)⟩)⟩
   ·simp at hs
  ·simp at hs
 case store t a x=>simp only [execOp,ho]; exact qGL H S hh hs hp
 case mapUpdate t m k x=>simp only [execOp,ho]; simp only [zd] at hs; exact qtB H S hh hs hp
 case insert t m k x=>simp only [execOp,ho]; simp only [zd] at hs; exact qtB H S hh hs hp
 case mapEntry t m k=>
  simp only [zd] at hs
  split at hs
  ·rename_i kt e l kk h1 h2 h3
   split at hs
   ·rename_i c es hg
    obtain ⟨hc,hs⟩:=qO hs
    simp only [Bool.and_eq_true,zj] at hc
    obtain ⟨r,p1,p2,e1,e2,hp1,hp2⟩:=qJ hs hp
    have hfind:=qOb e1 hp1
    simp only [execOp,ho]
    split at e2
    ·rename_i x n
     obtain ⟨hsol,e2⟩:=qO e2
     obtain ⟨r,p3,p4,e3,e4,hp3,hp4⟩:=qJ e2 hp2
     have:=qq e4
     simp only [Prod.mk.injEq] at this
     obtain ⟨rfl,rfl⟩:=this
     exact ⟨_,rfl,.inr (.inl ⟨l,_,rfl,.ofW (qoS H S h1 h2 h3 (hh _ _ hg) hc.1.2 hc.2 hfind ⟨rfl,rfl⟩ (qvZ e3 hp3))⟩)⟩
    ·obtain ⟨z,p5,p6,e5,e6,hp5,hp6⟩:=qJ e2 hp2
     obtain ⟨hzp,e6⟩:=qO e6
     obtain ⟨r,p3,p4,e3,e4,hp3,hp4⟩:=qJ e6 hp6
     have:=qq e4
     simp only [Prod.mk.injEq] at this
     obtain ⟨rfl,rfl⟩:=this
     exact ⟨_,rfl,.inr (.inl ⟨l,_,rfl,.ofW (qoS H S h1 h2 h3 (hh _ _ hg) hc.1.2 hc.2 hfind ⟨Jh e5,rfl,hzp⟩ (qvZ e3 hp3))⟩)⟩
   ·simp at hs
  ·simp at hs
 case entryStore t m s x=>
  simp only [zd] at hs
  split at hs
  ·rename_i kt e l kd born h1 h2 h3
   split at hs
   ·rename_i c es hg
    obtain ⟨hc,hs⟩:=qO hs
    obtain ⟨es',p1,p2,e1,e2,hp1,hp2⟩:=qJ hs hp
    obtain ⟨rfl,rfl⟩:=qe7 e2
    obtain ⟨G',w',g1,g2,g3⟩:=qzN (P:=P) (t:=t) H S h2 h3 (hh _ _ hg) (by simp only [Bool.and_eq_true] at hc; exact hc.2) (qTQ e1 hp1)
    simp only [execOp,ho]
    exact ⟨_,rfl,.inr (.inl ⟨l,_,rfl,.ofU g1 g2 g3⟩)⟩
   ·simp at hs
  ·simp at hs
 case slice t x lo hi mx=>
  cases mx with
  | some m=>simp [zd] at hs
  | none=>
   simp only [zd] at hs
   simp only [execOp,ho]
   split at hs
   ·rename_i l n hv
    split at hs
    ·rename_i e fz sz s hk hg
     obtain ⟨hsz,hs⟩:=qO hs
     simp only [beq_iff_eq] at hsz
     obtain ⟨⟨a,b⟩,p1,p2,e1,e2,hp1,hp2⟩:=qJ hs hp
     obtain ⟨_,p3,p4,e3,e4,hp3,hp4⟩:=qJ e2 hp2
     have hn:=(zG e3 hp3).2
     have:=qq e4
     simp only [Prod.mk.injEq] at this
     obtain ⟨rfl,rfl⟩:=this
     exact ⟨_,rfl,.inr (.inl ⟨l,_,rfl,.ofW (qz_ H S hv hk (hh _ _ hg) hsz e1 hp1 hn)⟩)⟩
    ·simp at hs
   ·rename_i l path off hv
    split at hs
    ·rename_i n ro c hk hg
     split at hs
     ·rename_i o m bs h1 h2
      obtain ⟨hc,hs⟩:=qO hs
      simp only [Bool.and_eq_true,beq_iff_eq] at hc
      obtain ⟨_,p1,p2,e1,e2,hp1,hp2⟩:=qJ hs hp
      have hin:=Ym e1 hp1
      have:=qq e2
      simp only [Prod.mk.injEq] at this
      obtain ⟨rfl,rfl⟩:=this
      exact ⟨_,rfl,.inr (.inl ⟨l,_,rfl,.ofW (qyF H S hv hk (hh _ _ hg) h1 h2 hc.1 hc.2 hin)⟩)⟩
     ·simp at hs
    ·simp at hs
   ·simp at hs
 case call c=>
  simp only [zd] at hs
  simp only [execOp,ho]
  have call2 : ∀ {b : Builtin} {v u : Value} {t1 t2 : TypeId} {s : Sem Value} {r : AV} {ob' : Ob}, c.callee = .builtin b → c.args.map ρ = #[v, u] → c.argTypes = #[t1, t2] → (∀ consts, builtin b #[t1, t2] o.type consts #[v, u] = (do pure (Next.value (← s)))) → XV P ob γ G w s r ob' →
      WE P ob γ G w (do let d ← resolve ρ c o.type; invoke d.target d.args) r ob':=fun h1 h2 h3 h4 h5=>by
   have:=WE.ofW h5
   obtain ⟨v,γ',G',w',g1,g2⟩:=this
   refine ⟨v,γ',G',w',?_,g2⟩
   simp only [resolve,h1,Sem.run_bind,Sem.run_pure,Result.andThen_ok,invoke,h2,h3,h4]
   simpa only [Sem.run_bind,Sem.run_pure] using g1
  split at hs
  ·rename_i hc
   split at hs
   ·rename_i t u a x ht ha
    obtain ⟨va,vx,h1,h2,h3⟩:=qIj S ha
    have htt:=qFo ht
    split at hs
    ·rename_i e uk hk hu
     obtain ⟨hq,hs⟩:=qO hs
     simp only [Bool.and_eq_true] at hq
     obtain ⟨⟨⟨⟨huk,q1⟩,q2⟩,q3⟩,q4⟩:=hq
     obtain ⟨z,hz⟩:=Option.isSome_iff_exists.1 q3
     have hap:∀ {s:Sem Value},s=Builtin.append_ #[t,u] o.type #[va,vx]→∀ consts,builtin .append #[t,u] o.type consts #[va,vx]=(do pure (Next.value (← s))):=fun h _=>by rw [h]; rfl
     split at hs
     ·rw [jT] at h2
      subst h2
      split at hs
      ·rw [jT] at h3
       subst h3
       have:=qq hs
       simp only [Prod.mk.injEq] at this
       obtain ⟨rfl,rfl⟩:=this
       refine ⟨_,rfl,.inl ⟨rfl,call2 hc h1 htt (hap rfl) ⟨_,γ,G,w,run_append_room hk hu huk (n:=0) (new:=[]) rfl (by simp [Builtin.firstCells]) (Nat.le_refl _) (w':=w) (fun a h=>by cases h) (fun _=>rfl),H,Trans.refl H,jT.2 rfl⟩⟩⟩
      ·have:=qq hs
       simp only [Prod.mk.injEq] at this
       obtain ⟨rfl,rfl⟩:=this
       simp only [qM,qm,AV.isAgg] at h3
       obtain ⟨cs3,⟨a3,cap3,rfl,_⟩,ho3⟩:=h3
       cases (qU ho3)
       refine ⟨_,rfl,.inl ⟨rfl,call2 hc h1 htt (hap rfl) ⟨_,γ,G,w,run_append_room hk hu huk (n:=0) (new:=[]) rfl (qfI a3 _ _ _) (Nat.le_refl _) (w':=w) (fun a h=>by cases h) (fun _=>rfl),H,Trans.refl H,jT.2 rfl⟩⟩⟩
      ·split at hs
       ·obtain ⟨y,p1,p2,e1,e2,hp1,hp2⟩:=qJ hs hp
        obtain ⟨s,p3,p4,e3,e4,hp3,hp4⟩:=qJ e2 hp2
        obtain ⟨_,p5,p6,e5,e6,hp5,hp6⟩:=qJ e4 hp4
        obtain ⟨_,g0⟩:=zG e5 hp5
        have:=qq e6
        simp only [Prod.mk.injEq] at this
        obtain ⟨rfl,rfl⟩:=this
        obtain ⟨he,he0⟩:=qtU (G:=G) (w:=w) q4
        obtain ⟨ys,k1,k2,k3,k4⟩:=qrQ (P:=P) H hh e1 hp1 h3 (Jh e3) ⟨[],he⟩
        obtain ⟨k5,k6⟩:=qtt he k1 (Jh e3)
        have hy0:Qo y=0:=by omega
        have hys:ys=[]:=by have:=qfu.len k1; rw [hy0] at this; simpa using this
        subst hys
        rw [hy0] at k2 k4
        refine ⟨_,rfl,.inl ⟨rfl,call2 hc h1 htt (hap rfl) ⟨_,γ,G,w,run_append_room hk hu huk (n:=0) (new:=[]) k2 (k4 w rfl) (Nat.le_refl _) (w':=w) (fun a h=>by cases h) (fun _=>rfl),H,Trans.refl H,jT.2 rfl⟩⟩⟩
       obtain ⟨y,p1,p2,e1,e2,hp1,hp2⟩:=qJ hs hp
       obtain ⟨s,p3,p4,e3,e4,hp3,hp4⟩:=qJ e2 hp2
       obtain ⟨_,p5,p6,e5,e6,hp5,hp6⟩:=qJ e4 hp4
       have g1:s.len * bytesOf P e≤zi:=Ym e5 hp5
       obtain ⟨l,rfl,rfl,hl⟩:=new e6
       exact ⟨_,rfl,.inr (.inl ⟨l,_,rfl,call2 hc h1 htt (hap rfl) (qzB H hh hk hu huk (qgT q1) (qgT q2) hz q4 e1 hp1 h3 (Jh e3) g1 hl)⟩)⟩
     ·rename_i l n _
      split at hs
      ·rename_i fz sz s hg
       split at hs
       ·rw [jT] at h3
        subst h3
        obtain ⟨_,p1,p2,e1,e2,hp1,hp2⟩:=qJ hs hp
        have:=qq e2
        simp only [Prod.mk.injEq] at this
        obtain ⟨rfl,rfl⟩:=this
        have hv:=zx rfl rfl h2
        simp only [qm] at hv
        obtain ⟨b,cap,g1,g2,_⟩:=hv
        simp only [List.cons.injEq,and_true] at g1
        refine ⟨_,rfl,.inl ⟨rfl,call2 hc h1 htt (hap rfl) ⟨va,γ,G,w,?_,H,Trans.refl H,h2⟩⟩⟩
        rw [g1]
        exact run_append_room hk hu huk (n:=0) (new:=[]) rfl (by simp [Builtin.firstCells]) (by omega) (w':=w) (fun a h=>rfl) (fun _=>rfl)
       ·obtain ⟨_,p1,p2,e1,e2,hp1,hp2⟩:=qJ hs hp
        have:=qq e2
        simp only [Prod.mk.injEq] at this
        obtain ⟨rfl,rfl⟩:=this
        simp only [qM,qm,AV.isAgg] at h3
        obtain ⟨cs3,⟨a3,cap3,rfl,_⟩,ho3⟩:=h3
        cases (qU ho3)
        have hv:=zx rfl rfl h2
        simp only [qm] at hv
        obtain ⟨b,cap,g1,g2,_⟩:=hv
        simp only [List.cons.injEq,and_true] at g1
        refine ⟨_,rfl,.inl ⟨rfl,call2 hc h1 htt (hap rfl) ⟨va,γ,G,w,?_,H,Trans.refl H,h2⟩⟩⟩
        rw [g1]
        exact run_append_room hk hu huk (n:=0) (new:=[]) rfl (qfI a3 _ _ _) (by omega) (w':=w) (fun a h=>rfl) (fun _=>rfl)
       ·obtain ⟨hsz,hs⟩:=qO hs
        simp only [beq_iff_eq] at hsz
        subst hsz
        obtain ⟨y,p1,p2,e1,e2,hp1,hp2⟩:=qJ hs hp
        obtain ⟨s',p3,p4,e3,e4,hp3,hp4⟩:=qJ e2 hp2
        obtain ⟨_,p5,p6,e5,e6,hp5,hp6⟩:=qJ e4 hp4
        obtain ⟨g1,g2⟩:s.len=n∧s'.len * bytesOf P e≤zi:=Ym e5 hp5
        have:=qq e6
        simp only [Prod.mk.injEq] at this
        obtain ⟨rfl,rfl⟩:=this
        exact ⟨_,rfl,.inr (.inl ⟨l,_,rfl,call2 hc h1 htt (hap rfl) (qyv H hh hk hu huk (qgT q1) (qgT q2) hz e1 hp1 h3 h2 (hh _ _ hg) (Jh e3) g2 g1)⟩)⟩
      ·simp at hs
     ·simp at hs
    ·simp at hs
   ·simp at hs
  ·rename_i hc
   split at hs
   ·rename_i t u l k ht ha
    obtain ⟨va,vx,h1,h2,h3⟩:=qIj S ha
    have htt:=qFo ht
    split at hs
    ·rename_i kt e c0 es hk hg
     obtain ⟨hq,hs⟩:=qO hs
     simp only [Bool.and_eq_true,zj] at hq
     obtain ⟨es',p1,p2,e1,e2,hp1,hp2⟩:=qJ hs hp
     obtain ⟨rfl,rfl⟩:=qe7 e2
     obtain ⟨om,ok,hom⟩:∃ om ok,c.args.toList=[om,ok]:=by
      cases hl:c.args.toList with
      | nil=>simp [hl] at ha
      | cons a r=>
       cases r with
       | nil=>simp [hl] at ha
       | cons b r=>
        cases r with
        | cons=>simp [hl] at ha
        | nil=>exact ⟨a,b,rfl⟩
     simp only [hom,List.map_cons,List.map_nil,List.cons.injEq,and_true] at ha
     have hargs:c.args.map ρ=#[ρ om,ρ ok]:=by apply Array.ext'; simp [hom]
     obtain ⟨G',w',g1,g2,g3⟩:=qHq (P:=P) (u:=u) (ty:=o.type) H S hk ha.1 ha.2 (hh _ _ hg) hq.1.2 hq.2 (qSE e1 hp1)
     exact ⟨_,rfl,.inr (.inl ⟨l,_,rfl,call2 (s:=Builtin.delete_ #[t,u] o.type #[ρ om,ρ ok]) hc hargs htt (fun _=>rfl) ⟨_,_,G',w',g1,g2,g3,qvv⟩⟩)⟩
    ·simp at hs
   ·simp at hs
  ·simp at hs
 all_goals (simp [zd] at hs)
end g
end Go.Rx
end
noncomputable section
namespace Go.Rx
section g
variable {P:Program}
structure qow (h₀:Ob) (γ₀:Hm) (G₀:Gh) (w₀:World) (σ:St) (γ:Hm) (G:Gh) (a:Act) (w:World):Prop where
 heap:qL σ.ob γ G w
 slots:∀ t x,get σ.sl t=some x→∃ v,a.tmps[t]?=some v∧qM σ.ob γ G w x v
 size:a.tmps.size=σ.n
 tr:Trans h₀ γ₀ G₀ w₀ σ.ob γ G w
 keep:∀ l o,get h₀ l=some o→l∈σ.keep
 defers:a.defers=σ.dfs.map (fun d=>{ target:=.collected (γ d).1,args:=#[] })
 dfr:∀ d∈σ.dfs,(∃ b,get σ.ob d=some (.dfr b))∧get h₀ d=none
 dfk:∀ d∈σ.dfs,d∈σ.keep
def Fits (h₀:Ob) (γ₀:Hm) (G₀:Gh) (w₀:World) (σ:St) (a:Act) (w:World):Prop:=∃ γ G,qow h₀ γ₀ G₀ w₀ σ γ G a w
variable {h₀:Ob} {γ₀:Hm} {G₀:Gh} {w₀:World} {σ σ':St} {γ:Hm} {G:Gh} {a:Act} {w:World}
theorem qow.qgj (h:qow h₀ γ₀ G₀ w₀ σ γ G a w):jt σ.ob γ G w (ZC σ) a.eval:=by
 intro x
 cases x with
 | tmp t=>
  simp only [ZC]
  cases hg:get σ.sl t with
  | none=>trivial
  | some y=>
   obtain ⟨v,h1,h2⟩:=h.slots t y hg
   have:a.eval (.tmp t)=v:=by
    simp only [Act.eval]
    rw [Array.getD_eq_getD_getElem?,h1]; rfl
   rw [this]; exact h2
 | const v=>exact qSv
 | func f=>
  refine zy (x:=.fn (.func f) [] []) (v:=.func (.func f) #[] #[]) rfl ?_
  simp only [qm]
  exact ⟨[],[],rfl,rfl,rfl⟩
 | global g=>trivial
theorem Trans.then {ob ob' ob'':Ob} {γ γ' γ'':Hm} {G G' G'':Gh} {w w' w'':World} (h:Trans ob γ G w ob' γ' G' w') (k:Trans ob' γ' G' w' ob'' γ'' G'' w''):Trans ob γ G w ob'' γ'' G'' w'':=by
 refine ⟨h.keeps.trans k.keeps,Nat.le_trans h.size k.size,?_,?_,?_,?_,k.io.1.trans h.io.1,k.io.2.trans h.io.2⟩
 ·intro b hb hno
  rw [k.frame b (Nat.lt_of_lt_of_le hb h.size),h.frame b hb hno]
  intro l o hl hv e
  rcases h.fresh l o hl hv with h1 | ⟨l₀,o₀,h1,hx,h2⟩
  ·omega
  ·exact hno l₀ o₀ h1 hx (by rw [h2,e])
 ·intro b o h1 h2
  by_cases h3:G' b o
  ·exact h.gnew b o h3 h2
  ·rcases k.gnew b o h1 h3 with h4 | ⟨l,x,h4,hv,h5⟩
   ·exact .inl (Nat.le_trans h.size h4)
   ·rcases h.fresh l x h4 hv with h6 | ⟨l₀,o₀,h6,hx,h7⟩
    ·exact .inl (by omega)
    ·exact .inr ⟨l₀,o₀,h6,hx,by rw [h7,h5]⟩
 ·intro l o hl
  obtain ⟨o',h1,h2⟩:=h.kept l o hl
  obtain ⟨o'',h3,h4⟩:=k.kept l o' h1
  refine ⟨o'',h3,?_⟩
  cases o<;>cases o'<;>simp only [Vt] at h2<;>cases o''<;>simp only [Vt] at h4 ⊢
  ·rw [h4,h2]
  ·refine ⟨by omega,fun e=>?_⟩
   rw [h4.2 (by omega),h2.2 (by omega)]
  ·exact ⟨by omega,by rw [h4.2,h2.2]⟩
  ·rw [h4,h2]
  ·rw [h4,h2]
  ·rw [h4,h2]
 ·intro l o hl hv
  rcases k.fresh l o hl hv with h1 | ⟨l₀,o₀,h1,hx,h2⟩
  ·exact .inl (Nat.le_trans h.size h1)
  ·rcases h.fresh l₀ o₀ h1 hx with h3 | ⟨l₁,o₁,h3,hy,h4⟩
   ·exact .inl (by omega)
   ·exact .inr ⟨l₁,o₁,h3,hy,by rw [h4,h2]⟩
theorem qzp {ob ob':Ob} {γ γ':Hm} {G G':Gh} {w w':World} (h:Trans ob γ G w ob' γ' G' w') {d:Nat} (hd:∃ b,get ob d=some (.dfr b)):γ' d=γ d∧∃ b,get ob' d=some (.dfr b):=by
 obtain ⟨b,hd⟩:=hd
 obtain ⟨o',h1,h2⟩:=h.kept d _ hd
 cases o'<;>simp only [Vt] at h2
 exact ⟨h2,_,h1⟩
theorem qah {ob ob':Ob} {γ γ':Hm} {G G':Gh} {w w':World} (h:Trans ob γ G w ob' γ' G' w') {d:Nat} (hd:∃ b,get ob d=some (.dfr b)):∃ b,get ob' d=some (.dfr b):=(qzp h hd).2
theorem qwB {ob ob' : Ob} {γ γ' : Hm} {G G' : Gh} {w w' : World} (h : Trans ob γ G w ob' γ' G' w') {ds : List Nat} (hd : ∀ d ∈ ds, ∃ b, get ob d = some (.dfr b)) :
    ds.map (fun d=>({ target:=.collected (γ d).1,args:=#[] }:Deferred))=ds.map (fun d=>{ target:=.collected (γ' d).1,args:=#[] }):=
 List.map_congr_left fun d hm=>by rw [(qzp h (hd d hm)).1]
section ops
variable (hn:Hint) (K:FuncId) (O:Orc)
theorem qLL (h : qow h₀ γ₀ G₀ w₀ σ γ G a w) {o : Oper} {an : Option Ans} {e : Eff} {ps : List Prop} (hs : ZL P hn (Valid P) K σ.lvl o.dst an (ZC σ) σ.ob o.op = some (e, ps)) (hp : All ps) :
    match e with
    | .val r=>jz P (execOp a.eval o) w (qbA σ.ob γ G w σ.ob r)
    | .read _ r=>jz P (execOp a.eval o) w (qbA σ.ob γ G w σ.ob r)
    | .write T out h'=>(∀ n x,get h' n=some x→has T n=true∨get σ.ob n=none)→∃ r,out=.ret r∧jz P (execOp a.eval o) w (qbA σ.ob γ G w (merge T h' σ.ob) r):=by
 have S:=h.qgj
 have hh:∀ l o',get (qD (zS (ZC σ) σ.ob o.op) σ.ob) l=some o'→get σ.ob l=some o':=fun l o' hl=>(Vh hl).2
 unfold ZL at hs
 split at hs
 ·rename_i r ps' hq
  simp only [Option.some.injEq,Prod.mk.injEq] at hs
  obtain ⟨rfl,rfl⟩:=hs
  exact .ofN (qHd h.heap S hq hp)
 ·split at hs
  ·rename_i r ps' hq
   simp only [Option.some.injEq,Prod.mk.injEq] at hs
   obtain ⟨rfl,rfl⟩:=hs
   exact .ofN (qIn h.heap S hh hq hp)
  ·split at hs
   ·rename_i out h' ps' hq
    simp only [Option.some.injEq,Prod.mk.injEq] at hs
    obtain ⟨rfl,rfl⟩:=hs
    simp only
    intro hc
    split at hq
    ·rename_i f args ts ho
     obtain ⟨r,h1,h2⟩:=qIi (vas:=args.toList.map a.eval) h.heap hq hp (S f) (fun hs=>qpc S _ hs) hc
     refine ⟨r,h1,.ofC ho ?_⟩
     have:args.map a.eval=(args.toList.map a.eval).toArray:=by apply Array.ext'; simp
     rw [this]; exact h2
    ·have hW := qGr h.heap S hh hq hp (fun l ⟨x, hx⟩ hl => by
        rcases hc l x hx with ht | hg
        ·rw [vG,ht] at hl; simpa using hl
        ·exact hg)
     obtain ⟨r,rfl,⟨rfl,hY⟩ | ⟨l,o',rfl,hY⟩ | hY⟩:=hW
     ·exact ⟨r,rfl,(jz.ofM hY).mono fun v w' hb=>hb.same qOz⟩
     ·refine ⟨r,rfl,(jz.ofM hY).mono fun v w' hb=>hb.same (qTa (hc l o' (by rw [qT,if_pos rfl])))⟩
     ·exact ⟨r,rfl,jz.ofM (hY _ rfl hc)⟩
   ·simp at hs
theorem qm4 (h : qow h₀ γ₀ G₀ w₀ σ γ G a w) {d : Option Tmp} (hd : qfp σ d = true) {ob' : Ob} {r : AV} {v : Value} {w' : World} (hb : qbA σ.ob γ G w ob' r v w') :
    Fits h₀ γ₀ G₀ w₀ { σ with sl:=put d r σ.sl,ob:=ob' } (a.put d v) w':=by
 obtain ⟨γ',G',h1,h2,h3⟩:=hb
 refine ⟨γ',G',h1,fun t x hx=>?_,?_,?_,h.keep,?_,fun d hd=>⟨qah h2 (h.dfr d hd).1,(h.dfr d hd).2⟩,h.dfk⟩
 ·cases d with
  | none=>
   obtain ⟨u,g1,g2⟩:=h.slots t x hx
   exact ⟨u,g1,qM.step h2 _ _ g2⟩
  | some d=>
   simp only [put] at hx
   rw [qT] at hx
   have hdn:d < a.tmps.size:=by
    rw [h.size]; simp only [qfp] at hd; exact Nat.le_of_ble_eq_true hd
   by_cases e:d=t
   ·subst e
    rw [if_pos rfl] at hx
    cases hx
    exact ⟨v,by simp only [Act.put]; exact YD _ _ _ hdn,h3⟩
   ·rw [if_neg e] at hx
    obtain ⟨u,g1,g2⟩:=h.slots t x hx
    exact ⟨u,by simp only [Act.put]; rw [ZU _ _ _ _ (fun h=>e h.symm)]; exact g1,qM.step h2 _ _ g2⟩
 ·cases d with
  | none=>exact h.size
  | some d=>simp only [Act.put,Array.size_setIfInBounds]; exact h.size
 ·exact h.tr.then h2
 ·have:(a.put d v).defers=a.defers:=by cases d<;>rfl
  rw [this,h.defers]
  exact qwB h2 fun d hd=>(h.dfr d hd).1
end ops
end g
end Go.Rx
end
noncomputable section
namespace Go.Rx
section g
variable {P:Program} {h₀:Ob} {γ₀:Hm} {G₀:Gh} {w₀:World} {σ σ':St} {γ:Hm} {G:Gh} {a:Act} {w:World} {hn:Hint} {K:FuncId} {O:Orc} {ro:Option Nat} {nn:Nat}
theorem qqd {key:Nat} {r r':AV} {ps:List Prop} (h:YV O key r=some (r',ps)) (hp:All ps):r'=r:=by
 unfold YV at h
 split at h
 ·obtain ⟨rfl,h2⟩:=zG h hp; exact h2.symm
 ·exact qq h
theorem qN9 {key:Nat} {h h':Ob} {ps:List Prop} (hs:qm3 O key h=some (h',ps)) (hp:All ps):qel h h':=by
 unfold qm3 at hs
 split at hs
 ·rename_i l o' _
  split at hs
  ·rename_i o hg
   obtain ⟨_,hs⟩:=qO hs
   obtain ⟨rfl,h2⟩:=zG hs hp
   subst h2
   intro j
   rw [qT]; split
   ·rename_i e; subst e; exact hg.symm
   ·rfl
  ·simp at hs
 ·rw [qq hs]; exact fun _=>rfl
theorem qNV {T:List Nat} {h h' ob:Ob} (hs:qel h h'):qel (merge T h ob) (merge T h' ob):=fun j=>by
 rw [get_merge,get_merge,hs j]
theorem qDG {h:Ob} {p:Nat→Bool} (ha:(dom h).all p=true) {n:Nat} {x:jc} (hx:get h n=some x):p n=true:=
 List.all_eq_true.1 ha n ((qpB h n).2 ⟨x,hx⟩)
theorem qC5 (h : qow h₀ γ₀ G₀ w₀ σ γ G a w) {o : Oper} {key : Nat} {e : Eff} {ps ps' : List Prop} {s : SR} (he : ZL P hn (Valid P) K σ.lvl o.dst (get O.an key) (ZC σ) σ.ob o.op = some (e, ps)) (hp : All ps)
    (hs:jq O key o.dst σ e=some (s,ps')) (hp':All ps'):∃ σ' lab,s=.next σ' lab∧jz P (execOp a.eval o) w (fun v w'=>Fits h₀ γ₀ G₀ w₀ σ' (a.put o.dst v) w'):=by
 have key:=qLL hn K h he hp
 cases e with
 | val r=>
  simp only [jq] at hs
  obtain ⟨r',p1,p2,e1,e2,hp1,hp2⟩:=qJ hs hp'
  have:=qqd e1 hp1
  subst this
  obtain ⟨hc,e2⟩:=qO e2
  exact ⟨_,_,qq e2,key.mono fun v w' hb=>qm4 h hc hb⟩
 | read T r=>
  simp only [jq] at hs
  obtain ⟨r',p1,p2,e1,e2,hp1,hp2⟩:=qJ hs hp'
  have:=qqd e1 hp1
  subst this
  obtain ⟨hc,e2⟩:=qO e2
  exact ⟨_,_,qq e2,key.mono fun v w' hb=>qm4 h hc hb⟩
 | write T out h'=>
  simp only [jq] at hs
  obtain ⟨h1,p1,p2,e1,e2,hp1,hp2⟩:=qJ hs hp'
  have hsame:=qN9 e1 hp1
  obtain ⟨hc,e2⟩:=qO e2
  simp only [Bool.and_eq_true] at hc
  obtain ⟨r,rfl,hst⟩:=key (fun n x hx=>by
   have:=qDG hc.1 (n:=n) (x:=x) (by rw [hsame n]; exact hx)
   simp only [Bool.or_eq_true,Bool.not_eq_true'] at this
   rcases this with h | h
   ·exact .inl h
   ·exact .inr ((Yt _ n).1 h))
  simp only at e2
  obtain ⟨r',p3,p4,e3,e4,hp3,hp4⟩:=qJ e2 hp2
  have:=qqd e3 hp3
  subst this
  obtain ⟨hc2,e4⟩:=qO e4
  exact ⟨_,_,qq e4,hst.mono fun v w' hb=>qm4 h hc2 (hb.same (qNV hsame))⟩
theorem qtY (h:qow h₀ γ₀ G₀ w₀ σ γ G a w) {ops:Array Oper} {o:Oper} {b:Bool} (hs:qaU ops σ o=some b):Region.wanted o (yielded ops a.tmps)=b:=by
 unfold qaU at hs
 unfold Region.wanted
 split at hs
 ·rename_i hg; rw [hg]; simpa using hs
 ·rename_i j want hg
  rw [hg]
  simp only
  split at hs
  ·rename_i t _ _ _ _ _ hj
   split at hs
   ·rename_i x hx
    obtain ⟨v,h1,h2⟩:=h.slots t _ hx
    rw [Kk] at h2
    subst h2
    have hy:yielded ops a.tmps j=some x:=by simp only [yielded,hj,Option.bind_some,h1]
    rw [hy]
    simp only [Option.some.injEq] at hs
    rw [← hs]
    cases x<;>cases want<;>rfl
   ·rename_i hx
    obtain ⟨v,h1,h2⟩:=h.slots t _ hx
    obtain ⟨vs,rfl,h3⟩:=h2
    have hy:yielded ops a.tmps j=none:=by simp only [yielded,hj,Option.bind_some,h1]
    rw [hy]
    simp only [Option.some.injEq] at hs
    rw [← hs]; rfl
   ·simp at hs
  ·rename_i hno
   simp only [Option.some.injEq] at hs
   have hy:yielded ops a.tmps j=none:=by
    unfold yielded
    cases hj:ops[j]? with
    | none=>rfl
    | some q=>
     obtain ⟨dst,op,ty,pos,af,gd⟩:=q
     cases dst with
     | none=>rfl
     | some t=>exact absurd hj (hno _ _ _ _ _ _)
   rw [hy,← hs]; rfl
theorem qx1 (h : qow h₀ γ₀ G₀ w₀ σ γ G a w) {ops : Array Oper} {o : Oper} {key : Nat} {s : SR} {ps : List Prop} (hs : qbw P hn (Valid P) K O key ops o σ = some (s, ps)) (hp : All ps) :
    ∃ σ' lab,s=.next σ' lab∧∀ (next:Act→World→Prop) (Q:Exit→Act→World→Prop),(∀ a' w',Fits h₀ γ₀ G₀ w₀ σ' a' w'→next a' w')→
     if Region.wanted o (yielded ops a.tmps) then o.wpIn (FW ro) nn P a w next Q else ((∀ f,o.about P w a.eval=some f→(FW ro).fn f)∧next (a.put o.dst undef) w):=by
 unfold qbw at hs
 split at hs
 ·rename_i hw
  obtain ⟨e,p1,p2,e1,e2,hp1,hp2⟩:=qJ hs hp
  obtain ⟨σ',lab,h1,h2⟩:=qC5 h e1 hp1 e2 hp2
  refine ⟨σ',lab,h1,fun next Q hn=>?_⟩
  rw [qtY h hw,if_pos rfl]
  exact h2.wp fun v w' hf=>hn _ _ hf
 ·rename_i hw
  obtain ⟨hd,hs⟩:=qO hs
  refine ⟨_,_,qq hs,fun next Q hn=>?_⟩
  rw [qtY h hw,if_neg (by simp)]
  refine ⟨fun _ _=>trivial,?_⟩
  exact hn _ _ (qm4 h hd ⟨γ,G,h.heap,Trans.refl h.heap,qvv⟩)
 ·simp at hs
theorem qhF {C:Vn} {ops:Array Oper}:∀ (l:List Oper) (key:Nat) (σ:St) (e:Ex) (σ':St) (labs:List (List Nat)) (ps:List Prop),qbK P hn C K O ops key l σ=some ((e,σ',labs),ps)→e=.normal
 | [],key,σ,e,σ',labs,ps,hs=>by
  have:=qq hs
  simp only [Prod.mk.injEq] at this
  exact this.1
 | o::l,key,σ,e,σ',labs,ps,hs=>by
  simp only [qbK] at hs
  unfold R.with at hs
  split at hs
  ·rename_i s p1 _
   cases s with
   | pan=>simp at hs
   | next σ1 lab=>
    simp only at hs
    split at hs
    ·rename_i b qs hb
     split at hb
     ·rename_i r p2 hr
      obtain ⟨e',σ2,labs'⟩:=r
      have h1:=qhF l _ _ _ _ _ _ hr
      subst h1
      simp only [qA] at hb
      simp only [Option.some.injEq,Prod.mk.injEq] at hs hb
      obtain ⟨hb1,_⟩:=hb
      obtain ⟨hs1,_⟩:=hs
      rw [← hb1] at hs1
      simp only [Prod.mk.injEq] at hs1
      exact hs1.1.symm
     ·simp at hb
    ·simp at hs
  ·simp at hs
theorem qCb {ops : Array Oper} {Q : Exit → Act → World → Prop} : ∀ (l : List Oper) (k key : Nat) (σ : St) (a : Act) (w : World) (e : Ex) (σ' : St) (labs : List (List Nat)) (ps : List Prop), (∀ j, l[j]? = ops[k + j]?) →
    qbK P hn (Valid P) K O ops key l σ=some ((e,σ',labs),ps)→All ps→Fits h₀ γ₀ G₀ w₀ σ a w→e=.normal∧((∀ a' w',Fits h₀ γ₀ G₀ w₀ σ' a' w'→Q .normal a' w')→wpOpsIn (FW ro) nn P ops Q (List.range' k l.length) a w)
 | [],k,key,σ,a,w,e,σ',labs,ps,hl,hs,hp,hf=>by
  have:=qq hs
  simp only [Prod.mk.injEq] at this
  obtain ⟨rfl,rfl,_⟩:=this
  exact ⟨rfl,fun hq=>hq _ _ hf⟩
 | o::l,k,key,σ,a,w,e,σ',labs,ps,hl,hs,hp,hf=>by
  obtain ⟨γ,G,h⟩:=hf
  simp only [qbK] at hs
  obtain ⟨s,p1,p2,e1,e2,hp1,hp2⟩:=qJ hs hp
  obtain ⟨σ1,lab,rfl,hstep⟩:=qx1 h e1 hp1
  simp only at e2
  obtain ⟨⟨e',σ2,labs'⟩,p3,p4,e3,e4,hp3,hp4⟩:=qJ e2 hp2
  have:=qq e4
  simp only [Prod.mk.injEq] at this
  obtain ⟨rfl,rfl,_⟩:=this
  have h0:ops[k]?=some o:=by simpa using (hl 0).symm
  have hl':∀ j,l[j]?=ops[k + 1 + j]?:=fun j=>by have:=hl (j + 1); simpa [Nat.add_assoc,Nat.add_comm 1 j] using this
  have rest:∀ a' w',Fits h₀ γ₀ G₀ w₀ σ1 a' w'→e=.normal∧((∀ a' w',Fits h₀ γ₀ G₀ w₀ σ' a' w'→Q .normal a' w')→wpOpsIn (FW ro) nn P ops Q (List.range' (k + 1) l.length) a' w'):=fun a' w' hf'=>
   qCb l (k + 1) (key + 1) σ1 a' w' e σ' labs' p3 hl' e3 hp3 hf'
  have hnorm:e=.normal:=qhF l _ _ _ _ _ _ e3
  refine ⟨hnorm,fun hq=>?_⟩
  simp only [List.length_cons,List.range'_succ,wpOpsIn,h0]
  have:=hstep (wpOpsIn (FW ro) nn P ops Q (List.range' (k + 1) l.length)) Q (fun a' w' hf'=>(rest a' w' hf').2 hq)
  split
  ·rename_i hw; rw [if_pos hw] at this; exact this
  ·rename_i hw; rw [if_neg hw] at this; exact this
end g
end Go.Rx
end
noncomputable section
namespace Go.Rx
section g
variable {P:Program} {h₀:Ob} {γ₀:Hm} {G₀:Gh} {w₀:World} {hn:Hint} {K:FuncId} {ro:Option Nat} {nn:Nat}
theorem qHE {live:List Nat} {σ σ':St} {a:Act} {w:World} (hs:gc live σ=some σ') (h:Fits h₀ γ₀ G₀ w₀ σ a w):Fits h₀ γ₀ G₀ w₀ σ' a w:=by
 obtain ⟨γ,G,h⟩:=h
 unfold gc at hs
 simp only at hs
 split at hs
 ·rename_i hc
  simp only [Bool.and_eq_true] at hc
  simp only [Option.some.injEq] at hs
  subst hs
  obtain ⟨hcn,hco⟩:=Jj hc.1
  have hsub:∀ l o,get (qD (reach σ.ob 500 (AV.q9 ((qD live σ.sl).map (·.2))++σ.keep) []) σ.ob) l=some o→get σ.ob l=some o:=fun l o hl=>(Vh hl).2
  refine ⟨γ,G,h.heap.sub hsub hco,fun t x hx=>?_,h.size,h.tr.drop hsub fun l o hl=>?_,h.keep,h.defers,fun d hd=>?_,h.dfk⟩
  ·have hx' : get σ.sl t = some x := by
      have:=hx
      rw [vG] at this
      cases ht:has live t<;>simp [ht] at this
      exact this
   obtain ⟨v,h1,h2⟩:=h.slots t x hx'
   refine ⟨v,h1,qhe hsub (fun n hn=>hcn n ?_) h2⟩
   have hmem:∀ {h:Sl} {l:Nat} {o:AV},get h l=some o→(l,o)∈h:=by
    intro h l o
    induction h with
    | nil=>intro hg; simp [get_nil,zK] at hg
    | cons e r ih=>
     obtain ⟨a,y⟩:=e
     intro hg
     simp only [get_nil,zK] at hg
     split at hg
     ·rename_i e; subst e; cases hg; simp
     ·exact List.mem_cons_of_mem _ (ih hg)
   exact qO5.2 ⟨x,List.mem_map.2 ⟨(t,x),hmem hx,rfl⟩,hn⟩
  ·have hk:=h.keep l o hl
   have:has (dom (qD (reach σ.ob 500 (AV.q9 ((qD live σ.sl).map (·.2))++σ.keep) []) σ.ob)) l=true:=List.all_eq_true.1 hc.2 l hk
   exact (Wy _ l).1 this
  ·obtain ⟨⟨b,hb⟩,h2⟩:=h.dfr d hd
   have:has (dom (qD (reach σ.ob 500 (AV.q9 ((qD live σ.sl).map (·.2))++σ.keep) []) σ.ob)) d=true:=List.all_eq_true.1 hc.2 d (h.dfk d hd)
   obtain ⟨x,hx⟩:=(Wy _ d).1 this
   have:=hsub d x hx
   rw [hb] at this
   cases this
   exact ⟨⟨b,hx⟩,h2⟩
 ·simp at hs
theorem qKE {P : Program} {b : Frame} {a : Act} {k : List Item} {cs : List Frame} {w : World} {c : Code} :
    step P (lone (b.atR a (.code (.scope c)::k)) cs w)=.next (lone (b.atR a (.code c::.inScope c::k)) cs w):=
 step_lone_go (by simp [stepG,stepG.exec,Frame.atR])
theorem qFN {P : Program} {b : Frame} {a : Act} {k : List Item} {cs : List Frame} {w : World} {c : Code} :
    step P (lone (b.atR a (.inScope c::k)) cs w)=.next (lone (b.atR a k) cs w):=
 step_lone_go (by simp [stepG,stepG.exec,Frame.atR])
theorem qsH {F:Fence} {n:Nat} {P:Program} {Q:Exit→Act→World→Prop} {a:Act} {w:World} {c:Code} (h:c.wpIn F n P (Exit.noGoto Q) a w):(Code.scope c).wpIn F n P Q a w:=by
 intro b k cs hro hb hr
 obtain ⟨e,a₁,w₁,hq,harr⟩:=h b (.inScope c::k) cs hro hb hr
 have h1:StepsIn (Machine.fenced P F) P (lone (b.atR a (.code (.scope c)::k)) cs w) (lone (b.atR a (.code c::.inScope c::k)) cs w):=.one (fenced_calm hb hr rfl) qKE
 cases e with
 | normal=>exact ⟨.normal,a₁,w₁,hq,.of_steps h1 (StepsIn.trans harr (.one (fenced_calm hb hr rfl) qFN))⟩
 | exit id=>exact ⟨.exit id,a₁,w₁,hq,.of_steps h1 ⟨fun k' hk=>harr.1 k' (by simp [exitTo,hk]),fun hr' hk=>harr.2 hr' (by simp [exitTo,hk])⟩⟩
 | goto l=>exact hq.elim
 | ret=>exact ⟨_,a₁,w₁,hq,.of_steps h1 harr⟩
 | panic ch=>exact ⟨_,a₁,w₁,hq,.of_steps h1 harr⟩
 | outgrown=>exact ⟨_,a₁,w₁,hq,.of_steps h1 harr⟩
def qpV:Ex→Exit
 | .normal=>.normal
 | .exit i=>.exit i
 | .goto l=>.goto l
 | .ret=>.ret
 | .pan v=>.panic []
def qBm (P:Program) (hn:Hint) (K:FuncId):Prop:=∀ (O:Orc) (id:Nat) (ops:Array Oper) (σ σ':St) (e:Ex) (ps:List Prop),qcA P hn (Valid P) K O id ops true σ=some ((e,σ'),ps)→All ps→
 ∀ (h₀:Ob) (γ₀:Hm) (G₀:Gh) (w₀:World) (a:Act) (w:World) (Q:Exit→Act→World→Prop),Fits h₀ γ₀ G₀ w₀ σ a w→(∀ a' w',Fits h₀ γ₀ G₀ w₀ σ' a' w'→Q (qpV e) a' w')→∀ (ro:Option Nat) (nn:Nat),(Code.region id ops true).wpIn (FW ro) nn P Q a w
theorem qKf {O : Orc} {id : Nat} {ops : Array Oper} {σ σ' : St} {e : Ex} {ps : List Prop} (hs : qcA P hn (Valid P) K O id ops false σ = some ((e, σ'), ps)) (hp : All ps) {a : Act} {w : World} {Q : Exit → Act → World → Prop} (hf : Fits h₀ γ₀ G₀ w₀ σ a w)
    (hq:∀ a' w',Fits h₀ γ₀ G₀ w₀ σ' a' w'→Q (qpV e) a' w'):(Code.region id ops false).wpIn (FW ro) nn P Q a w:=by
 unfold qcA at hs
 obtain ⟨⟨e1,σ1,labs⟩,p1,p2,g1,g2,hp1,hp2⟩:=qJ hs hp
 have hnorm:=qhF _ _ _ _ _ _ _ g1
 subst hnorm
 simp only at g2
 obtain ⟨_,g2⟩:=qO g2
 split at g2
 ·rename_i σ2 hgc
  have:=qq g2
  simp only [Prod.mk.injEq] at this
  obtain ⟨rfl,rfl⟩:=this
  refine wpIn_region ?_
  have:=(qCb (ro:=ro) (nn:=nn) (Q:=Q) ops.toList 0 _ _ a w _ _ _ _ (by simp) g1 hp1 hf).2 (fun a' w' hf'=>hq _ _ (qHE hgc hf'))
  rw [List.range_eq_range']
  simpa using this
 ·simp at g2
theorem Jp {α β:Type} {x:R α} {f:α→R β} {b:β} {qs:List Prop} (h:x.with f=some (b,qs)):∃ a p q,x=some (a,p)∧f a=some (b,q):=by
 unfold R.with at h
 split at h
 ·rename_i a p
  split at h
  ·rename_i b' q hf
   simp only [Option.some.injEq,Prod.mk.injEq] at h
   obtain ⟨rfl,rfl⟩:=h
   exact ⟨a,p,q,rfl,hf⟩
  ·simp at h
 ·simp at h
theorem KJ {α:Type} {b:Bool} {x:R α} {y:α} {ps:List Prop} (h:qR b x=some (y,ps)):x=some (y,ps):=by
 cases b
 ·simp [qR] at h
 ·exact h
theorem qQR {C:Vn} {O:Orc} {key:Nat} {ops:Array Oper} {o:Oper} {σ σ':St} {lab:List Nat} {ps:List Prop} (h:qbw P hn C K O key ops o σ=some (.next σ' lab,ps)):σ'.rnd=σ.rnd:=by
 unfold qbw at h
 split at h
 ·obtain ⟨e,p,q,h1,h2⟩:=Jp h
  cases e<;>simp only [jq] at h2
  ·obtain ⟨r,p,q,h3,h4⟩:=Jp h2
   have:=KJ h4
   simp only [qA,Option.some.injEq,Prod.mk.injEq,SR.next.injEq] at this
   rw [← this.1.1]
  ·obtain ⟨r,p,q,h3,h4⟩:=Jp h2
   have:=KJ h4
   simp only [qA,Option.some.injEq,Prod.mk.injEq,SR.next.injEq] at this
   rw [← this.1.1]
  ·obtain ⟨r,p,q,h3,h4⟩:=Jp h2
   have h4:=KJ h4
   split at h4
   ·obtain ⟨r,p,q,h3,h4⟩:=Jp h4
    have:=KJ h4
    simp only [qA,Option.some.injEq,Prod.mk.injEq,SR.next.injEq] at this
    rw [← this.1.1]
   ·simp at h4
 ·have:=KJ h
  simp only [qA,Option.some.injEq,Prod.mk.injEq,SR.next.injEq] at this
  rw [← this.1.1]
 ·simp at h
theorem qKa {C:Vn} {O:Orc} {ops:Array Oper}:∀ (l:List Oper) (key:Nat) (σ:St) (e:Ex) (σ':St) (labs:List (List Nat)) (ps:List Prop),qbK P hn C K O ops key l σ=some ((e,σ',labs),ps)→σ'.rnd=σ.rnd
 | [],key,σ,e,σ',labs,ps,h=>by
  simp only [qbK,qA,Option.some.injEq,Prod.mk.injEq] at h
  rw [← h.1.2.1]
 | o::l,key,σ,e,σ',labs,ps,h=>by
  simp only [qbK] at h
  obtain ⟨s,p,q,h1,h2⟩:=Jp h
  cases s with
  | pan=>simp at h2
  | next σ1 lab=>
   simp only at h2
   obtain ⟨⟨e',σ2,labs'⟩,p',q',h3,h4⟩:=Jp h2
   simp only [qA,Option.some.injEq,Prod.mk.injEq] at h4
   rw [← h4.1.2.1,qKa l _ _ _ _ _ _ h3,qQR h1]
theorem WX {C:Vn}:∀ (c:Code) (O:Orc) (σ σ':St) (e:Ex) (ps:List Prop),Vo P hn C K c O σ=some ((e,σ'),ps)→σ'.rnd=σ.rnd
 | .skip,O,σ,σ',e,ps,h=>by simp only [Vo,qA,Option.some.injEq,Prod.mk.injEq] at h; rw [← h.1.2]
 | .label _,O,σ,σ',e,ps,h=>by simp only [Vo,qA,Option.some.injEq,Prod.mk.injEq] at h; rw [← h.1.2]
 | .region id ops draw,O,σ,σ',e,ps,h=>by
  simp only [Vo,qcA] at h
  obtain ⟨⟨e1,σ1,labs⟩,p,q,h1,h2⟩:=Jp h
  cases e1<;>simp only at h2<;>try (simp at h2; done)
  have h2:=KJ h2
  split at h2
  ·rename_i σ2 hgc
   simp only [qA,Option.some.injEq,Prod.mk.injEq] at h2
   rw [← h2.1.2,← qKa _ _ _ _ _ _ _ h1]
   unfold gc at hgc
   simp only at hgc
   split at hgc
   ·simp only [Option.some.injEq] at hgc; rw [← hgc]
   ·simp at hgc
  ·simp at h2
 | .seq a b,O,σ,σ',e,ps,h=>by
  simp only [Vo] at h
  obtain ⟨⟨e1,σ1⟩,p,q,h1,h2⟩:=Jp h
  cases e1<;>simp only at h2
  ·rw [WX b O σ1 σ' e q h2,WX a O σ σ1 _ p h1]
  all_goals
   simp only [qA,Option.some.injEq,Prod.mk.injEq] at h2
   rw [← h2.1.2,WX a O σ σ1 _ p h1]
 | .cond c a b,O,σ,σ',e,ps,h=>by
  simp only [Vo] at h
  split at h
  ·exact WX a O σ σ' e ps h
  ·exact WX b O σ σ' e ps h
  ·simp at h
 | .block id c,O,σ,σ',e,ps,h=>by
  simp only [Vo] at h
  obtain ⟨⟨e1,σ1⟩,p,q,h1,h2⟩:=Jp h
  have key:σ'=σ1:=by
   cases e1<;>simp only at h2
   case exit i=>split at h2<;>(simp only [qA,Option.some.injEq,Prod.mk.injEq] at h2; exact h2.1.2.symm)
   all_goals (simp only [qA,Option.some.injEq,Prod.mk.injEq] at h2; exact h2.1.2.symm)
  rw [key,WX c O σ σ1 _ p h1]
 | .loop c,O,σ,σ',e,ps,h=>by
  simp only [Vo] at h
  split at h
  ·rename_i e1 σ1 hlo
   obtain ⟨hc,h⟩:qiA σ1.rnd σ.rnd=true∧_:=by
    unfold qR at h
    split at h
    ·exact ⟨by assumption,h⟩
    ·simp at h
   simp only [Option.some.injEq,Prod.mk.injEq] at h
   rw [← h.1.2]
   revert hc; cases σ1.rnd<;>cases σ.rnd<;>simp [qiA]
  ·simp at h
 | .exit id,O,σ,σ',e,ps,h=>by simp only [Vo,qA,Option.some.injEq,Prod.mk.injEq] at h; rw [← h.1.2]
 | .goto l,O,σ,σ',e,ps,h=>by simp only [Vo,qA,Option.some.injEq,Prod.mk.injEq] at h; rw [← h.1.2]
 | .ret,O,σ,σ',e,ps,h=>by simp only [Vo,qA,Option.some.injEq,Prod.mk.injEq] at h; rw [← h.1.2]
 | .scope c,O,σ,σ',e,ps,h=>by
  simp only [Vo] at h
  obtain ⟨⟨e1,σ1⟩,p,q,h1,h2⟩:=Jp h
  cases e1<;>simp only at h2<;>try (simp at h2; done)
  all_goals
   simp only [qA,Option.some.injEq,Prod.mk.injEq] at h2
   rw [← h2.1.2,WX c O σ σ1 _ p h1]
 | .rangeFunc g pa as0 bd,O,σ,σ',e,ps,h=>by
  simp only [Vo,qh4] at h
  repeat' split at h
  all_goals first
   | (simp at h; done)
   | skip
  all_goals
   have h:=KJ h
   first
    | (simp at h; done)
    | (simp only [Option.some.injEq,Prod.mk.injEq] at h; rw [← h.1.2])
 | .refuse ..,O,σ,σ',e,ps,h=>by simp [Vo] at h
def qwr (P:Program) (hn:Hint) (K:FuncId):Prop:=∀ (O:Orc) (g:Operand) (ps:Array Tmp) (as0 bd:Code) (σ σ':St) (e:Ex) (qs:List Prop),qh4 P (Valid P) K O g ps as0 bd σ=some ((e,σ'),qs)→All qs→
 ∀ (h₀:Ob) (γ₀:Hm) (G₀:Gh) (w₀:World) (a:Act) (w:World) (Q:Exit→Act→World→Prop),Fits h₀ γ₀ G₀ w₀ σ a w→(∀ a' w',Fits h₀ γ₀ G₀ w₀ σ' a' w'→Q (qpV e) a' w')→∀ (nn:Nat),(Code.rangeFunc g ps as0 bd).wpIn (FW none) nn P Q a w
end g
end Go.Rx
end
noncomputable section
namespace Go.Rx
section g
variable {P:Program} {h₀:Ob} {γ₀:Hm} {G₀:Gh} {w₀:World} {hn:Hint} {K:FuncId}
def qup (tmps:Array Value):ResultVar→Sem Value
 | .tmp t=>pure (tmps.getD t undef)
 | .cell b t=>do loadVar t (← asAddr (tmps.getD b undef))
theorem qPa (fn:Func) (tmps:Array Value):results fn tmps=(do let vs ← fn.results.mapM (qup tmps); pure (if h:vs.size=1 then vs[0] else .tuple vs)):=by
 unfold results
 rfl
theorem qlt {σ : St} {γ : Hm} {G : Gh} {a : Act} {w : World} (h : qow h₀ γ₀ G₀ w₀ σ γ G a w) : ∀ (l : List ResultVar) (rs : List AV) (ps : List Prop), Yv P σ l = some (rs, ps) → All ps →
    ∃ vs,(l.mapM (qup a.tmps)).run P w=.ok vs w∧zB σ.ob γ G w rs vs
 | [],rs,ps,hs,_=>by
  simp only [Yv] at hs
  rw [qq hs]
  exact ⟨[],rfl,rfl⟩
 | .tmp t::l,rs,ps,hs,hp=>by
  simp only [Yv] at hs
  split at hs
  ·rename_i x hx
   obtain ⟨hsol,hs⟩:=qO hs
   obtain ⟨xs,p1,p2,e1,e2,hp1,hp2⟩:=qJ hs hp
   rw [qq e2]
   obtain ⟨vs,g1,g2⟩:=qlt h l xs p1 e1 hp1
   obtain ⟨v,g3,g4⟩:=h.slots t x hx
   obtain ⟨c,g5,g6⟩:=qhP hsol g4
   refine ⟨v::vs,?_,by simp only [zB]; exact ⟨c,v,vs,rfl,g5,g6,g2⟩⟩
   have hv:a.tmps.getD t undef=v:=by rw [Array.getD_eq_getD_getElem?,g3]; rfl
   simp only [List.mapM_cons,qup,Sem.run_bind,Sem.run_pure,Result.andThen_ok,hv,g1]
  ·simp at hs
 | .cell b t::l,rs,ps,hs,hp=>by
  simp only [Yv] at hs
  split at hs
  ·rename_i n path off hx
   split at hs
   ·rename_i ro c hg
    obtain ⟨x,p1,p2,e1,e2,hp1,hp2⟩:=qJ hs hp
    obtain ⟨xs,p3,p4,e3,e4,hp3,hp4⟩:=qJ e2 hp2
    rw [qq e4]
    obtain ⟨vs,g1,g2⟩:=qlt h l xs p3 e3 hp3
    obtain ⟨v,g3,g4⟩:=h.slots b _ hx
    have h3:=zx rfl rfl g4
    simp only [qm] at h3
    obtain ⟨h3,_⟩:=h3
    simp only [List.cons.injEq,and_true] at h3
    have h0:=h.heap.obj _ _ hg
    simp only [zq] at h0
    obtain ⟨cs,q1,q2,_⟩:=h0
    obtain ⟨u,q3,q4⟩:=qvK e1 hp1 q2 (XM q1)
    have hfit:∃ d t',fit P d t' x=true:=by
     unfold partAt at e1
     split at e1
     ·obtain ⟨q,e1⟩:=qO e1
      simp only [Bool.and_eq_true,zj] at q
      simp only [Option.some.injEq,Prod.mk.injEq] at e1
      rw [← e1.1]; exact ⟨30,t,q.2.2⟩
     ·simp at e1
    obtain ⟨d,t',hfit⟩:=hfit
    obtain ⟨cc,g5,g6⟩:=qaa hfit q4
    refine ⟨u::vs,?_,by simp only [zB]; exact ⟨cc,u,vs,rfl,g5,g6,g2⟩⟩
    have hv:a.tmps.getD b undef=.pointer (some ⟨(γ n).1,off,none⟩):=by rw [Array.getD_eq_getD_getElem?,g3]; exact h3
    have has:(asAddr (a.tmps.getD b undef)).run P w=.ok ⟨(γ n).1,off,none⟩ w:=by rw [hv]; rfl
    simp only [List.mapM_cons,qup,Sem.run_bind,Sem.run_pure,Result.andThen_ok,has,q3,g1]
   ·simp at hs
  ·simp at hs
theorem qHH {fn : Func} {σ : St} {a : Act} {w : World} {out : Out} {h' : Ob} {ps : List Prop} (hs : qo2 P hn K fn σ = some ((out, h'), ps)) (hp : All ps) (hf : Fits h₀ γ₀ G₀ w₀ σ a w) :
    ∃ r v,out=.ret r∧(results fn a.tmps).run P w=.ok v w∧qbA h₀ γ₀ G₀ w₀ h' r v w:=by
 obtain ⟨γ,G,h⟩:=hf
 unfold qo2 at hs
 obtain ⟨rs,p1,p2,e1,e2,hp1,hp2⟩:=qJ hs hp
 obtain ⟨vs,g1,g2⟩:=qlt h fn.results.toList rs p1 e1 hp1
 simp only at e2
 have key:∀ {rs':List AV} {fz:List Nat} {ps1:List Prop},(match hn.esc K with | true=>some (rs,[],[]) | false=>jZ P σ.ob 30 fn.resultTypes.toList rs)=some (rs',fz,ps1)→All ps1→∃ G2,Ka σ.ob G w γ fz (freeze fz σ.ob) G2∧zB (freeze fz σ.ob) γ G2 w rs' vs:=fun {rs' fz ps1} he hp1=>by
  split at he
  ·simp only [Option.some.injEq,Prod.mk.injEq] at he
   obtain ⟨rfl,rfl,_⟩:=he
   exact ⟨G,Ka.nil h.heap,g2⟩
  ·obtain ⟨G2,F,_⟩:=qmA h.heap ((qp1 (P:=P) _ 30).2 _ _ _ _ _ he)
   exact ⟨G2,F,(qvo F 30).2.2 _ _ _ _ _ _ he (fun _ h=>h) hp1 g2⟩
 split at e2
 ·simp at e2
 ·rename_i rs' fz ps1 he
  split at e2
  ·rename_i hc
   simp only [Bool.and_eq_true] at hc
   simp only [Option.some.injEq,Prod.mk.injEq] at e2
   obtain ⟨⟨rfl,rfl⟩,rfl⟩:=e2
   obtain ⟨G2,F,g3⟩:=key he hp2
   obtain ⟨hcn,hco⟩:=Jj hc.1
   have hsub:∀ l o,get (qD (reach (freeze fz σ.ob) 500 (AV.q9 rs'++σ.keep) []) (freeze fz σ.ob)) l=some o→get (freeze fz σ.ob) l=some o:=fun l o hl=>(Vh hl).2
   have HK:=F.ok.sub hsub hco
   have T1:=(h.tr.then F.tr).drop hsub (fun l o hl=>(Wy _ l).1 (List.all_eq_true.1 hc.2 l (h.keep l o hl)))
   have g4:=qqr hsub hcn g3
   have hrun:(fn.results.mapM (qup a.tmps)).run P w=.ok vs.toArray w:=by
    rw [Array.mapM_eq_mapM_toList]
    simp only [Sem.run_map,g1,Result.andThen_ok]
   refine ⟨_,if hv:vs.toArray.size=1 then vs.toArray[0] else .tuple vs.toArray,rfl,?_,γ,G2,HK,T1,?_⟩
   ·rw [qPa]
    simp only [Sem.run_bind,hrun,Result.andThen_ok,Sem.run_pure]
   ·cases rs' with
    | nil=>
     have:vs=[]:=g4
     subst this
     exact ⟨[],rfl,rfl⟩
    | cons x xs=>
     cases xs with
     | nil=>
      simp only [zB] at g4
      obtain ⟨c,v,r,rfl,q1,q2,rfl⟩:=g4
      exact qeY q1 q2
     | cons y ys=>
      have hl:vs.toArray.size≠1:=by
       simp only [zB] at g4
       obtain ⟨_,_,_,rfl,_,_,_,_,_,rfl,_⟩:=g4
       simp
      rw [dif_neg hl]
      exact ⟨vs,rfl,g4⟩
  ·simp at e2
theorem qCe {F : Fence} {n : Nat} {fn : Func} {tmps : Array Value} {R : Ending → World → Prop} {γ : Hm} {G : Gh} {ob1 : Ob} : ∀ (ds : List Nat) (ob : Ob) (w : World), qL ob γ G w → shut ds ob = some ob1 →
    (∀ w',qL ob1 γ G w'→Trans ob γ G w ob1 γ G w'→LeavesInM F n P fn tmps R [] .returning w')→LeavesInM F n P fn tmps R (ds.map fun d=>({ target:=.collected (γ d).1,args:=#[] }:Deferred)) .returning w
 | [],ob,w,H,hs,hk=>by
  simp only [shut,Option.some.injEq] at hs
  subst hs
  exact hk w H (Trans.refl H)
 | d::r,ob,w,H,hs,hk=>by
  simp only [shut] at hs
  split at hs
  ·rename_i hd
   have h0:=H.obj _ _ hd
   have hlt:=h0.lt trivial
   simp only [zq] at h0
   have hT:=XW H hd (.dfr false) G (w.putObj (γ d).1 (.deferred none)) (by simp [World.putObj]) (fun b hb=>World.putObj_heap_other hb)
    (XS h0.2 fun b' hb'=>World.putObj_heap_other hb') (fun _ _ h h'=>absurd h h') rfl (fun n hn=>by simp [jc.names] at hn) (fun T=>by
     simp only [zq]
     exact ⟨World.putObj_heap_same hlt,h0.2⟩)
   refine ⟨by simp,.inl ⟨_,_,rfl,run_takeDeferred h0.1,?_⟩⟩
   exact qCe r _ _ hT.1 hs fun w' H' T'=>hk w' H' (hT.2.trans H T')
  ·simp at hs
theorem qKp {fn : Func} {σ : St} {a : Act} {w : World} {out : Out} {h' : Ob} {ps : List Prop} (hs : leave P hn K fn σ = some ((out, h'), ps)) (hp : All ps) (hf : Fits h₀ γ₀ G₀ w₀ σ a w)
    {F:Fence} {n:Nat} {R:Ending→World→Prop} (hR:∀ r v w',out=.ret r→qbA h₀ γ₀ G₀ w₀ h' r v w'→R (.returned v) w'):LeavesInM F n P fn a.tmps R a.defers .returning w:=by
 obtain ⟨γ,G,h⟩:=hf
 unfold leave at hs
 split at hs
 ·rename_i ob1 hsh
  rw [h.defers]
  refine qCe σ.dfs σ.ob w h.heap hsh fun w' H' T'=>?_
  have hf':Fits h₀ γ₀ G₀ w₀ { σ with ob:=ob1,dfs:=[],keep:=σ.keep.filter fun n=>!has σ.dfs n } { a with defers:=[] } w':=by
   refine ⟨γ,G,H',fun t x hx=>?_,h.size,h.tr.then T',fun l o hl=>?_,rfl,fun d hd=>by simp at hd,fun d hd=>by simp at hd⟩
   ·obtain ⟨v,g1,g2⟩:=h.slots t x hx
    exact ⟨v,g1,qM.step T' _ _ g2⟩
   ·refine List.mem_filter.2 ⟨h.keep l o hl,?_⟩
    simp only [Bool.not_eq_true']
    cases hb:has σ.dfs l
    ·rfl
    ·have:=(h.dfr l ((Qn _ _).1 hb)).2
     rw [hl] at this; cases this
  obtain ⟨r,v,e1,e2,e3⟩:=qHH hs hp hf'
  exact ⟨v,e2,hR r v w' e1 e3⟩
 ·simp at hs
theorem qCi:∀ (xs:List AV) (n t:Nat),get (number n xs) t=if n≤t then xs[t - n]? else none
 | [],n,t=>by simp [number,get_nil,zK]
 | x::xs,n,t=>by
  simp only [number,get_nil,zK,qCi xs (n + 1) t]
  by_cases h:n=t
  ·subst h; simp
  ·simp only [h,if_false]
   by_cases h2:n≤t
   ·rw [if_pos (by omega),if_pos h2]
    have:t - n=(t - (n + 1)) + 1:=by omega
    rw [this,List.getElem?_cons_succ]
   ·rw [if_neg (by omega),if_neg h2]
theorem qnZ {ob:Ob} {γ:Hm} {G:Gh} {w:World}:∀ {xs ys:List AV} {vs us:List Value},zB ob γ G w xs vs→zB ob γ G w ys us→zB ob γ G w (xs++ys) (vs++us)
 | [],_,vs,_,h,k=>by simp only [zB] at h; subst h; simpa using k
 | x::xs,_,vs,_,h,k=>by
  simp only [zB] at h
  obtain ⟨c,v,r,rfl,h1,h2,h3⟩:=h
  simp only [List.cons_append,zB]
  exact ⟨c,v,_,rfl,h1,h2,qnZ h3 k⟩
theorem qzW {ob:Ob} {γ:Hm} {G:Gh} {w:World}:∀ {xs:List AV} {vs:List Value},zB ob γ G w xs vs→xs.length=vs.length
 | [],vs,h=>by simp only [zB] at h; subst h; rfl
 | x::xs,vs,h=>by
  simp only [zB] at h
  obtain ⟨c,v,r,rfl,_,_,h3⟩:=h
  simp [qzW h3]
end g
end Go.Rx
end
noncomputable section
namespace Go.Rx
section g
variable {P:Program} {hn:Hint} {C:Vn} {K:FuncId}
theorem qJd {mk:Bool} {an:Option Ans} {val val':Operand→AV} (o:Op) (h:∀ x∈o.operands,val x=val' x):q6 P mk an val o=q6 P mk an val' o:=by
 cases o with
 | build t ps=>
  have:(ps.toList.map fun q=>(q.1,val q.2))=(ps.toList.map fun q=>(q.1,val' q.2)):=List.map_congr_left fun q hq=>by
   rw [h q.2 (by simp only [Op.operands]; simpa using ⟨q.1,by simpa using hq⟩)]
  simp only [q6,this]
 | buildSlice t n ps=>
  have:(ps.toList.map fun q=>val q.2)=(ps.toList.map fun q=>val' q.2):=List.map_congr_left fun q hq=>by
   rw [h q.2 (by simp only [Op.operands]; simpa using ⟨q.1,by simpa using hq⟩)]
  simp only [q6,this]
 | makeFunc f a b=>
  have h1:a.toList.map val=a.toList.map val':=List.map_congr_left fun q hq=>h q (by simp only [Op.operands]; simp; exact .inl (by simpa using hq))
  have h2:b.toList.map val=b.toList.map val':=List.map_congr_left fun q hq=>h q (by simp only [Op.operands]; simp; exact .inr (by simpa using hq))
  simp only [q6,h1,h2]
 | slice t x l hi m=>
  have hx:=h x (by simp [Op.operands])
  have hl:l.map val=l.map val':=by cases l with
   | none=>rfl
   | some y=>simp only [Option.map_some]; rw [h y (by simp [Op.operands])]
  have hh:hi.map val=hi.map val':=by cases hi with
   | none=>rfl
   | some y=>simp only [Option.map_some]; rw [h y (by simp [Op.operands])]
  cases m with
  | none=>simp only [q6,hx,hl,hh]
  | some mx=>
   have hm:=h mx (by simp [Op.operands])
   cases hi with
   | none=>simp only [q6]
   | some hi=>
    have hhi:=h hi (by simp [Op.operands])
    simp only [q6,hx,hl,hhi,hm]
 | call c=>
  have h1:c.args.toList.map val=c.args.toList.map val':=List.map_congr_left fun q hq=>h q (by simp only [Op.operands,Call.operands]; simp; exact .inr (by simpa using hq))
  simp only [q6,h1]
 | _=>
  simp only [Op.operands,List.mem_toArray,List.mem_cons,List.not_mem_nil,or_false,forall_eq_or_imp,forall_eq] at h
  simp only [q6,h]
theorem qj8 {val val':Operand→AV} {c:Call} (h:∀ x∈(Op.call c).operands,val x=val' x):c.args.toList.map val=c.args.toList.map val':=
 List.map_congr_left fun q hq=>h q (by simp only [Op.operands,Call.operands]; simp; exact .inr (by simpa using hq))
theorem qIh {an:Option Ans} {val val':Operand→AV} {ob:Ob} (o:Op) (h:∀ x∈o.operands,val x=val' x):jO P an val ob o=jO P an val' ob o:=by
 cases o with
 | call c=>simp only [jO,qj8 h]
 | load t a=>simp only [jO,h a (by simp [Op.operands])]
 | lookup t m k ok=>simp only [jO,h m (by simp [Op.operands]),h k (by simp [Op.operands])]
 | _=>simp only [jO]
theorem qsf {lvl:Nat} {d:Option Tmp} {an:Option Ans} {val val':Operand→AV} {ob:Ob} (o:Op) (h:∀ x∈o.operands,val x=val' x):zd P lvl d an val ob o=zd P lvl d an val' ob o:=by
 cases o with
 | call c=>simp only [zd,qj8 h]
 | buildSlice t n ps=>
  have:(ps.toList.map fun q=>val q.2)=(ps.toList.map fun q=>val' q.2):=List.map_congr_left fun q hq=>by
   rw [h q.2 (by simp only [Op.operands]; simpa using ⟨q.1,by simpa using hq⟩)]
  simp only [zd,this]
 | slice t x l hi m=>
  have hx:=h x (by simp [Op.operands])
  have hl:l.map val=l.map val':=by cases l with
   | none=>rfl
   | some y=>simp only [Option.map_some]; rw [h y (by simp [Op.operands])]
  have hh:hi.map val=hi.map val':=by cases hi with
   | none=>rfl
   | some y=>simp only [Option.map_some]; rw [h y (by simp [Op.operands])]
  cases m<;>simp only [zd,hx,hl,hh]
 | makeMap t r=>cases r<;>simp only [zd]
 | box t x=>simp only [zd,h x (by simp [Op.operands])]
 | makeSlice t n c=>simp only [zd,h n (by simp [Op.operands]),h c (by simp [Op.operands])]
 | store t a x=>simp only [zd,h a (by simp [Op.operands]),h x (by simp [Op.operands])]
 | mapUpdate t m k x=>simp only [zd,h m (by simp [Op.operands]),h k (by simp [Op.operands]),h x (by simp [Op.operands])]
 | insert t m k x=>simp only [zd,h m (by simp [Op.operands]),h k (by simp [Op.operands]),h x (by simp [Op.operands])]
 | mapEntry t m k=>simp only [zd,h m (by simp [Op.operands]),h k (by simp [Op.operands])]
 | entryStore t m s x=>simp only [zd,h m (by simp [Op.operands]),h s (by simp [Op.operands]),h x (by simp [Op.operands])]
 | _=>simp only [zd]
theorem qhE {val val':Operand→AV} {ob:Ob} (o:Op) (h:∀ x∈o.operands,val x=val' x):zS val ob o=zS val' ob o:=by
 cases o with
 | call c=>
  have ha:=qj8 h
  have hx:∀ x∈c.args.toList,val x=val' x:=fun q hq=>h q (by simp only [Op.operands,Call.operands]; simp; exact .inr (by simpa using hq))
  simp only [zS]
  split
  ·split
   ·rename_i a x hl
    rw [hx a (by simp [hl]),hx x (by simp [hl])]
   ·rfl
  ·split
   ·rename_i a r hl
    rw [hx a (by simp [hl])]
   ·rfl
  ·rename_i f hc
   rw [ha,h f (by simp [Op.operands,Call.operands,hc])]
  ·rfl
 | load t a=>simp only [zS,h a (by simp [Op.operands])]
 | store t a x=>simp only [zS,h a (by simp [Op.operands])]
 | lookup t m k ok=>simp only [zS,h m (by simp [Op.operands])]
 | mapUpdate t m k x=>simp only [zS,h m (by simp [Op.operands])]
 | insert t m k x=>simp only [zS,h m (by simp [Op.operands])]
 | mapEntry t m k=>simp only [zS,h m (by simp [Op.operands])]
 | entryStore t m s x=>simp only [zS,h m (by simp [Op.operands])]
 | slice t x l hi m=>simp only [zS,h x (by simp [Op.operands])]
 | buildSlice t n ps=>
  have:(ps.toList.map fun q=>val q.2)=(ps.toList.map fun q=>val' q.2):=List.map_congr_left fun q hq=>by
   rw [h q.2 (by simp only [Op.operands]; simpa using ⟨q.1,by simpa using hq⟩)]
  simp only [zS,this]
 | _=>simp only [zS]
end g
end Go.Rx
end
noncomputable section
namespace Go.Rx
section g
variable {P:Program} {hn:Hint} {C:Vn} {K:FuncId} {O:Orc}
theorem qLI {lvl:Nat} {d:Option Tmp} {an:Option Ans} {val val':Operand→AV} {ob:Ob} (o:Op) (h:∀ x∈o.operands,val x=val' x):ZL P hn C K lvl d an val ob o=ZL P hn C K lvl d an val' ob o:=by
 unfold ZL
 rw [qJd o h,qhE o h,qIh o h]
 cases o with
 | call c=>
  obtain ⟨callee,args,ts⟩:=c
  cases callee with
  | value f=>
   have hf:=h f (by simp [Op.operands,Call.operands])
   have ha:=qj8 h
   simp only at ha
   simp only [hf,ha,qhE _ h]
  | _=>simp only [qsf _ h,qhE _ h]
 | _=>simp only [qsf _ h,qhE _ h]
structure Dl where
 r:AV
 w:Option (List Nat×Ob)
def Dl.app (D:Dl) (d:Option Tmp) (σ:St):St:={ σ with sl:=put d D.r σ.sl,ob:=match D.w with | some (T,h)=>merge T h σ.ob | none=>σ.ob }
def Dl.ok (D:Dl) (ob:Ob):Bool:=match D.w with
 | some (T,h)=>(dom h).all (fun n=>has T n||!has (dom ob) n)&&T.all (fun n=>!has (dom ob) n||has (dom h) n)
 | none=>true
def qes (O:Orc) (key:Nat):Eff→R (Dl×List Nat)
 | .val r=>(YV O key r).with fun r=>qA (⟨r,none⟩,[])
 | .read T r=>(YV O key r).with fun r=>qA (⟨r,none⟩,T)
 | .write T o h=>(qm3 O key h).with fun h=>match o with
  | .ret r=>(YV O key r).with fun r=>qA (⟨r,some (T,h)⟩,T++dom h)
  | .pan _=>none
theorem Kw {α β:Type} {x:R α} {f:α→R β} {a:α} {b:β} {p q:List Prop} (h1:x=some (a,p)) (h2:f a=some (b,q)):x.with f=some (b,p++q):=by
 unfold R.with; rw [h1]; simp only [h2]
theorem Qv {α β:Type} {x:R α} {f:α→R β} {b:β} {qs:List Prop} (h:x.with f=some (b,qs)):∃ a p q,x=some (a,p)∧f a=some (b,q)∧qs=p++q:=by
 unfold R.with at h
 split at h
 ·rename_i a p
  split at h
  ·rename_i b' q hf
   simp only [Option.some.injEq,Prod.mk.injEq] at h
   obtain ⟨rfl,rfl⟩:=h
   exact ⟨a,p,q,rfl,hf,rfl⟩
  ·simp at h
 ·simp at h
theorem qxM {key : Nat} {d : Option Tmp} {σ : St} {e : Eff} {s : SR} {ps : List Prop} :
    jq O key d σ e=some (s,ps)↔∃ D lab,qes O key e=some ((D,lab),ps)∧D.ok σ.ob=true∧qfp σ d=true∧s=.next (D.app d σ) lab:=by
 constructor
 ·intro hs
  cases e with
  | val r=>
   simp only [jq] at hs
   obtain ⟨r',p,q,h1,h2,rfl⟩:=Qv hs
   obtain ⟨hd,h2⟩:=qO h2
   simp only [qA,Option.some.injEq,Prod.mk.injEq] at h2
   obtain ⟨rfl,rfl⟩:=h2
   exact ⟨⟨r',none⟩,[],by simp only [qes]; exact Kw h1 rfl,rfl,hd,rfl⟩
  | read T r=>
   simp only [jq] at hs
   obtain ⟨r',p,q,h1,h2,rfl⟩:=Qv hs
   obtain ⟨hd,h2⟩:=qO h2
   simp only [qA,Option.some.injEq,Prod.mk.injEq] at h2
   obtain ⟨rfl,rfl⟩:=h2
   exact ⟨⟨r',none⟩,T,by simp only [qes]; exact Kw h1 rfl,rfl,hd,rfl⟩
  | write T out h=>
   simp only [jq] at hs
   obtain ⟨h',p,q,h1,h2,rfl⟩:=Qv hs
   obtain ⟨hc,h2⟩:=qO h2
   cases out with
   | pan v=>simp at h2
   | ret r=>
    simp only at h2
    obtain ⟨r',p',q',h3,h4,rfl⟩:=Qv h2
    obtain ⟨hd,h4⟩:=qO h4
    simp only [qA,Option.some.injEq,Prod.mk.injEq] at h4
    obtain ⟨rfl,rfl⟩:=h4
    exact ⟨⟨r',some (T,h')⟩,T++dom h',by simp only [qes]; exact Kw h1 (Kw h3 rfl),hc,hd,rfl⟩
 ·rintro ⟨D,lab,h,hc,hd,rfl⟩
  cases e with
  | val r=>
   simp only [qes] at h
   obtain ⟨r',p,q,h1,h2,rfl⟩:=Qv h
   simp only [qA,Option.some.injEq,Prod.mk.injEq] at h2
   obtain ⟨⟨rfl,rfl⟩,rfl⟩:=h2
   simp only [jq]
   exact Kw h1 (by rw [hd]; rfl)
  | read T r=>
   simp only [qes] at h
   obtain ⟨r',p,q,h1,h2,rfl⟩:=Qv h
   simp only [qA,Option.some.injEq,Prod.mk.injEq] at h2
   obtain ⟨⟨rfl,rfl⟩,rfl⟩:=h2
   simp only [jq]
   exact Kw h1 (by rw [hd]; rfl)
  | write T out hh=>
   simp only [qes] at h
   obtain ⟨h',p,q,h1,h2,rfl⟩:=Qv h
   cases out with
   | pan v=>simp at h2
   | ret r=>
    simp only at h2
    obtain ⟨r',p',q',h3,h4,rfl⟩:=Qv h2
    simp only [qA,Option.some.injEq,Prod.mk.injEq] at h4
    obtain ⟨⟨rfl,rfl⟩,rfl⟩:=h4
    simp only [jq]
    refine Kw h1 ?_
    simp only [Dl.ok] at hc
    rw [hc]
    exact Kw h3 (by rw [hd]; rfl)
end g
end Go.Rx
end
noncomputable section
namespace Go.Rx
section g
variable {P:Program} {hn:Hint} {C:Vn} {K:FuncId} {O:Orc}
def qet (P:Program) (hn:Hint) (C:Vn) (K:FuncId) (O:Orc) (key:Nat) (ops:Array Oper) (o:Oper) (σ:St):R (Dl×List Nat):=
 match qaU ops σ o with
 | some true=>(ZL P hn C K σ.lvl o.dst (get O.an key) (ZC σ) σ.ob o.op).with fun e=>qes O key e
 | some false=>qA (⟨.tup [],none⟩,[])
 | none=>none
theorem qAm {key : Nat} {ops : Array Oper} {o : Oper} {σ : St} {s : SR} {ps : List Prop} : qbw P hn C K O key ops o σ = some (s, ps) ↔
    ∃ D lab,qet P hn C K O key ops o σ=some ((D,lab),ps)∧D.ok σ.ob=true∧qfp σ o.dst=true∧s=.next (D.app o.dst σ) lab:=by
 unfold qbw qet
 cases hw:qaU ops σ o with
 | none=>simp
 | some b=>
  cases b with
  | false=>
   simp only
   constructor
   ·intro h
    obtain ⟨hd,h⟩:=qO h
    simp only [qA,Option.some.injEq,Prod.mk.injEq] at h
    obtain ⟨rfl,rfl⟩:=h
    exact ⟨_,_,rfl,rfl,hd,rfl⟩
   ·rintro ⟨D,lab,h,_,hd,rfl⟩
    simp only [qA,Option.some.injEq,Prod.mk.injEq] at h
    obtain ⟨⟨rfl,rfl⟩,rfl⟩:=h
    rw [hd]; rfl
  | true=>
   simp only
   constructor
   ·intro h
    obtain ⟨e,p,q,h1,h2,rfl⟩:=Qv h
    obtain ⟨D,lab,h3,h4,h5,h6⟩:=qxM.1 h2
    exact ⟨D,lab,Kw h1 h3,h4,h5,h6⟩
   ·rintro ⟨D,lab,h,h4,h5,h6⟩
    obtain ⟨e,p,q,h1,h2,rfl⟩:=Qv h
    exact Kw h1 (qxM.2 ⟨D,lab,h2,h4,h5,h6⟩)
theorem qri (ob:Ob):∀ (n:Nat) (todo seen:List Nat),∀ l∈seen,l∈reach ob n todo seen
 | 0,_,_,l,hl=>hl
 | n + 1,[],seen,l,hl=>hl
 | n + 1,a::todo,seen,l,hl=>by
  simp only [reach]
  split
  ·exact qri ob n todo seen l hl
  ·exact qri ob n _ _ l (by simp [hl])
theorem qoH {ob ob':Ob}:∀ (n:Nat) (todo seen:List Nat),(∀ l∈reach ob n todo seen,get ob' l=get ob l)→reach ob' n todo seen=reach ob n todo seen
 | 0,_,_,_=>rfl
 | n + 1,[],seen,_=>rfl
 | n + 1,a::todo,seen,h=>by
  simp only [reach] at h ⊢
  split
  ·rename_i hs; simp only [hs] at h; exact qoH n todo seen h
  ·rename_i hs
   simp only [hs] at h
   have ha:=h a (qri ob n _ _ a (by simp))
   have:qrl ob' a=qrl ob a:=by simp only [qrl,ha]
   rw [this]
   exact qoH n _ _ h
theorem qLB {val:Operand→AV} {ob ob':Ob} (o:Op) (h:∀ l∈zS val ob o,get ob' l=get ob l):zS val ob' o=zS val ob o:=by
 cases o with
 | call c=>
  simp only [zS] at h ⊢
  split at h<;>try rfl
  ·rename_i f hc
   exact qoH _ _ _ h
 | _=>rfl
theorem qEd {α:Type} {T:List Nat} {h h':List (Nat×α)} (hs:Srt h) (hs':Srt h') (ha:∀ l∈T,get h' l=get h l):qD T h'=qD T h:=by
 refine Srt.ext (by rw [qaT]; exact hs'.filter _) (by rw [qaT]; exact hs.filter _) fun k=>?_
 rw [vG,vG]
 cases hk:has T k
 ·rfl
 ·simp only [if_true]; exact ha k ((Qn T k).1 hk)
theorem qKZ {lvl : Nat} {d : Option Tmp} {an : Option Ans} {val : Operand → AV} {ob ob' : Ob} {o : Op} {e : Eff} {ps : List Prop} (hs : Srt ob) (hs' : Srt ob') (he : ZL P hn C K lvl d an val ob o = some (e, ps))
    (ha:(∃ r,e=.val r)∨∀ l∈zS val ob o,get ob' l=get ob l):ZL P hn C K lvl d an val ob' o=some (e,ps):=by
 unfold ZL at he ⊢
 split at he
 ·rename_i r ps' hq
  exact he
 ·rename_i hq
  have hno:¬ ∃ r,e=.val r:=by
   rintro ⟨r,rfl⟩
   repeat' split at he
   all_goals simp at he
  have ha:=ha.resolve_left hno
  have ht:=qLB o ha
  have hk:=qEd hs hs' ha
  cases o with
  | call c=>
   obtain ⟨callee,args,ts⟩:=c
   cases callee<;>(simp only at he ⊢; rw [ht,hk]; exact he)
  | _=>simp only at he ⊢; rw [ht,hk]; exact he
end g
end Go.Rx
end
noncomputable section
namespace Go.Rx
section g
variable {P:Program} {hn:Hint} {C:Vn} {K:FuncId} {O:Orc}
theorem qNU {σ τ:St} {x:Operand} (h:∀ t,x=.tmp t→get τ.sl t=get σ.sl t):ZC τ x=ZC σ x:=by
 cases x with
 | tmp t=>simp only [ZC,h t rfl]
 | _=>rfl
theorem qH8 {ops:Array Oper} {o:Oper} {σ τ:St} (h:∀ t∈looks ops o,get τ.sl t=get σ.sl t):qaU ops τ o=qaU ops σ o:=by
 unfold qaU
 split
 ·rfl
 ·rename_i j want hg
  split
  ·rename_i t _ _ _ _ _ hj
   have:get τ.sl t=get σ.sl t:=h t (by simp [looks,hg,hj])
   rw [this]
  ·rfl
theorem qhW {key : Nat} {e : Eff} {D : Dl} {lab : List Nat} {ps : List Prop} (h : qes O key e = some ((D, lab), ps)) :
    ((∃ r,e=.val r)∧D.w=none∧lab=[])∨(∃ T r,e=.read T r∧D.w=none∧lab=T)∨(∃ T o h h',e=.write T o h∧D.w=some (T,h')∧lab=T++dom h'):=by
 cases e with
 | val r=>
  simp only [qes] at h
  obtain ⟨r',p,q,h1,h2,rfl⟩:=Qv h
  simp only [qA,Option.some.injEq,Prod.mk.injEq] at h2
  obtain ⟨⟨rfl,rfl⟩,rfl⟩:=h2
  exact .inl ⟨⟨r,rfl⟩,rfl,rfl⟩
 | read T r=>
  simp only [qes] at h
  obtain ⟨r',p,q,h1,h2,rfl⟩:=Qv h
  simp only [qA,Option.some.injEq,Prod.mk.injEq] at h2
  obtain ⟨⟨rfl,rfl⟩,rfl⟩:=h2
  exact .inr (.inl ⟨_,r,rfl,rfl,rfl⟩)
 | write T out hh=>
  simp only [qes] at h
  obtain ⟨h',p,q,h1,h2,rfl⟩:=Qv h
  cases out with
  | pan v=>simp at h2
  | ret r=>
   simp only at h2
   obtain ⟨r',p',q',h3,h4,rfl⟩:=Qv h2
   simp only [qA,Option.some.injEq,Prod.mk.injEq] at h4
   obtain ⟨⟨rfl,rfl⟩,rfl⟩:=h4
   exact .inr (.inr ⟨_,_,_,_,rfl,rfl,rfl⟩)
theorem qK3 {lvl : Nat} {d : Option Tmp} {an : Option Ans} {val : Operand → AV} {ob : Ob} {o : Op} {e : Eff} {ps : List Prop} (he : ZL P hn C K lvl d an val ob o = some (e, ps)) :
    (∃ r,e=.val r)∨(∃ r,e=.read (zS val ob o) r)∨(∃ out h,e=.write (zS val ob o) out h):=by
 unfold ZL at he
 repeat' split at he
 all_goals first
  | (simp at he; done)
  | (simp only [Option.some.injEq,Prod.mk.injEq] at he; obtain ⟨rfl,_⟩:=he; first | exact .inl ⟨_,rfl⟩ | exact .inr (.inl ⟨_,rfl⟩) | exact .inr (.inr ⟨_,_,rfl⟩))
theorem qFf {key:Nat} {ops:Array Oper} {o:Oper} {σ:St} {D:Dl} {lab:List Nat} {ps:List Prop} (h:qet P hn C K O key ops o σ=some ((D,lab),ps)):∀ T hh,D.w=some (T,hh)→lab=T++dom hh:=by
 unfold qet at h
 split at h
 ·obtain ⟨e,p,q,h1,h2,rfl⟩:=Qv h
  rcases qhW h2 with ⟨_,hw,_⟩ | ⟨_,_,_,hw,_⟩ | ⟨T,o',h',h'',_,hw,hl⟩
  ·intro T hh h; rw [hw] at h; simp at h
  ·intro T hh h; rw [hw] at h; simp at h
  ·intro T' hh h; rw [hw] at h; simp only [Option.some.injEq,Prod.mk.injEq] at h; obtain ⟨rfl,rfl⟩:=h; exact hl
 ·simp only [qA,Option.some.injEq,Prod.mk.injEq] at h
  obtain ⟨⟨rfl,rfl⟩,_⟩:=h
  intro T hh h; simp at h
 ·simp at h
theorem qyi {key : Nat} {ops : Array Oper} {o : Oper} {σ τ : St} {D : Dl} {lab : List Nat} {ps : List Prop} (h : qet P hn C K O key ops o σ = some ((D, lab), ps))
    (hl:τ.lvl=σ.lvl) (ht:∀ t∈looks ops o,get τ.sl t=get σ.sl t) (hs:Srt σ.ob) (hs':Srt τ.ob) (ha:∀ l∈lab,get τ.ob l=get σ.ob l):qet P hn C K O key ops o τ=some ((D,lab),ps):=by
 unfold qet at h ⊢
 rw [qH8 ht]
 split at h
 ·obtain ⟨e,p,q,h1,h2,rfl⟩:=Qv h
  refine Kw ?_ h2
  rw [hl,qLI (val:=ZC τ) (val':=ZC σ) o.op (fun x hx=>qNU fun t e=>ht t (by
   subst e
   exact List.mem_append_left _ (List.mem_filterMap.2 ⟨.tmp t,by simpa using hx,rfl⟩)))]
  refine qKZ hs hs' h1 ?_
  rcases qK3 h1 with hv | ⟨r,rfl⟩ | ⟨out,hh,rfl⟩
  ·exact .inl hv
  ·refine .inr fun l hl=>ha l ?_
   rcases qhW h2 with ⟨⟨_,he⟩,_⟩ | ⟨T,r',he,_,rfl⟩ | ⟨T,o',h',h'',he,_⟩
   ·simp at he
   ·simp only [Eff.read.injEq] at he; rw [← he.1]; exact hl
   ·simp at he
  ·refine .inr fun l hl=>ha l ?_
   rcases qhW h2 with ⟨⟨_,he⟩,_⟩ | ⟨T,r',he,_,rfl⟩ | ⟨T,o',h',h'',he,_,rfl⟩
   ·simp at he
   ·simp at he
   ·simp only [Eff.write.injEq] at he; rw [← he.1]; exact List.mem_append_left _ hl
 ·exact h
 ·simp at h
theorem qhs {key:Nat} {ops:Array Oper} {o:Oper} {σ:St} {D:Dl} {lab:List Nat} {ps:List Prop} (h:qet P hn C K O key ops o σ=some ((D,lab),ps)) (hh:Zl o.op=true):D.w=none∧lab=[]:=by
 unfold qet at h
 split at h
 ·obtain ⟨e,p,q,h1,h2,rfl⟩:=Qv h
  have hv:∃ r,e=.val r:=by
   obtain ⟨dst,op,ty,pos,af,gd⟩:=o
   simp only at hh h1
   unfold ZL at h1
   split at h1
   ·simp only [Option.some.injEq,Prod.mk.injEq] at h1
    exact ⟨_,h1.1.symm⟩
   ·exfalso
    cases op<;>simp only [Zl] at hh<;>first | (cases hh; done) | (simp [jO,zd] at h1)
  obtain ⟨r,rfl⟩:=hv
  rcases qhW h2 with ⟨_,hw,hl⟩ | ⟨_,_,he,_⟩ | ⟨_,_,_,_,he,_⟩
  ·exact ⟨hw,hl⟩
  ·simp at he
  ·simp at he
 ·simp only [qA,Option.some.injEq,Prod.mk.injEq] at h
  obtain ⟨⟨rfl,rfl⟩,_⟩:=h
  exact ⟨rfl,rfl⟩
 ·simp at h
theorem qx0 {key:Nat} {ops:Array Oper} {o:Oper} {σ:St} {D:Dl} {lab:List Nat} {ps:List Prop} (h:qet P hn C K O key ops o σ=some ((D,lab),ps)) (hh:Qs o.op=true):D.w=none:=by
 by_cases hl:Zl o.op=true
 ·exact (qhs h hl).1
 unfold qet at h
 split at h
 ·obtain ⟨e,p,q,h1,h2,rfl⟩:=Qv h
  have hv:∀ T o h,e≠.write T o h:=by
   intro T out hx he
   subst he
   obtain ⟨dst,op,ty,pos,af,gd⟩:=o
   simp only at hh h1 hl
   unfold ZL at h1
   split at h1
   ·simp at h1
   split at h1
   ·simp at h1
   cases op with
   | load=>simp [zd] at h1
   | lookup=>simp [zd] at h1
   | call c=>
    obtain ⟨callee,args,ts⟩:=c
    cases callee with
    | builtin b=>cases b<;>simp only [Qs,Zl] at hh<;>first | (cases hh; done) | (simp [zd] at h1)
    | _=>simp [Qs,Zl] at hh
   | _=>simp only [Qs] at hh; exact hl hh
  rcases qhW h2 with ⟨_,hw,hl⟩ | ⟨_,_,he,hw,_⟩ | ⟨_,_,_,_,he,_⟩
  ·exact hw
  ·exact hw
  ·exact absurd he (hv _ _ _)
 ·simp only [qA,Option.some.injEq,Prod.mk.injEq] at h
  obtain ⟨⟨rfl,rfl⟩,_⟩:=h
  rfl
 ·simp at h
theorem qMQ (d:Option Tmp) (r:AV) (sl:Sl) (t:Tmp):get (put d r sl) t=if d=some t then some r else get sl t:=by
 cases d with
 | none=>simp [put]
 | some d=>simp only [put,qT,Option.some.injEq]
theorem Srt.put {sl:Sl} (h:Srt sl) (d:Option Tmp) (r:AV):Srt (Rx.put d r sl):=by
 cases d with
 | none=>exact h
 | some d=>exact (h.ins d r).1
theorem Srt.merge {ob:Ob} (hs:Srt ob) (T:List Nat) (h:Ob):Srt (Rx.merge T h ob):=Srt.WS (hs.filter _) h
theorem Dl.qeU {D:Dl} {d:Option Tmp} {σ:St} (h1:Srt σ.sl) (h2:Srt σ.ob):Srt (D.app d σ).sl∧Srt (D.app d σ).ob:=by
 refine ⟨h1.put d D.r,?_⟩
 unfold Dl.app
 cases hw:D.w with
 | none=>exact h2
 | some x=>exact h2.merge _ _
theorem Dl.qkj {D:Dl} {d:Option Tmp} {σ:St} {l:Nat} (h:∀ T hh,D.w=some (T,hh)→l∉T++dom hh):get (D.app d σ).ob l=get σ.ob l:=by
 unfold Dl.app
 cases hw:D.w with
 | none=>rfl
 | some x=>
  obtain ⟨T,hh⟩:=x
  have:=h T hh hw
  simp only [List.mem_append,not_or] at this
  simp only [get_merge]
  have h1:get hh l=none:=(Yt hh l).1 (by
   cases hb:has (dom hh) l
   ·rfl
   ·exact absurd ((Qn _ _).1 hb) this.2)
  have h2:has T l=false:=by
   cases hb:has T l
   ·rfl
   ·exact absurd ((Qn _ _).1 hb) this.1
  rw [h1,h2]; rfl
def qyM (D:Dl) (l:List Nat) (E:Dl) (m:List Nat):Prop:=(D.w=none∧(l=[]∨E.w=none))∨(E.w=none∧(m=[]∨D.w=none))∨qzo l m=true
theorem qqY {a b:List Nat}:qzo a b=true↔∀ n∈a,n∉b:=by
 simp only [qzo,List.all_eq_true,Bool.not_eq_true']
 exact ⟨fun h n hn hb=>by have:=h n hn; rw [(Qn b n).2 hb] at this; simp at this,fun h n hn=>by
  cases hb:has b n
  ·rfl
  ·exact absurd ((Qn b n).1 hb) (h n hn)⟩
theorem qyM.symm {D E:Dl} {l m:List Nat} (h:qyM D l E m):qyM E m D l:=by
 rcases h with h | h | h
 ·exact .inr (.inl h)
 ·exact .inl h
 ·exact .inr (.inr (qqY.2 fun n hn hm=>qqY.1 h n hm hn))
theorem qyM.agree {D E:Dl} {l m:List Nat} (h:qyM D l E m) (hD:∀ T hh,D.w=some (T,hh)→l=T++dom hh) {d:Option Tmp} {σ:St}:∀ n∈m,get (D.app d σ).ob n=get σ.ob n:=by
 intro n hn
 refine Dl.qkj fun T hh hw hmem=>?_
 rw [← hD T hh hw] at hmem
 rcases h with ⟨h,_⟩ | ⟨_,h⟩ | h
 ·rw [hw] at h; simp at h
 ·rcases h with h | h
  ·rw [h] at hn; simp at hn
  ·rw [hw] at h; simp at h
 ·exact qqY.1 h n hmem hn
theorem qEI {ob ob':Ob} {n:Nat} (h:get ob' n=get ob n):has (dom ob') n=has (dom ob) n:=by
 cases hb:get ob n with
 | none=>rw [(Yt ob n).2 hb,(Yt ob' n).2 (by rw [h,hb])]
 | some x=>rw [(Wy ob n).2 ⟨x,hb⟩,(Wy ob' n).2 ⟨x,by rw [h,hb]⟩]
theorem qsm {l:List Nat} {p q:Nat→Bool} (h:∀ x∈l,p x=q x):l.all p=l.all q:=by
 induction l with
 | nil=>rfl
 | cons a r ih=>simp only [List.all_cons,h a (by simp),ih fun x hx=>h x (by simp [hx])]
theorem Dl.qHI {D:Dl} {lab:List Nat} {ob ob':Ob} (hD:∀ T hh,D.w=some (T,hh)→lab=T++dom hh) (h:∀ n∈lab,get ob' n=get ob n):D.ok ob'=D.ok ob:=by
 unfold Dl.ok
 cases hw:D.w with
 | none=>rfl
 | some x=>
  obtain ⟨T,hh⟩:=x
  have hl:=hD T hh hw
  simp only
  congr 1
  ·refine qsm fun n hn=>?_
   rw [qEI (h n (by rw [hl]; simp [hn]))]
  ·refine qsm fun n hn=>?_
   rw [qEI (h n (by rw [hl]; simp [hn]))]
theorem qUI {D E : Dl} {l m : List Nat} {d e : Option Tmp} {σ : St} (h : qyM D l E m) (hD : ∀ T hh, D.w = some (T, hh) → l = T ++ dom hh) (hE : ∀ T hh, E.w = some (T, hh) → m = T ++ dom hh)
    (hde:∀ t,d=some t→e≠some t) (h1:Srt σ.sl) (h2:Srt σ.ob):E.app e (D.app d σ)=D.app d (E.app e σ):=by
 have a1:=Dl.qeU (D:=D) (d:=d) h1 h2
 have a2:=Dl.qeU (D:=E) (d:=e) h1 h2
 have b1:=Dl.qeU (D:=E) (d:=e) a1.1 a1.2
 have b2:=Dl.qeU (D:=D) (d:=d) a2.1 a2.2
 have hsl:(E.app e (D.app d σ)).sl=(D.app d (E.app e σ)).sl:=by
  refine Srt.ext b1.1 b2.1 fun t=>?_
  simp only [Dl.app,qMQ]
  by_cases x1:e=some t
  ·by_cases x2:d=some t
   ·exact absurd x1 (hde t x2)
   ·rw [if_pos x1,if_neg x2,if_pos x1]
  ·rw [if_neg x1,if_neg x1]
 have hob:(E.app e (D.app d σ)).ob=(D.app d (E.app e σ)).ob:=by
  refine Srt.ext b1.2 b2.2 fun n=>?_
  by_cases hn:∃ T hh,D.w=some (T,hh)∧n∈T++dom hh
  ·obtain ⟨T,hh,hw,hm⟩:=hn
   have hnl:n∈l:=by rw [hD T hh hw]; exact hm
   have hE0:∀ T' hh',E.w=some (T',hh')→n∉T'++dom hh':=by
    intro T' hh' hw' hm'
    rw [← hE T' hh' hw'] at hm'
    rcases h with ⟨h,_⟩ | ⟨h,_⟩ | h
    ·rw [hw] at h; simp at h
    ·rw [hw'] at h; simp at h
    ·exact qqY.1 h n hnl hm'
   rw [Dl.qkj hE0]
   have:∀ τ:St,get (D.app d τ).ob n=match get hh n with | some x=>some x | none=>if has T n then none else get τ.ob n:=by
    intro τ; simp only [Dl.app,hw,get_merge]; try (cases get hh n<;>rfl)
   rw [this,this]
   have:=Dl.qkj (d:=e) (σ:=σ) hE0
   rw [this]
  ·have hD0:∀ T hh,D.w=some (T,hh)→n∉T++dom hh:=fun T hh hw hm=>hn ⟨T,hh,hw,hm⟩
   rw [Dl.qkj (σ:=E.app e σ) hD0]
   cases hw:E.w with
   | none=>simp only [Dl.app,hw]; exact Dl.qkj (d:=d) hD0
   | some x=>
    obtain ⟨T,hh⟩:=x
    have:∀ τ:St,get (E.app e τ).ob n=match get hh n with | some x=>some x | none=>if has T n then none else get τ.ob n:=by
     intro τ; simp only [Dl.app,hw,get_merge]; try (cases get hh n<;>rfl)
    rw [this,this,Dl.qkj (d:=d) hD0]
 calc E.app e (D.app d σ)={ σ with sl:=(E.app e (D.app d σ)).sl,ob:=(E.app e (D.app d σ)).ob }:=rfl
  _={ σ with sl:=(D.app d (E.app e σ)).sl,ob:=(D.app d (E.app e σ)).ob }:=by rw [hsl,hob]
  _=D.app d (E.app e σ):=rfl
end g
end Go.Rx
end
noncomputable section
namespace Go.Rx
section g
variable {P:Program} {hn:Hint} {K:FuncId} {O:Orc}
def Run (P:Program) (hn:Hint) (K:FuncId) (O:Orc) (ops:Array Oper) (base:Nat) (lab:Nat→List Nat):List Nat→St→St→Prop
 | [],σ,σ'=>σ=σ'
 | i::l,σ,σ'=>∃ o D ps,ops[i]?=some o∧qet P hn (Valid P) K O (base + i) ops o σ=some ((D,lab i),ps)∧All ps∧D.ok σ.ob=true∧qfp σ o.dst=true∧Run P hn K O ops base lab l (D.app o.dst σ) σ'
def Apt (ops:Array Oper) (lab:Nat→List Nat) (i j:Nat):Prop:=∀ x y,ops[i]?=some x→ops[j]?=some y→qc4 ops x y=true∧
 (Zl x.op=true∨Zl y.op=true∨(Qs x.op=true∧Qs y.op=true)∨qzo (lab i) (lab j)=true)
theorem qBx {ops : Array Oper} {x y : Oper} (h : qc4 ops x y = true) :
    (∀ t,x.dst=some t→t∉looks ops y)∧(∀ t,x.dst=some t→y.dst≠some t)∧(∀ t,y.dst=some t→t∉looks ops x):=by
 unfold qc4 at h
 simp only [Bool.and_eq_true] at h
 refine ⟨fun t ht=>?_,fun t ht=>?_,fun t ht=>?_⟩
 ·have:=h.1; simp only [ht,Bool.and_eq_true,Bool.not_eq_true'] at this
  intro hm; rw [(Qn _ _).2 hm] at this; simp at this
 ·have:=h.1; simp only [ht,Bool.and_eq_true,Bool.not_eq_true'] at this
  intro hm; simp [hm] at this
 ·have:=h.2; simp only [ht,Bool.not_eq_true'] at this
  intro hm; rw [(Qn _ _).2 hm] at this; simp at this
theorem qES {D:Dl} {d:Option Tmp} {σ:St} {ts:List Tmp} (h:∀ t,d=some t→t∉ts):∀ t∈ts,get (D.app d σ).sl t=get σ.sl t:=by
 intro t ht
 simp only [Dl.app,qMQ]
 rw [if_neg (fun e=>h t e ht)]
theorem Run.swap {ops : Array Oper} {base : Nat} {lab : Nat → List Nat} {i j : Nat} {l : List Nat} {σ σ' : St} (ha : Apt ops lab i j) (h1 : Srt σ.sl) (h2 : Srt σ.ob)
    (h:Run P hn K O ops base lab (i::j::l) σ σ'):Run P hn K O ops base lab (j::i::l) σ σ':=by
 obtain ⟨x,D,p,hx,sx,px,okx,dx,y,E,q,hy,sy,py,oky,dy,rest⟩:=h
 obtain ⟨hsl,hheap⟩:=ha x y hx hy
 obtain ⟨c1,c2,c3⟩:=qBx hsl
 have hM:qyM D (lab i) E (lab j):=by
  rcases hheap with h | h | ⟨h,h'⟩ | h
  ·have:=qhs sx h; exact .inl ⟨this.1,.inl this.2⟩
  ·have:=qhs sy h; exact .inr (.inl ⟨this.1,.inl this.2⟩)
  ·exact .inl ⟨qx0 sx h,.inr (qx0 sy h')⟩
  ·exact .inr (.inr h)
 have lD:=qFf sx
 have lE:=qFf sy
 have s1:=Dl.qeU (D:=D) (d:=x.dst) h1 h2
 have s2:=Dl.qeU (D:=E) (d:=y.dst) h1 h2
 have agE:=hM.agree lD (d:=x.dst) (σ:=σ)
 have agD:=hM.symm.agree lE (d:=y.dst) (σ:=σ)
 refine ⟨y,E,q,hy,?_,py,?_,dy,x,D,p,hx,?_,px,?_,dx,?_⟩
 ·exact qyi sy rfl (fun t ht=>(qES c1 t ht).symm) s1.2 h2 (fun n hn=>(agE n hn).symm)
 ·rw [← Dl.qHI lE agE]; exact oky
 ·exact qyi sx rfl (qES c3) h2 s2.2 agD
 ·rw [Dl.qHI lD agD]; exact okx
 ·rw [← qUI hM lD lE (fun t e=>c2 t e) h1 h2]; exact rest
theorem Run.front {ops : Array Oper} {base : Nat} {lab : Nat → List Nat} {j : Nat} {l₂ : List Nat} {σ' : St} : ∀ (l₁ : List Nat) (σ : St), (∀ i ∈ l₁, Apt ops lab i j) → Srt σ.sl → Srt σ.ob →
    Run P hn K O ops base lab (l₁++j::l₂) σ σ'→Run P hn K O ops base lab (j::(l₁++l₂)) σ σ'
 | [],_,_,_,_,h=>h
 | i::l₁,σ,ha,h1,h2,h=>by
  refine Run.swap (ha i (by simp)) h1 h2 ?_
  obtain ⟨x,D,p,hx,sx,px,okx,dx,rest⟩:=h
  have s1:=Dl.qeU (D:=D) (d:=x.dst) h1 h2
  exact ⟨x,D,p,hx,sx,px,okx,dx,Run.front l₁ _ (fun k hk=>ha k (by simp [hk])) s1.1 s1.2 rest⟩
theorem qHJ {ops : Array Oper} {base : Nat} {lab : Nat → List Nat} : ∀ (l : List Oper) (k : Nat) (σ : St) (e : Ex) (σ' : St) (labs : List (List Nat)) (ps : List Prop), (∀ j, l[j]? = ops[k + j]?) → (∀ j, lab (k + j) = labs.getD j []) →
    qbK P hn (Valid P) K O ops (base + k) l σ=some ((e,σ',labs),ps)→All ps→Run P hn K O ops base lab (List.range' k l.length) σ σ'
 | [],k,σ,e,σ',labs,ps,hl,hb,hs,hp=>by
  have:=qq hs
  simp only [Prod.mk.injEq] at this
  exact this.2.1.symm
 | o::l,k,σ,e,σ',labs,ps,hl,hb,hs,hp=>by
  simp only [qbK] at hs
  obtain ⟨s,p1,p2,e1,e2,hp1,hp2⟩:=qJ hs hp
  obtain ⟨D,lb,hD,ok1,ok2,rfl⟩:=qAm.1 e1
  simp only at e2
  obtain ⟨⟨e',σ2,labs'⟩,p3,p4,e3,e4,hp3,hp4⟩:=qJ e2 hp2
  have:=qq e4
  simp only [Prod.mk.injEq] at this
  obtain ⟨rfl,rfl,rfl⟩:=this
  have h0:ops[k]?=some o:=by simpa using (hl 0).symm
  have hlab:lab k=lb:=by simpa using hb 0
  simp only [List.length_cons,List.range'_succ]
  refine ⟨o,D,p1,h0,by rw [hlab]; exact hD,hp1,ok1,ok2,?_⟩
  refine qHJ l (k + 1) _ e σ' labs' p3 (fun j=>?_) (fun j=>?_) e3 hp3
  ·have:=hl (j + 1); simpa [Nat.add_assoc,Nat.add_comm 1 j] using this
  ·have:=hb (j + 1); simpa [Nat.add_assoc,Nat.add_comm 1 j] using this
def Qp (acc:List (List Nat)) (o:Oper):List Nat:=o.after.toList.foldl (fun s e=>if Region.binds .any e then (e.on::(acc.getD e.on []))++s else s) []
theorem qxT (l:List Oper):∀ acc:List (List Nat),∃ post,l.foldl (fun acc o=>acc++[Qp acc o]) acc=acc++post:=by
 induction l with
 | nil=>exact fun acc=>⟨[],by simp⟩
 | cons o l ih=>
  intro acc
  obtain ⟨post,h⟩:=ih (acc++[Qp acc o])
  exact ⟨Qp acc o::post,by simp only [List.foldl_cons,h]; simp⟩
theorem qNb:∀ (l:List Oper) (acc:List (List Nat)) (j:Nat) (o:Oper),l[j]?=some o→∃ pre post,l.foldl (fun acc o=>acc++[Qp acc o]) acc=pre++Qp pre o::post∧pre.length=acc.length + j
 | [],_,_,_,h=>by simp at h
 | o'::l,acc,0,o,h=>by
  simp only [List.length_cons,Nat.zero_lt_succ,List.getElem?_cons_zero,Option.some.injEq] at h
  subst h
  obtain ⟨post,h⟩:=qxT l (acc++[Qp acc o'])
  exact ⟨acc,post,by simp only [List.foldl_cons,h]; simp,rfl⟩
 | o'::l,acc,j + 1,o,h=>by
  obtain ⟨pre,post,h1,h2⟩:=qNb l (acc++[Qp acc o']) j o (by simpa using h)
  exact ⟨pre,post,by simp only [List.foldl_cons,h1],by simp at h2; omega⟩
theorem qTD {acc:List (List Nat)} {k:Nat} (es:List Edge):∀ s,k∈es.foldl (fun s e=>if Region.binds .any e then (e.on::(acc.getD e.on []))++s else s) s→k∈s∨∃ e∈es,Region.binds .any e=true∧(k=e.on∨k∈acc.getD e.on []):=by
 induction es with
 | nil=>intro s h; exact .inl h
 | cons e es ih=>
  intro s h
  simp only [List.foldl_cons] at h
  rcases ih _ h with h | ⟨e',h1,h2⟩
  ·split at h
   ·rename_i hb
    simp only [List.cons_append,List.mem_cons,List.mem_append] at h
    rcases h with h | h | h
    ·exact .inr ⟨e,by simp,hb,.inl h⟩
    ·exact .inr ⟨e,by simp,hb,.inr h⟩
    ·exact .inl h
   ·exact .inl h
  ·exact .inr ⟨e',by simp [h1],h2⟩
theorem qOr {ops:Array Oper} {i k:Nat} {o:Oper} (ho:ops[i]?=some o) (h:k∈(qco ops).getD i []):∃ e∈o.after.toList,Region.binds .any e=true∧(k=e.on∨k∈(qco ops).getD e.on []):=by
 obtain ⟨pre,post,h1,h2⟩:=qNb ops.toList [] i o (by simpa using ho)
 have h1:qco ops=pre++Qp pre o::post:=h1
 simp only [List.length_nil,Nat.zero_add] at h2
 rw [h1] at h
 have:(pre++Qp pre o::post).getD i []=Qp pre o:=by
  rw [List.getD_eq_getElem?_getD,List.getElem?_append_right (by omega)]; simp [h2]
 rw [this] at h
 rcases qTD _ _ h with h | ⟨e,he,hb,h⟩
 ·simp at h
 ·refine ⟨e,he,hb,h.imp id fun h=>?_⟩
  rw [h1,List.getD_eq_getElem?_getD]
  rw [List.getD_eq_getElem?_getD] at h
  by_cases hlt:e.on < pre.length
  ·rw [List.getElem?_append_left hlt]; exact h
  ·rw [List.getElem?_eq_none (by omega)] at h; simp at h
theorem qJ7 {a:Array Bool} {i k:Nat} {d:Bool} (hi:i < a.size):(a.setIfInBounds i true).getD k d=if k=i then true else a.getD k d:=by
 rw [Array.getD_eq_getD_getElem?,Array.getD_eq_getD_getElem?,Array.getElem?_setIfInBounds]
 by_cases h:i=k
 ·subst h; simp [hi]
 ·rw [if_neg h,if_neg (fun e=>h e.symm)]
theorem qEJ {a:Array Bool} {k:Nat} (hk:k < a.size):a.getD k true=a.getD k false:=by
 rw [Array.getD_eq_getD_getElem?,Array.getD_eq_getD_getElem?,Array.getElem?_eq_getElem hk]; rfl
def rest (n:Nat) (listed:Array Bool):List Nat:=(List.range n).filter fun i=>!listed.getD i true
theorem qlc {n:Nat} {listed:Array Bool} {i:Nat}:i∈rest n listed↔i < n∧listed.getD i true=false:=by
 simp [rest]
theorem qnF (n:Nat) (listed:Array Bool):(rest n listed).Pairwise (· < ·):=List.Pairwise.filter _ List.pairwise_lt_range
theorem qT4 {n i:Nat} {listed:Array Bool} {l₁ l₂:List Nat} (hi:i < listed.size) (h:rest n listed=l₁++i::l₂):rest n (listed.setIfInBounds i true)=l₁++l₂:=by
 have h1:rest n (listed.setIfInBounds i true)=(rest n listed).filter fun k=>decide (k≠i):=by
  unfold rest
  rw [List.filter_filter]
  congr 1
  funext k
  rw [qJ7 hi]
  by_cases e:k=i<;>simp [e]
 have hs:=qnF n listed
 rw [h] at hs
 rw [h1,h,List.filter_append,List.filter_cons]
 simp only [ne_eq,not_true_eq_false,decide_false,Bool.false_eq_true,if_false]
 rw [List.pairwise_append] at hs
 have f1:l₁.filter (fun k=>decide (¬ k=i))=l₁:=List.filter_eq_self.2 fun k hk=>by
  have:=hs.2.2 k hk i (by simp); simp; omega
 have f2:l₂.filter (fun k=>decide (¬ k=i))=l₂:=List.filter_eq_self.2 fun k hk=>by
  have:=(List.pairwise_cons.1 hs.2.1).1 k hk; simp; omega
 rw [f1,f2]
section any
variable {ops:Array Oper} {base:Nat} {lab:Nat→List Nat}
theorem qXJ {labs : List (List Nat)} {i j : Nat} (hd : qh7 ops = true) (hap : qhg labs (qb4 ops) = true) (hlab : ∀ k, lab k = labs.getD k [])
    (hij:i < j) (hj:j < ops.size) (hun:¬ i∈(qco ops).getD j []):Apt ops lab i j:=by
 have hmem:(i,j)∈unordered ops:=by
  unfold unordered qCX
  rw [List.mem_filter]
  refine ⟨List.mem_flatMap.2 ⟨j,List.mem_range.2 hj,List.mem_map.2 ⟨i,List.mem_range.2 hij,rfl⟩⟩,?_⟩
  simp only [Bool.not_eq_true']
  cases hb:has ((qco ops).getD j []) i
  ·rfl
  ·exact absurd ((Qn _ _).1 hb) hun
 intro x y hx hy
 unfold qh7 at hd
 simp only [Bool.and_eq_true] at hd
 have h1:=List.all_eq_true.1 hd.1 (i,j) hmem
 simp only [hx,hy] at h1
 refine ⟨h1,?_⟩
 by_cases c1:Zl x.op=true
 ·exact .inl c1
 by_cases c2:Zl y.op=true
 ·exact .inr (.inl c2)
 by_cases c3:Qs x.op=true∧Qs y.op=true
 ·exact .inr (.inr (.inl c3))
 refine .inr (.inr (.inr ?_))
 have hask:(i,j)∈qb4 ops:=by
  unfold qb4
  rw [List.mem_filter]
  refine ⟨hmem,?_⟩
  simp only [hx,hy]
  simp only [Bool.not_eq_true',Bool.or_eq_false_iff,Bool.and_eq_false_iff]
  refine ⟨⟨by simpa using c1,by simpa using c2⟩,?_⟩
  by_cases c4:Qs x.op=true
  ·right; by_cases c5:Qs y.op=true
   ·exact absurd ⟨c4,c5⟩ c3
   ·simpa using c5
  ·left; simpa using c4
 have:=List.all_eq_true.1 hap (i,j) hask
 rw [hlab,hlab]; exact this
theorem qPD {h₀ : Ob} {γ₀ : Hm} {G₀ : Gh} {w₀ : World} {labs : List (List Nat)} {σ' : St} {Q : Exit → Act → World → Prop} {ro : Option Nat} {nn : Nat} (hd : qh7 ops = true) (hap : qhg labs (qb4 ops) = true) (hlab : ∀ k, lab k = labs.getD k [])
    (hq:∀ a' w',Fits h₀ γ₀ G₀ w₀ σ' a' w'→Q .normal a' w'):∀ (fuel:Nat) (listed:Array Bool) (σ:St) (a:Act) (w:World),listed.size=ops.size→(rest ops.size listed).length=fuel→
    (∀ m < ops.size,listed.getD m false=true→∀ k∈(qco ops).getD m [],listed.getD k false=true)→
    Run P hn K O ops base lab (rest ops.size listed) σ σ'→Srt σ.sl→Srt σ.ob→Fits h₀ γ₀ G₀ w₀ σ a w→wpAnyIn (FW ro) nn P .any ops Q fuel listed a w:=by
 intro fuel
 induction fuel with
 | zero=>
  intro listed σ a w hsz hlen hcl hrun h1 h2 hf
  have hnil:=List.length_eq_zero_iff.1 hlen
  rw [hnil] at hrun
  have:σ=σ':=hrun
  subst this
  refine ⟨?_,hq _ _ hf⟩
  unfold Region.ready
  rw [List.filter_eq_nil_iff]
  intro i hi hc
  simp only [Bool.and_eq_true,Bool.not_eq_true'] at hc
  have:i∈rest ops.size listed:=qlc.2 ⟨List.mem_range.1 hi,hc.1⟩
  rw [hnil] at this; simp at this
 | succ fuel ih=>
  intro listed σ a w hsz hlen hcl hrun h1 h2 hf
  refine ⟨fun hnone=>?_,fun i hi=>?_⟩
  ·
   exfalso
   obtain ⟨j,l,hr⟩:∃ j l,rest ops.size listed=j::l:=by
    cases hr:rest ops.size listed with
    | nil=>rw [hr] at hlen; simp at hlen
    | cons j l=>exact ⟨j,l,rfl⟩
   have hj:j∈rest ops.size listed:=by rw [hr]; simp
   obtain ⟨hjn,hju⟩:=qlc.1 hj
   have hmin:∀ k < j,listed.getD k false=true:=by
    intro k hk
    cases hb:listed.getD k false with
    | true=>rfl
    | false=>
     have:k∈rest ops.size listed:=qlc.2 ⟨by omega,by rw [qEJ (by omega)]; exact hb⟩
     have hs:=qnF ops.size listed
     rw [hr] at this hs
     rcases List.mem_cons.1 this with e | e
     ·omega
     ·have:=(List.pairwise_cons.1 hs).1 k e; omega
   have:j∈Region.ready .any ops listed:=by
    unfold Region.ready
    rw [List.mem_filter]
    refine ⟨List.mem_range.2 hjn,?_⟩
    rw [hju,Array.getElem?_eq_getElem hjn]
    simp only [Bool.not_false,Bool.true_and,Option.map_some,Option.getD_some]
    rw [Array.all_eq_true]
    intro e he
    unfold qh7 at hd
    simp only [Bool.and_eq_true] at hd
    have:=List.all_eq_true.1 hd.2 (ops[j],j) (by
     rw [List.mem_zipIdx_iff_getElem?]; simp [hjn])
    simp only [Bool.and_eq_true] at this
    have:=List.all_eq_true.1 this.1 (ops[j].after[e]) (by simp)
    simp only [Bool.or_eq_true,Bool.not_eq_true',Nat.blt_eq] at this ⊢
    rcases this with h | h
    ·exact .inl h
    ·exact .inr (hmin _ h)
   rw [hnone] at this; simp at this
  ·have hi':=hi
   unfold Region.ready at hi'
   rw [List.mem_filter] at hi'
   obtain ⟨hin,hc⟩:=hi'
   have hin:=List.mem_range.1 hin
   simp only [Bool.and_eq_true,Bool.not_eq_true'] at hc
   obtain ⟨hun,hc⟩:=hc
   rw [Array.getElem?_eq_getElem hin] at hc
   simp only [Option.map_some,Option.getD_some] at hc
   rw [Array.all_eq_true] at hc
   have hoi:ops[i]?=some ops[i]:=Array.getElem?_eq_getElem hin
   have hed:∀ e∈ops[i].after.toList,Region.binds .any e=true→listed.getD e.on false=true:=by
    intro e he hb
    obtain ⟨k,hk,rfl⟩:=Array.mem_iff_getElem.1 (Array.mem_toList_iff.1 he)
    have:=hc k hk
    simp only [Bool.or_eq_true,Bool.not_eq_true'] at this
    rcases this with h | h
    ·rw [hb] at h; simp at h
    ·exact h
   have hal:∀ k∈(qco ops).getD i [],listed.getD k false=true:=by
    intro k hk
    obtain ⟨e,he,hb,h⟩:=qOr hoi hk
    have h3:=hed e he hb
    rcases h with rfl | h
    ·exact h3
    ·refine hcl e.on ?_ h3 k h
     have hne:listed.getD e.on false≠false:=by rw [h3]; simp
     by_cases hlt:e.on < listed.size
     ·omega
     ·exfalso; apply hne; rw [Array.getD_eq_getD_getElem?,Array.getElem?_eq_none (by omega)]; rfl
   have hir:i∈rest ops.size listed:=qlc.2 ⟨hin,hun⟩
   obtain ⟨l₁,l₂,hl⟩:=List.append_of_mem hir
   have hs:=qnF ops.size listed
   rw [hl] at hrun hs
   have hapt:∀ k∈l₁,Apt ops lab k i:=by
    intro k hk
    have hki:k < i:=(List.pairwise_append.1 hs).2.2 k hk i (by simp)
    refine qXJ hd hap hlab hki hin fun hm=>?_
    have h3:=hal k hm
    have:k∈rest ops.size listed:=by rw [hl]; simp [hk]
    have:=(qlc.1 this).2
    rw [qEJ (by omega)] at this
    rw [this] at h3; simp at h3
   have hrun:=Run.front l₁ σ hapt h1 h2 hrun
   obtain ⟨o,D,ps,ho,hstep,hps,hok,hds,hrest⟩:=hrun
   rw [hoi] at ho
   simp only [Option.some.injEq] at ho
   subst ho
   have hisz:i < listed.size:=by omega
   have hset:=qT4 hisz hl
   have s1:=Dl.qeU (D:=D) (d:=ops[i].dst) h1 h2
   have hA:=qAm.2 ⟨D,lab i,hstep,hok,hds,rfl⟩
   obtain ⟨γ,G,hst⟩:=hf
   obtain ⟨σ1,lab1,heq,hgo⟩:=qx1 hst hA hps
   simp only [SR.next.injEq] at heq
   obtain ⟨rfl,_⟩:=heq
   have hnext:∀ a' w',Fits h₀ γ₀ G₀ w₀ (D.app ops[i].dst σ) a' w'→wpAnyIn (FW ro) nn P .any ops Q fuel (listed.setIfInBounds i true) a' w':=by
    intro a' w' hf'
    refine ih (listed.setIfInBounds i true) _ a' w' (by simpa using hsz) ?_ ?_ (by rw [hset]; exact hrest) s1.1 s1.2 hf'
    ·rw [hset]
     have:=congrArg List.length hl
     simp only [List.length_append,List.length_cons] at this ⊢
     omega
    ·intro m hm hlm k hk
     rw [qJ7 hisz] at hlm ⊢
     by_cases e:m=i
     ·subst e
      split
      ·rfl
      ·exact hal k hk
     ·rw [if_neg e] at hlm
      split
      ·rfl
      ·exact hcl m hm hlm k hk
   unfold wpOpIn
   rw [hoi]
   simp only
   have:=hgo (wpAnyIn (FW ro) nn P .any ops Q fuel (listed.setIfInBounds i true)) Q hnext
   split
   ·rename_i hw; rw [if_pos hw] at this; exact this
   ·rename_i hw; rw [if_neg hw] at this; exact this
end any
theorem qzc {α:Type}:∀ {l:List (Nat×α)},qly l=true→Srt l
 | [],_=>List.Pairwise.nil
 | [e],_=>List.pairwise_singleton _ _
 | e::e'::r,h=>by
  simp only [qly,Bool.and_eq_true,Nat.blt_eq] at h
  have ih:=qzc h.2
  refine List.Pairwise.cons (fun x hx=>?_) ih
  rcases List.mem_cons.1 hx with rfl | hx
  ·exact h.1
  ·exact Nat.lt_trans h.1 ((List.pairwise_cons.1 ih).1 x hx)
theorem qCu {h₀:Ob} {γ₀:Hm} {G₀:Gh} {w₀:World} {σ:St} {a:Act} {w:World} (h:Fits h₀ γ₀ G₀ w₀ σ a w):Fits h₀ γ₀ G₀ w₀ σ a { w with drawn:=w.drawn + 1 }:=by
 obtain ⟨γ,G,h⟩:=h
 obtain ⟨h1,h2⟩:=qo7 h.heap G { w with drawn:=w.drawn + 1 } (Nat.le_refl _) (fun _ _=>rfl) (fun _ _ h=>h) (fun b o h k=>absurd h k)
 exact ⟨γ,G,h1,fun t x hx=>by
  obtain ⟨v,hv,hr⟩:=h.slots t x hx
  exact ⟨v,hv,qM.step h2 _ _ hr⟩,h.size,h.tr.then h2,h.keep,h.defers,h.dfr,h.dfk⟩
theorem qMA (hm:P.follows .mixedOrders=true):qBm P hn K:=by
 intro O id ops σ σ' e ps hs hp h₀ γ₀ G₀ w₀ a w Q hf hq ro nn
 unfold qcA at hs
 obtain ⟨⟨e1,σ1,labs⟩,p1,p2,g1,g2,hp1,hp2⟩:=qJ hs hp
 have hnorm:=qhF _ _ _ _ _ _ _ g1
 subst hnorm
 simp only at g2
 obtain ⟨hc,g2⟩:=qO g2
 simp only [Bool.not_true,Bool.false_or,Bool.and_eq_true] at hc
 obtain ⟨⟨⟨hd,hap⟩,hs1⟩,hs2⟩:=hc
 split at g2
 ·rename_i σ2 hgc
  have:=qq g2
  simp only [Prod.mk.injEq] at this
  obtain ⟨rfl,rfl⟩:=this
  refine wpIn_region_any hm ?_
  have hrest:rest ops.size (Array.replicate ops.size false)=List.range ops.size:=by
   unfold rest
   rw [List.filter_eq_self]
   intro i hi
   rw [Array.getD_eq_getD_getElem?,Array.getElem?_eq_getElem (by simpa using List.mem_range.1 hi)]
   simp
  have hrun:=qHJ (ops:=ops) (base:=id * 1000) (lab:=fun k=>labs.getD k []) ops.toList 0 σ .normal σ1 labs p1 (fun j=>by simp) (fun j=>by simp only [Nat.zero_add]) (by rw [Nat.add_zero]; exact g1) hp1
  refine qPD (ro:=ro) (nn:=nn) (hn:=hn) (K:=K) (O:=O) (base:=id * 1000) hd hap (fun _=>rfl) (fun a' w' hf'=>hq _ _ (qHE hgc hf')) ops.size _ σ a _ (by simp) (by rw [hrest]; simp) (fun m _ h=>?_) ?_ (qzc hs1) (qzc hs2) (qCu hf)
  ·rw [Array.getD_eq_getD_getElem?] at h
   by_cases hlt:m < ops.size
   ·rw [Array.getElem?_eq_getElem (by simpa using hlt)] at h; simp at h
   ·rw [Array.getElem?_eq_none (by simpa using hlt)] at h; simp at h
  ·rw [hrest,List.range_eq_range']; simpa using hrun
 ·simp at g2
end g
end Go.Rx
end
noncomputable section
namespace Go.Rx
section g
variable {P:Program} {hn:Hint} {K:FuncId}
theorem qEA {ob : Ob} {γ : Hm} {G : Gh} {w : World} : ∀ (ps : List Tmp) (args : List AV) (vs : List Value) (sl : Sl) (tmps : Array Value), ps.length = args.length → (∀ t ∈ ps, t < tmps.size) → zB ob γ G w args vs →
    (∀ t x,get sl t=some x→∃ v,tmps[t]?=some v∧qM ob γ G w x v)→
    (∀ t x,get (qd8 ps args sl) t=some x→∃ v,((ps.zip vs).foldl (fun tmps (p:Nat×Value)=>tmps.setIfInBounds p.1 p.2) tmps)[t]?=some v∧qM ob γ G w x v)∧((ps.zip vs).foldl (fun tmps (p:Nat×Value)=>tmps.setIfInBounds p.1 p.2) tmps).size=tmps.size
 | [],[],vs,sl,tmps,_,_,_,h=>⟨by simpa [qd8] using h,by simp⟩
 | [],_::_,_,_,_,hl,_,_,_=>by simp at hl
 | _::_,[],_,_,_,hl,_,_,_=>by simp at hl
 | p::ps,x::xs,vs,sl,tmps,hl,hp,hr,h=>by
  simp only [zB] at hr
  obtain ⟨c,v,r,rfl,h1,h2,h3⟩:=hr
  have ih:=qEA ps xs r (ins p x sl) (tmps.setIfInBounds p v) (by simpa using hl) (fun t ht=>by simpa using hp t (by simp [ht])) h3 (fun t y hy=>by
   rw [qT] at hy
   split at hy
   ·rename_i e; subst e; cases hy
    exact ⟨v,YD _ _ _ (hp _ (by simp)),qeY h1 h2⟩
   ·rename_i e
    obtain ⟨u,g1,g2⟩:=h t y hy
    exact ⟨u,by rw [ZU _ _ _ _ (fun q=>e q.symm)]; exact g1,g2⟩)
  simp only [qd8,List.zip_cons_cons,List.foldl_cons]
  exact ⟨ih.1,by rw [ih.2]; simp⟩
theorem qVD (ps:List Tmp) (vs:List Value) (tmps:Array Value):(ps.toArray.zip vs.toArray).foldl (fun tmps (t,a)=>tmps.setIfInBounds t a) tmps=(ps.zip vs).foldl (fun tmps (p:Nat×Value)=>tmps.setIfInBounds p.1 p.2) tmps:=by
 simp
end g
end Go.Rx
end
noncomputable section
namespace Go.Rx
section g
variable {P:Program} {hn:Hint} {K:FuncId}
theorem qMX {ob : Ob} {γ : Hm} {G : Gh} {w : World} (H : qL ob γ G w) {l : Nat} (hl : get ob l = none) (o' : jc) (cap : Nat) {w' : World} {obj : Obj} (hw : w'.heap = w.heap.push obj) (hcl : ∀ n ∈ o'.names, ∃ x, get (ins l o' ob) n = some x)
    (hobj:Trans ob γ G w (ins l o' ob) (upd γ l (w.heap.size,cap)) G w'→(∀ i,¬ G w.heap.size i)→zq (ins l o' ob) (upd γ l (w.heap.size,cap)) G w' l o') (hio:WV w w':=by exact ⟨rfl,rfl⟩) :
    qL (ins l o' ob) (upd γ l (w.heap.size,cap)) G w'∧Trans ob γ G w (ins l o' ob) (upd γ l (w.heap.size,cap)) G w':=
 qAN H l o' (w.heap.size,cap) G w' (by rw [hw]; simp) (fun b hb _=>by rw [hw]; exact qcn w _ b hb) ⟨fun _ _ h=>h,fun b i h=>by simp only [World.cell?,hw,qcn w _ b (H.gok b i h)]⟩ (fun _ _ h h'=>absurd h h')
  (by rw [hw]; simp) (.inl (Nat.le_refl _)) (fun o ho=>by rw [hl] at ho; cases ho) hcl (fun T=>hobj T fun i hi=>by have:=H.gok _ _ hi; omega) hio
theorem qlG (l:Nat) (ob:Ob) (n:Nat):get (Jl l ob) n=if n=l then none else get ob n:=by
 unfold Jl
 rw [get_filter ob (fun n=>!Nat.beq n l)]
 by_cases e:n=l
 ·subst e; simp [Nat.beq_refl]
 ·rw [if_neg e]
  cases hb:Nat.beq n l
  ·simp
  ·exact absurd (Nat.eq_of_beq_eq_true hb) e
theorem qUg {st:LoopState} (h:qkk st=true):st≠.busy:=by cases st<;>simp [qkk] at h ⊢
theorem qNz {g : Operand} {ps : Array Tmp} {as0 bd : Code} {σ : St} {h₀ : Ob} {γ₀ : Hm} {G₀ : Gh} {w₀ : World} {a : Act} {w : World} {Q : Exit → Act → World → Prop} {γ : Hm} {G : Gh} (h : qow h₀ γ₀ G₀ w₀ σ γ G a w) (nn : Nat) (L D : Nat) (T : List Nat)
    {k:FuncId} {first cap:List AV} (hg:ZC σ g=.fn (.func k) first cap) {r:AV} {h':Ob} (hL:get σ.ob L=none) (hD:get σ.ob D=none) {ps':List Tmp} {n':Nat} {sl':List (Nat×AV)} {as' bd':Code} {fn':FuncId} {st:LoopState} {pe:Option Code} {d':Nat}
    (hgl:get h' L=some (.loop ps' n' sl' as' bd' fn' st pe d')) (hcl:jI (L::(AV.q9 first++AV.q9 cap)) (qD T (ins L (.loop ps.toList σ.n σ.sl as0 bd K .ready none D) (ins D (.dfr true) σ.ob)))=true)
    (hcl2:jI [] (Jl L (merge T h' (ins L (.loop ps.toList σ.n σ.sl as0 bd K .ready none D) (ins D (.dfr true) σ.ob))))=true)
    (hnew:(dom h').all (fun n=>has T n||!has (dom (ins L (.loop ps.toList σ.n σ.sl as0 bd K .ready none D) (ins D (.dfr true) σ.ob))) n)=true) (hst:qkk st=true) (hcb:qlP P k=true) (hkD:has σ.keep D=false) (hLD:Nat.beq L D=false)
    {ee:Ex} (hee:(match (generalizing:=false) pe with | none=>some Ex.normal | some .ret=>some .ret | some (.exit i)=>some (.exit i) | _=>none)=some ee)
    (hval:Valid P σ.lvl (.fn (.func k) first cap) [.yl L] (qD T (ins L (.loop ps.toList σ.n σ.sl as0 bd K .ready none D) (ins D (.dfr true) σ.ob))) (.ret r) h')
    (hq:∀ a' w',Fits h₀ γ₀ G₀ w₀ { σ with ob:=Jl L (merge T h' (ins L (.loop ps.toList σ.n σ.sl as0 bd K .ready none D) (ins D (.dfr true) σ.ob))),keep:=D::σ.keep,dfs:=D::σ.dfs } a' w'→Q (qpV ee) a' w') :
    (Code.rangeFunc g ps as0 bd).wpIn (FW none) nn P Q a w:=by
 have hne:L≠D:=fun e=>by subst e; simp [Nat.beq_refl] at hLD
 have hA:=qMX h.heap hD (.dfr true) 0 (w':=w.alloc (.deferred (some []))) (obj:=.deferred (some [])) rfl (fun n hn=>by simp [jc.names] at hn) (fun T hG=>by
  simp only [zq,jg]
  exact ⟨World.alloc_heap_new w _,hG⟩)
 have hvg:=zx rfl rfl (by have:=h.qgj g; rw [hg] at this; exact this)
 simp only [qm] at hvg
 obtain ⟨va,vc,hvg,hva,hvc⟩:=hvg
 simp only [List.cons.injEq,and_true] at hvg
 refine wpIn_rangeFunc fun fn _=>?_
 obtain ⟨hcn,hco⟩:=Jj hcl
 obtain ⟨oL,hoL⟩:=hcn L (by simp)
 obtain ⟨hTL,hoL'⟩:=Vh hoL
 rw [qT,if_pos rfl] at hoL'
 cases hoL'
 have hLA:get (ins D (.dfr true) σ.ob) L=none:=by rw [qT,if_neg (fun e=>hne e.symm)]; exact hL
 have hB:=qMX hA.1 hLA (.loop ps.toList σ.n σ.sl as0 bd K .ready none D) 0 (w':=(w.alloc (.deferred (some []))).alloc (.loop { state:=.ready,pending:=none,fn,tmps:=a.tmps,params:=ps,assign:=as0,body:=bd,defers:=w.heap.size })) (obj:=.loop { state:=.ready,pending:=none,fn,tmps:=a.tmps,params:=ps,assign:=as0,body:=bd,defers:=w.heap.size }) rfl
  (fun n hn=>by
   obtain ⟨x,hx⟩:=hco L _ hoL n hn
   exact ⟨x,(Vh hx).2⟩) (fun TB hG=>by
  simp only [zq,jg,zM _ _ (fun e=>hne e.symm)]
  refine ⟨a.tmps,fn,World.alloc_heap_new _ _,h.size,fun t x hx=>?_,⟨true,by rw [qT,if_neg hne,qT,if_pos rfl]⟩,hG⟩
  obtain ⟨v,q1,q2⟩:=h.slots t x hx
  exact ⟨v,q1,qM.step TB _ _ (qM.step hA.2 _ _ q2)⟩)
 have hAB:=hA.2.trans h.heap hB.2
 revert hB hAB
 generalize hw2:(w.alloc (.deferred (some []))).alloc (.loop { state:=.ready,pending:=none,fn,tmps:=a.tmps,params:=ps,assign:=as0,body:=bd,defers:=w.heap.size })=w2
 have hszA:(w.alloc (.deferred (some []))).heap.size=w.heap.size + 1:=World.size_alloc _ _
 generalize hγ2:upd (upd γ D (w.heap.size,0)) L ((w.alloc (.deferred (some []))).heap.size,0)=γ2
 intro hB hAB
 have hγL:(γ2 L).1=w.heap.size + 1:=by rw [← hγ2,jg,hszA]
 have hγD:(γ2 D).1=w.heap.size:=by rw [← hγ2,zM _ _ (fun e=>hne e.symm),jg]
 have hsub:∀ l o,get (qD T (ins L (.loop ps.toList σ.n σ.sl as0 bd K .ready none D) (ins D (.dfr true) σ.ob))) l=some o→get (ins L (.loop ps.toList σ.n σ.sl as0 bd K .ready none D) (ins D (.dfr true) σ.ob)) l=some o:=fun l o hl=>(Vh hl).2
 have HR:=hB.1.sub hsub hco
 have hfv:qM (qD T (ins L (.loop ps.toList σ.n σ.sl as0 bd K .ready none D) (ins D (.dfr true) σ.ob))) γ2 G w2 (.fn (.func k) first cap) (a.eval g):=by
  have:=h.qgj g
  rw [hg] at this
  refine qhe hsub (fun n hn=>hcn n ?_) (qM.step hAB _ _ this)
  simp only [AV.names] at hn
  exact List.mem_cons_of_mem _ hn
 have hyv:zB (qD T (ins L (.loop ps.toList σ.n σ.sl as0 bd K .ready none D) (ins D (.dfr true) σ.ob))) γ2 G w2 [.yl L] [.func (.yield (w.heap.size + 1)) #[] #[]]:=by
  simp only [zB]
  exact ⟨_,_,_,rfl,by simp only [qm]; exact ⟨by rw [hγL],_,_,_,_,_,_,_,_,_,hoL⟩,rfl,rfl⟩
 obtain ⟨r',er,hcall⟩:=hval γ2 G w2 _ _ HR hfv hyv
 cases er
 obtain ⟨fk,hfk,hbk,hnk⟩:∃ fk,P.funcs[k]?=some fk∧fk.body.isSome=true∧(fk.name == "runtime.NumGoroutine")=false:=by
  unfold qlP at hcb
  split at hcb
  ·rename_i fk hfk
   simp only [Bool.and_eq_true,Bool.not_eq_true'] at hcb
   exact ⟨fk,hfk,hcb.1,hcb.2⟩
  ·simp at hcb
 have hinv:(invoke (.fn (.func k) vc.toArray) (va.toArray++#[Value.func (.yield (w.heap.size + 1)) #[] #[]])).run P w2=.ok (.enter k (va.toArray++#[Value.func (.yield (w.heap.size + 1)) #[] #[]]++vc.toArray)) w2:=by
  have hbn:fk.body.isNone=false:=by cases hq:fk.body<;>simp [hq] at hbk ⊢
  simp only [invoke,callFunc,Sem.run_bind,run_program,Result.andThen_ok,hfk,hnk,hbn,Bool.false_eq_true,if_false,Sem.run_pure]
 have hC:Calls P k (va.toArray++#[Value.func (.yield (w.heap.size + 1)) #[] #[]]++vc.toArray) w2 fun e w''=>∃ v,e=.returned v∧∃ γ' G',qL h' γ' G' w''∧Trans (qD T (ins L (.loop ps.toList σ.n σ.sl as0 bd K .ready none D) (ins D (.dfr true) σ.ob))) γ2 G w2 h' γ' G' w''∧qM h' γ' G' w'' r v:=by
  unfold X2 at hcall
  have:(do let d ← Deferred.ofValue (a.eval g) [Value.func (.yield (w.heap.size + 1)) #[] #[]].toArray; invoke d.target d.args:Sem Next).run P w2=.ok (.enter k (va.toArray++#[Value.func (.yield (w.heap.size + 1)) #[] #[]]++vc.toArray)) w2:=by
   rw [hvg]
   simp only [Deferred.ofValue,Sem.run_bind,Sem.run_pure,Result.andThen_ok]
   exact hinv
  rw [this] at hcall
  exact hcall
 refine ⟨w.heap.size + 1,[{ target:=.collected w.heap.size,args:=#[] }],w2,{ target:=.fn (.func k) vc.toArray,args:=va.toArray++#[Value.func (.yield (w.heap.size + 1)) #[] #[]] },w2,k,_,w2,?_,?_,fun _ _=>trivial,hinv,fun hd=>by simp [FW,Fence.wide] at hd,?_⟩
 ·rw [← hw2]; exact run_enterLoop_outer _ _ _ _ _
 ·have he:(a.eval g)=.func (.func k) va.toArray vc.toArray:=hvg
  simp only [resolve,he,Deferred.ofValue,Sem.run_pure]
  simp [Act.eval]
 refine (callsIn_wide (n:=nn - 1)).2 (hC.mono fun e w3 ⟨v,ev,γ',G',HC,TC,_⟩=>?_)
 subst ev
 have hM:=qln hB.1 HC TC (fun n x hx=>by
  have:=qDG hnew (n:=n) (x:=x) hx
  simp only [Bool.or_eq_true,Bool.not_eq_true'] at this
  exact this.imp id (Yt _ n).1)
 revert hM
 generalize hγ3:qjD h' γ' γ2=γ3
 generalize hmob:merge T h' (ins L (.loop ps.toList σ.n σ.sl as0 bd K .ready none D) (ins D (.dfr true) σ.ob))=mob at hcl2 hq ⊢
 intro hM
 have hmL:get mob L=some (.loop ps' n' sl' as' bd' fn' st pe d'):=by rw [← hmob,get_merge,hgl]
 have hγ3L:γ3 L=γ2 L:=by
  obtain ⟨o',q1,q2⟩:=hM.2.kept L (.loop ps.toList σ.n σ.sl as0 bd K .ready none D) (by rw [qT,if_pos rfl])
  rw [hmL] at q1; cases q1
  exact q2
 have o3:=hM.1.obj _ _ hmL
 have lt3:=o3.lt trivial
 simp only [zq] at o3
 obtain ⟨tmps3,fn3,m1,m2,m3,m4,m5⟩:=o3
 have hγ3L1:(γ3 L).1=w.heap.size + 1:=by rw [hγ3L,hγL]
 have hend:=run_endLoop (P:=P) m1 (by simpa using qUg hst)
 have hTd:=XW hM.1 hmL (.loop ps' n' sl' as' bd' fn' .exhausted pe d') G' (w3.putObj (γ3 L).1 (.loop { state:=.exhausted,pending:=pe,fn:=fn3,tmps:=tmps3,params:=ps'.toArray,assign:=as',body:=bd',defers:=(γ3 d').1 }))
  (by simp [World.putObj]) (fun b hb=>World.putObj_heap_other hb) (XS m5 fun b' hb'=>World.putObj_heap_other hb') (fun _ _ h h'=>absurd h h') rfl
  (fun m hm=>by
   obtain ⟨o,ho⟩:=hM.1.closed L _ hmL m (by simpa [jc.names] using hm)
   by_cases e:L=m
   ·exact ⟨_,by rw [qT,if_pos e]⟩
   ·exact ⟨o,by rw [qT,if_neg e]; exact ho⟩) (fun T=>by
   simp only [zq]
   refine ⟨tmps3,fn3,World.putObj_heap_same lt3,m2,fun t x hx=>?_,qah T m4,m5⟩
   obtain ⟨v,r1,r2⟩:=m3 t x hx
   exact ⟨v,r1,qM.step T _ _ r2⟩)
 have hall:=(hAB.then hM.2).then hTd.2
 have hsub2:∀ l o,get (Jl L mob) l=some o→get (ins L (.loop ps' n' sl' as' bd' fn' .exhausted pe d') mob) l=some o:=fun l o hl=>by
  rw [qlG] at hl
  split at hl
  ·simp at hl
  ·rename_i e
   rw [qT,if_neg (fun q=>e q.symm)]; exact hl
 obtain ⟨_,hco2⟩:=Jj hcl2
 have HF:=hTd.1.sub hsub2 hco2
 have hthere:∀ l o,get σ.ob l=some o→∃ x,get (Jl L mob) l=some x:=fun l o hl=>by
  obtain ⟨o',q1,_⟩:=hall.kept l o hl
  have hlL:l≠L:=fun e=>by rw [e,hL] at hl; cases hl
  rw [qT,if_neg (fun q=>hlL q.symm)] at q1
  exact ⟨o',by rw [qlG,if_neg hlL]; exact q1⟩
 have hDk:∃ b,get (Jl L mob) D=some (.dfr b):=by
  obtain ⟨b,hb⟩:=qah (hM.2.then hTd.2) (d:=D) ⟨true,by rw [qT,if_neg hne,qT,if_pos rfl]⟩
  rw [qT,if_neg hne] at hb
  exact ⟨b,by rw [qlG,if_neg (fun e=>hne e.symm)]; exact hb⟩
 have hγ3D:(γ3 D).1=w.heap.size:=by
  rw [(qzp (hM.2.then hTd.2) (d:=D) ⟨true,by rw [qT,if_neg hne,qT,if_pos rfl]⟩).1,hγD]
 have hfin:Fits h₀ γ₀ G₀ w₀ { σ with ob:=Jl L mob,keep:=D::σ.keep,dfs:=D::σ.dfs } { a with defers:=[{ target:=.collected w.heap.size,args:=#[] }]++a.defers } (w3.putObj (γ3 L).1 (.loop { state:=.exhausted,pending:=pe,fn:=fn3,tmps:=tmps3,params:=ps'.toArray,assign:=as',body:=bd',defers:=(γ3 d').1 })):=by
  refine ⟨γ3,G',HF,fun t x hx=>?_,h.size,(h.tr.then hall).drop hsub2 fun l o hl=>?_,fun l o hl=>List.mem_cons_of_mem _ (h.keep l o hl),?_,fun d hd=>?_,fun d hd=>?_⟩
  ·obtain ⟨v,q1,q2⟩:=h.slots t x hx
   refine ⟨v,q1,qhe hsub2 (fun n hn=>?_) (qM.step hall _ _ q2)⟩
   obtain ⟨o,ho⟩:=qqX q2 n hn
   exact hthere n o ho
  ·obtain ⟨o',q1,_⟩:=h.tr.kept l o hl
   exact hthere l o' q1
  ·simp only [List.map_cons,List.singleton_append,hγ3D]
   rw [h.defers]
   exact congrArg _ (qwB hall fun d hd=>(h.dfr d hd).1)
  ·rcases List.mem_cons.1 hd with rfl | hd
   ·refine ⟨hDk,?_⟩
    cases hq:get h₀ d with
    | none=>rfl
    | some o=>
     have:=h.keep d o hq
     rw [(Qn _ _).2 this] at hkD; cases hkD
   ·obtain ⟨⟨b,hb⟩,h2⟩:=h.dfr d hd
    refine ⟨?_,h2⟩
    obtain ⟨b',hb'⟩:=qah hall ⟨b,hb⟩
    have hlL:d≠L:=fun e=>by rw [e,hL] at hb; cases hb
    rw [qT,if_neg (fun q=>hlL q.symm)] at hb'
    exact ⟨b',by rw [qlG,if_neg hlL]; exact hb'⟩
  ·rcases List.mem_cons.1 hd with rfl | hd
   ·exact List.mem_cons_self
   ·exact List.mem_cons_of_mem _ (h.dfk d hd)
 have hQ:=hq _ _ hfin
 refine ⟨pe,_,by rw [← hγ3L1]; exact hend,?_⟩
 cases pe with
 | none=>
  simp only [Option.some.injEq] at hee; subst hee
  exact hQ
 | some c=>
  simp only
  cases c<;>simp only [Option.some.injEq] at hee<;>try (simp at hee; done)
  ·subst hee; exact wpIn_exit hQ
  ·subst hee; exact wpIn_ret hQ
theorem qH6:qwr P hn K:=by
 intro O g ps as0 bd σ σ' e qs hs hp h₀ γ₀ G₀ w₀ a w Q hf hq nn
 obtain ⟨γ,G,h⟩:=hf
 unfold qh4 at hs
 split at hs
 case h_2=>simp at hs
 rename_i k first cap hrnd hg
 split at hs
 case h_2=>simp at hs
 rename_i r h' hL hD hAn
 split at hs
 case h_2=>simp at hs
 rename_i ps' n' sl' as' bd' fn' st pe d' hgl
 obtain ⟨hc,hs⟩:=qO hs
 simp only [Bool.and_eq_true,Bool.not_eq_true'] at hc
 obtain ⟨⟨⟨⟨⟨⟨hcl,hcl2⟩,hnew⟩,hst⟩,hcb⟩,hkD⟩,hLD⟩:=hc
 split at hs
 case h_2=>simp at hs
 rename_i ee hee
 simp only [Option.some.injEq,Prod.mk.injEq] at hs
 obtain ⟨⟨rfl,rfl⟩,rfl⟩:=hs
 exact qNz h nn _ _ _ hg hL hD hgl hcl hcl2 hnew hst hcb hkD hLD hee hp hq
end g
end Go.Rx
end
noncomputable section
namespace Go.Rx
def chk {α:Type} (p:Prop) [Decidable p] (x:Option α):Option α:=if p then x else none
theorem Yn {α:Type} {p:Prop} [Decidable p] {x:Option α} {y:α} (h:chk p x=some y):p∧x=some y:=by
 unfold chk at h; split at h
 ·exact ⟨by assumption,h⟩
 ·simp at h
theorem qim {α:Type} {b:Bool} {x y:Option α} {z:α} (h:cond b x y=some z):(b=true∧x=some z)∨(b=false∧y=some z):=by
 cases b
 ·exact .inr ⟨rfl,h⟩
 ·exact .inl ⟨rfl,h⟩
theorem bind_some {α β:Type} {x:Option α} {f:α→Option β} {z:β} (h:x.bind f=some z):∃ y,x=some y∧f y=some z:=by
 cases x with
 | none=>simp at h
 | some y=>exact ⟨y,rfl,h⟩
def zl {α:Type} (xs:List α) (i:Int):Option α:=if 0≤i then xs[i.toNat]? else none
def qw (n:Int):Prop:=-9223372036854775808≤n∧n≤9223372036854775807
instance (n:Int):Decidable (qw n):=by unfold qw; infer_instance
theorem wrap64 {n:Int} (h:qw n):IntKind.i64.wrap n=n:=IntWalk.i64_in n h
def qY6 {α:Type} (sz:Nat) (f:α→PV) (xs:List α):PV:=.l sz (xs.map f)
theorem All.nil:All []:=trivial
theorem All.cons {p:Prop} {ps:List Prop} (h:p) (hs:All ps):All (p::ps):=by
 cases ps with
 | nil=>exact h
 | cons q qs=>exact ⟨h,hs⟩
theorem K0.next {f:Orc→St→CR} {O:Orc} {σ σ₁ σ':St} {e:Ex} {ps:List Prop} (h:f O σ=some ((.normal,σ₁),ps)) (hp:All ps) (hl:K0 f σ₁ e σ'):K0 f σ e σ':=by
 obtain ⟨n,hn⟩:=hl
 exact ⟨n + 1,O,.normal,σ₁,ps,h,hp,hn⟩
theorem K0.exit {f:Orc→St→CR} {O:Orc} {σ σ':St} {i:Nat} {ps:List Prop} (h:f O σ=some ((.exit i,σ'),ps)) (hp:All ps):K0 f σ (.exit i) σ':=
 ⟨1,O,.exit i,σ',ps,h,hp,rfl,rfl⟩
theorem K0.ret {f:Orc→St→CR} {O:Orc} {σ σ':St} {ps:List Prop} (h:f O σ=some ((.ret,σ'),ps)) (hp:All ps):K0 f σ .ret σ':=
 ⟨1,O,.ret,σ',ps,h,hp,rfl,rfl⟩
def sub:List Nat→Code→Code
 | [],c=>c
 | 0::r,.seq a _=>sub r a
 | _::r,.seq _ b=>sub r b
 | 0::r,.cond _ a _=>sub r a
 | _::r,.cond _ _ b=>sub r b
 | _::r,.block _ a=>sub r a
 | _::r,.loop a=>sub r a
 | _::r,.scope a=>sub r a
 | 0::r,.rangeFunc _ _ a _=>sub r a
 | _::r,.rangeFunc _ _ _ b=>sub r b
 | _::_,c=>c
end Go.Rx
end
noncomputable section
namespace Go.Rx
section g
variable {P:Program} {ob:Ob} {γ:Hm} {G:Gh} {w:World}
theorem Valid.frame (T : List Nat) {l : Nat} {f : AV} {args : List AV} {h h1 : Ob} {r : AV} (hv : Valid P l f args (qD T h) (.ret r) h1)
    (hc:jI (f.names++AV.q9 args) (qD T h)=true) (hn:(dom h1).all (fun n=>has T n||!has (dom h) n)=true):Valid P l f args h (.ret r) (merge T h1 h):=by
 intro γ G w vf vas H hvf hva
 have hsub:∀ l o,get (qD T h) l=some o→get h l=some o:=fun l o hl=>(Vh hl).2
 obtain ⟨hcn,hco⟩:=Jj hc
 have H1:=H.sub hsub hco
 obtain ⟨r',he,hcall⟩:=hv γ G w vf vas H1 (qhe hsub (fun n hn=>hcn n (List.mem_append_left _ hn)) hvf) (qqr hsub (fun n hn=>hcn n (List.mem_append_right _ hn)) hva)
 cases he
 refine ⟨r,rfl,hcall.mono fun v w' ⟨γ',G',g1,g2,g3⟩=>?_⟩
 have:=qln H g1 g2 (fun n x hx=>by
  have:=qDG hn (n:=n) (x:=x) hx
  simp only [Bool.or_eq_true,Bool.not_eq_true'] at this
  exact this.imp id (Yt _ n).1)
 exact ⟨_,G',this.1,this.2,qub g3⟩
theorem qCn {x:AV} (hx:x=.pv (.bl [])∨∃ sz,x=.pv (.l sz [])):∀ (pre:List AV) (post:List AV) (vs:List Value),zB ob γ G w (pre++x::post) vs→zB ob γ G w (pre++.es 0::post) vs∨zB ob γ G w (pre++.es 1::post) vs
 | [],post,vs,h=>by
  simp only [List.nil_append,zB] at h ⊢
  obtain ⟨c,v,r,rfl,h1,h2,h3⟩:=h
  have key:∃ a cap,c=[.slice a 0 cap]:=by
   rcases hx with rfl | ⟨sz,rfl⟩
   ·simp only [qm,qG] at h1; obtain ⟨a,cap,h,_⟩:=h1; exact ⟨a,cap,h⟩
   ·simp only [qm,qG] at h1; obtain ⟨a,cap,h,_⟩:=h1; exact ⟨a,cap,h⟩
  have hag:x.isAgg=false:=by rcases hx with rfl | ⟨sz,rfl⟩<;>rfl
  obtain ⟨a,cap,rfl⟩:=key
  rw [hag] at h2
  cases a with
  | none=>exact .inr ⟨_,v,r,rfl,by simp only [qm]; exact ⟨_,_,rfl,rfl⟩,h2,h3⟩
  | some a=>exact .inl ⟨_,v,r,rfl,by simp only [qm]; exact ⟨_,_,rfl,rfl⟩,h2,h3⟩
 | y::pre,post,vs,h=>by
  simp only [List.cons_append,zB] at h ⊢
  obtain ⟨c,v,r,rfl,h1,h2,h3⟩:=h
  rcases qCn hx pre post r h3 with h | h
  ·exact .inl ⟨c,v,r,rfl,h1,h2,h⟩
  ·exact .inr ⟨c,v,r,rfl,h1,h2,h⟩
theorem Valid.maybe {l:Nat} {f x:AV} {h h':Ob} {o:Out} (hx:x=.pv (.bl [])∨∃ sz,x=.pv (.l sz [])) (pre post:List AV) (h0:Valid P l f (pre++.es 0::post) h o h') (h1:Valid P l f (pre++.es 1::post) h o h'):Valid P l f (pre++x::post) h o h':=by
 intro γ G w vf vas H hvf hva
 rcases qCn hx pre post vas hva with h | h
 ·exact h0 γ G w vf vas H hvf h
 ·exact h1 γ G w vf vas H hvf h
end g
def vs (x:List UInt8):AV:=.pv (.s x)
abbrev Vd (P:Program) (l:Nat) (f:AV) (args:List AV) (h:Ob) (r:AV) (h':Ob):Prop:=Valid P l f args h (.ret r) h'
theorem Vd.frame (T : List Nat) {P : Program} {l : Nat} {f : AV} {args : List AV} {h h0 h1 h2 : Ob} {r : AV} (hv : Vd P l f args h0 r h1) (e0 : qD T h = h0)
    (hc:jI (f.names++AV.q9 args) h0=true) (hn:(dom h1).all (fun n=>has T n||!has (dom h) n)=true) (e1:merge T h1 h=h2):Vd P l f args h r h2:=by
 subst e0; subst e1
 exact Valid.frame T hv hc hn
def Step (f:Orc→St→CR) (σ:St) (e:Ex) (σ':St):Prop:=∃ O ps,f O σ=some ((e,σ'),ps)∧All ps
theorem Step.next {f:Orc→St→CR} {σ σ₁ σ':St} {e:Ex} (h:Step f σ .normal σ₁) (hl:K0 f σ₁ e σ'):K0 f σ e σ':=by
 obtain ⟨O,ps,h,hp⟩:=h
 exact K0.next h hp hl
theorem Step.exit {f:Orc→St→CR} {σ σ':St} {i:Nat} (h:Step f σ (.exit i) σ'):K0 f σ (.exit i) σ':=by
 obtain ⟨O,ps,h,hp⟩:=h
 exact K0.exit h hp
theorem Step.ret {f:Orc→St→CR} {σ σ':St} (h:Step f σ .ret σ'):K0 f σ .ret σ':=by
 obtain ⟨O,ps,h,hp⟩:=h
 exact K0.ret h hp
def qWk (n b:Nat):Prop:=n * b≤140737488355328
instance (n b:Nat):Decidable (qWk n b):=by unfold qWk; infer_instance
def qmS (n:Nat):Prop:=n≤140737488355328
instance (n:Nat):Decidable (qmS n):=by unfold qmS; infer_instance
def qNc (n:Nat):Prop:=n≤9223372036854775807
instance (n:Nat):Decidable (qNc n):=by unfold qNc; infer_instance
def qMT {α β:Type} (x:Option α) (a:Option β) (f:α→Option β):Option β:=match x with
 | none=>a
 | some y=>f y
theorem qI9 {α β:Type} {x:Option α} {a:Option β} {f:α→Option β} {z:β} (h:qMT x a f=some z):(x=none∧a=some z)∨∃ y,x=some y∧f y=some z:=by
 cases x with
 | none=>exact .inl ⟨rfl,h⟩
 | some y=>exact .inr ⟨y,rfl,h⟩
theorem qX7 {α β:Type} {f:α→β} {xs:List α} (h:xs≠[]):xs.map f≠[]:=by simpa using h
def qaf {κ ν:Type} (fk:κ→PV) (fv:ν→AV) (es:List (κ×ν×Nat)):jN:=es.map fun e=>(fk e.1,fv e.2.1,e.2.2)
section maps
variable {κ ν:Type} [DecidableEq κ] {fk:κ→PV} {fv:ν→AV}
def qmX (k:κ):List (κ×ν×Nat)→Option (ν×Nat)
 | []=>none
 | e::r=>if k=e.1 then some e.2 else qmX k r
def qkJ (k:κ) (x:ν) (c:Nat):List (κ×ν×Nat)→Nat×List (κ×ν×Nat)
 | []=>(c + 1,[(k,x,c)])
 | e::r=>if k=e.1 then (c,(k,x,e.2.2)::r) else ((qkJ k x c r).1,e::(qkJ k x c r).2)
def qNi (k:κ):List (κ×ν×Nat)→List (κ×ν×Nat)
 | []=>[]
 | e::r=>if k=e.1 then r else e::qNi k r
def atM (born:Int) (x:ν):List (κ×ν×Nat)→Option (List (κ×ν×Nat))
 | []=>none
 | e::r=>if (e.2.2:Int)=born then some ((e.1,x,e.2.2)::r) else (atM born x r).map (e::·)
def qwe (fk:κ→PV):Prop:=∀ a b,KM (fk a) (fk b)=some (decide (a=b))
theorem qy3 (hk:qwe fk) (k:κ):∀ es:List (κ×ν×Nat),Vb (fk k) (qaf fk fv es)=some ((qmX k es).map fun e=>(fv e.1,e.2))
 | []=>rfl
 | e::r=>by
  have ih:=qy3 hk k r
  simp only [qaf] at ih
  simp only [qaf,List.map_cons,Vb,hk k e.1,qmX]
  by_cases h:k=e.1
  ·simp [h]
  ·simp only [h,decide_false,if_false]; exact ih
theorem qNW (hk:qwe fk) {k:κ} {es:List (κ×ν×Nat)} (h:qmX k es=none):Vb (fk k) (qaf fk fv es)=some none:=by rw [qy3 hk,h]; rfl
theorem qPl (hk:qwe fk) {k:κ} {es:List (κ×ν×Nat)} {e:ν×Nat} (h:qmX k es=some e):Vb (fk k) (qaf fk fv es)=some (some (fv e.1,e.2)):=by rw [qy3 hk,h]; rfl
theorem qM3 (hk:qwe fk) (k:κ) (x:ν) (c:Nat):∀ es:List (κ×ν×Nat),qaF (fk k) (fv x) c (qaf fk fv es)=some ((qkJ k x c es).1,qaf fk fv (qkJ k x c es).2)
 | []=>rfl
 | e::r=>by
  have ih:=qM3 hk k x c r
  simp only [qaf] at ih
  simp only [qaf,List.map_cons,qaF,hk k e.1,qkJ]
  by_cases h:k=e.1
  ·simp [h]
  ·simp only [h,decide_false,if_false,ih]; rfl
theorem qM8 (hk:qwe fk) (k:κ):∀ es:List (κ×ν×Nat),qbY (fk k) (qaf fk fv es)=some (qaf fk fv (qNi k es))
 | []=>rfl
 | e::r=>by
  have ih:=qM8 hk k r
  simp only [qaf] at ih
  simp only [qaf,List.map_cons,qbY,hk k e.1,qNi]
  by_cases h:k=e.1
  ·simp [h]
  ·simp only [h,decide_false,if_false,ih]; rfl
omit [DecidableEq κ] in
theorem qR4 {born:Int} {x:ν}:∀ {es es':List (κ×ν×Nat)},atM born x es=some es'→qgd born (fv x) (qaf fk fv es)=some (qaf fk fv es')
 | [],_,h=>by simp [atM] at h
 | e::r,es',h=>by
  simp only [atM] at h
  simp only [qaf,List.map_cons,qgd]
  by_cases hb:(e.2.2:Int)=born
  ·simp only [hb,if_true,Option.some.injEq] at h
   subst h
   simp only [hb,decide_true,List.map_cons]
  ·simp only [hb,if_false] at h
   simp only [hb,decide_false]
   cases hr:atM born x r with
   | none=>simp [hr] at h
   | some t=>
    simp only [hr,Option.map_some,Option.some.injEq] at h
    subst h
    have:=qR4 hr
    simp only [qaf] at this
    simp only [this,List.map_cons]
end maps
end Go.Rx
end
noncomputable section
namespace Go.Rx
inductive Ty where
 | b | i (k:IntKind) | s | bl | ba (n:Nat) | wa (n:Nat) | sl (sz:Nat) (t:Ty) | ag (ts:List Ty) | nat
 deriving Inhabited
def qYD (A:Type) (ts:List Ty) (B:Type):Type:=match ts with
 | []=>A
 | _::_=>A×B
mutual
def El:Ty→Type
 | .b=>Bool
 | .i _=>Int
 | .s=>List UInt8
 | .bl=>List UInt8
 | .ba n=>Vector UInt8 n
 | .wa n=>Vector UInt32 n
 | .sl _ t=>List (El t)
 | .ag ts=>Els ts
 | .nat=>Nat
def Els:List Ty→Type
 | []=>Unit
 | t::ts=>qYD (El t) ts (Els ts)
end
def hd {t:Ty}:(ts:List Ty)→Els (t::ts)→El t
 | [],x=>x
 | _::_,x=>x.1
def tl {t:Ty}:(ts:List Ty)→Els (t::ts)→Els ts
 | [],_=>()
 | _::_,x=>x.2
def mkE {t:Ty}:(ts:List Ty)→El t→Els ts→Els (t::ts)
 | [],x,_=>x
 | _::_,x,y=>(x,y)
theorem qYO {t:Ty} (ts:List Ty) (x:El t) (y:Els ts):hd ts (mkE ts x y)=x:=by cases ts<;>rfl
theorem qY1 {t:Ty} (ts:List Ty) (x:El t) (y:Els ts):tl ts (mkE ts x y)=y:=by cases ts<;>rfl
mutual
def qF:(t:Ty)→El t→PV
 | .b,x=>.b x
 | .i k,x=>.i k x
 | .s,x=>.s x
 | .bl,x=>.bl x
 | .ba n,x=>.ba n x
 | .wa n,x=>.wa n x
 | .sl sz t,x=>.l sz (List.map (qF t) x)
 | .ag ts,x=>.ag (qeh ts x)
 | .nat,_=>.ag []
def qeh:(ts:List Ty)→Els ts→List PV
 | [],_=>[]
 | t::ts,x=>qF t (hd ts x)::qeh ts (tl ts x)
end
def qHO:IntKind→IntKind→Bool
 | .i8,.i8 | .i16,.i16 | .i32,.i32 | .i64,.i64 | .u8,.u8 | .u16,.u16 | .u32,.u32 | .u64,.u64=>true
 | _,_=>false
theorem qDN {a b:IntKind} (h:qHO a b=true):a=b:=by cases a<;>cases b<;>first | rfl | (simp [qHO] at h)
mutual
def Ky:Ty→Ty→Bool
 | .b,.b=>true
 | .i k,.i j=>qHO k j
 | .s,.s=>true
 | .bl,.bl=>true
 | .ba n,.ba m=>Nat.beq n m
 | .wa n,.wa m=>Nat.beq n m
 | .sl a t,.sl b u=>Nat.beq a b&&Ky t u
 | .ag ts,.ag us=>qni ts us
 | .nat,.nat=>true
 | _,_=>false
def qni:List Ty→List Ty→Bool
 | [],[]=>true
 | t::ts,u::us=>Ky t u&&qni ts us
 | _,_=>false
end
mutual
theorem qkg:∀ {t u:Ty},Ky t u=true→t=u
 | .b,u,h=>by cases u<;>simp [Ky] at h ⊢
 | .i k,u,h=>by cases u<;>simp [Ky] at h ⊢; exact qDN h
 | .s,u,h=>by cases u<;>simp [Ky] at h ⊢
 | .bl,u,h=>by cases u<;>simp [Ky] at h ⊢
 | .ba n,u,h=>by cases u<;>simp [Ky] at h ⊢; exact h
 | .wa n,u,h=>by cases u<;>simp [Ky] at h ⊢; exact h
 | .sl a t,u,h=>by cases u<;>simp [Ky] at h ⊢; exact ⟨h.1,qkg h.2⟩
 | .ag ts,u,h=>by cases u<;>simp [Ky] at h ⊢; exact qHG h
 | .nat,u,h=>by cases u<;>simp [Ky] at h ⊢
theorem qHG:∀ {ts us:List Ty},qni ts us=true→ts=us
 | [],us,h=>by cases us<;>simp [qni] at h ⊢
 | t::ts,us,h=>by
  cases us with
  | nil=>simp [qni] at h
  | cons u us=>
   simp only [qni,Bool.and_eq_true] at h
   rw [qkg h.1,qHG h.2]
end
def cast? (t u:Ty) (x:El t):Option (El u):=match h:Ky t u with
 | true=>some (qkg h▸x)
 | false=>none
theorem cast?_some {t u:Ty} {x:El t} {y:El u} (h:cast? t u x=some y):t=u∧HEq x y:=by
 unfold cast? at h
 split at h
 ·rename_i hb
  have:=qkg hb
  subst this
  simp only [Option.some.injEq] at h
  exact ⟨rfl,heq_of_eq h⟩
 ·simp at h
theorem cast?_pv {t u:Ty} {x:El t} {y:El u} (h:cast? t u x=some y):qF t x=qF u y:=by
 obtain ⟨rfl,h⟩:=cast?_some h
 rw [eq_of_heq h]
theorem cast?_self {t:Ty} (x:El t) (hb:Ky t t=true):cast? t t x=some x:=by
 unfold cast?
 split
 ·rfl
 ·rename_i h; rw [hb] at h; cases h
def dB (x y:Bool):Bool:=decide (x=y)
def dI (x y:Int):Bool:=decide (x=y)
def dN (x y:Nat):Bool:=decide (x=y)
def dS (x y:List UInt8):Bool:=decide (x=y)
def dW (x y:List UInt32):Bool:=decide (x=y)
theorem qX5 (x y:Bool):dB x y=true↔x=y:=decide_eq_true_iff
theorem qRe (x y:Int):dI x y=true↔x=y:=decide_eq_true_iff
theorem qYu (x y:Nat):dN x y=true↔x=y:=decide_eq_true_iff
theorem qBf (x y:List UInt8):dS x y=true↔x=y:=decide_eq_true_iff
theorem qXT (x y:List UInt32):dW x y=true↔x=y:=decide_eq_true_iff
mutual
def eqE:(t:Ty)→El t→El t→Bool
 | .b,x,y=>dB x y
 | .i _,x,y=>dI x y
 | .s,x,y=>dS x y
 | .bl,x,y=>dS x y
 | .ba _,x,y=>dS (Vector.toList x) (Vector.toList y)
 | .wa _,x,y=>dW (Vector.toList x) (Vector.toList y)
 | .sl _ t,x,y=>eqL (eqE t) x y
 | .ag ts,x,y=>qqy ts x y
 | .nat,x,y=>dN x y
def qqy:(ts:List Ty)→Els ts→Els ts→Bool
 | [],_,_=>true
 | t::ts,x,y=>eqE t (hd ts x) (hd ts y)&&qqy ts (tl ts x) (tl ts y)
def eqL {α:Type} (f:α→α→Bool):List α→List α→Bool
 | [],[]=>true
 | x::xs,y::ys=>f x y&&eqL f xs ys
 | _,_=>false
end
theorem qMM {α:Type} {f:α→α→Bool} (hf:∀ x y,f x y=true↔x=y):∀ xs ys:List α,eqL f xs ys=true↔xs=ys
 | [],[]=>by simp [eqL]
 | [],_::_=>by simp [eqL]
 | _::_,[]=>by simp [eqL]
 | x::xs,y::ys=>by simp [eqL,hf,qMM hf xs ys]
mutual
theorem Q2:∀ (t:Ty) (x y:El t),eqE t x y=true↔x=y
 | .b,x,y=>by simp only [eqE]; exact qX5 x y
 | .i _,x,y=>by simp only [eqE]; exact qRe x y
 | .s,x,y=>by simp only [eqE]; exact qBf x y
 | .bl,x,y=>by simp only [eqE]; exact qBf x y
 | .ba _,x,y=>by simp only [eqE]; exact (qBf _ _).trans Vector.toList_inj
 | .wa _,x,y=>by simp only [eqE]; exact (qXT _ _).trans Vector.toList_inj
 | .sl _ t,x,y=>by simp only [eqE]; exact qMM (Q2 t) x y
 | .ag ts,x,y=>by simp only [eqE]; exact qJa ts x y
 | .nat,x,y=>by simp only [eqE]; exact qYu x y
theorem qJa:∀ (ts:List Ty) (x y:Els ts),qqy ts x y=true↔x=y
 | [],x,y=>by simp only [qqy,true_iff]; exact Subsingleton.elim (α:=Unit) x y
 | [t],x,y=>by simp only [qqy,Bool.and_true]; exact Q2 t x y
 | t::u::ts,x,y=>by
  simp only [qqy,Bool.and_eq_true]
  rw [Q2 t]
  have:=qJa (u::ts) (tl (u::ts) x) (tl (u::ts) y)
  simp only [qqy,Bool.and_eq_true] at this
  rw [this]
  exact (Prod.ext_iff (x:=x) (y:=y)).symm
end
def JN (t:Ty):DecidableEq (El t):=fun x y=>match h:eqE t x y with
 | true=>isTrue ((Q2 t x y).1 h)
 | false=>isFalse fun e=>by rw [(Q2 t x y).2 e] at h; cases h
mutual
def eqK:Ty→Bool
 | .b | .i _ | .s | .ba _ | .wa _=>true
 | .ag ts=>qCJ ts
 | _=>false
def qCJ:List Ty→Bool
 | []=>true
 | t::ts=>eqK t&&qCJ ts
end
mutual
theorem qHD:∀ (t:Ty) (x y:El t),eqK t=true→PV.eqb (qF t x) (qF t y)=some (eqE t x y)
 | .b,x,y,_=>rfl
 | .i k,x,y,_=>by simp only [qF,PV.eqb,eqE,decide_true]; rfl
 | .s,x,y,_=>rfl
 | .ba _,x,y,_=>rfl
 | .wa _,x,y,_=>rfl
 | .ag ts,x,y,h=>by simp only [qF,PV.eqb,eqE]; exact qMu ts x y h
 | .sl _ _,_,_,h=>by simp [eqK] at h
 | .bl,_,_,h=>by simp [eqK] at h
 | .nat,_,_,h=>by simp [eqK] at h
theorem qMu:∀ (ts:List Ty) (x y:Els ts),qCJ ts=true→PV.qn7 (qeh ts x) (qeh ts y)=some (qqy ts x y)
 | [],_,_,_=>rfl
 | t::ts,x,y,h=>by
  simp only [qCJ,Bool.and_eq_true] at h
  simp only [qeh,PV.qn7,qqy,qHD t _ _ h.1,qMu ts _ _ h.2]
end
inductive TV where
 | tv (t:Ty) (x:El t)
 | bc (x:Bool)
 | ic (k:IntKind) (x:Int)
 | ag (xs:List TV)
 | nils
 | v (l n:Nat)
 | p (l:Nat) (path:List Nat) (off:Nat)
 | pa (l:Nat) (path:List Nat) (off k:Nat)
 | pe (l n sz k:Nat) (path:List Nat) (off:Nat)
 | ro (t:Ty) (x:El t)
 | nilp
 | m (l:Nat)
 | nilm
 | fn (f:Fn) (first cap:List TV)
 | nilf
 | iface (t:TypeId) (x:TV)
 | nili
 | tup (xs:List TV)
 | yl (l:Nat)
 | es (k:Nat)
 | undef
 deriving Inhabited
mutual
def TV.er:TV→AV
 | .tv t x=>.pv (qF t x)
 | .bc x=>.pv (.b x)
 | .ic k x=>.pv (.i k x)
 | .ag xs=>.ag (TV.ers xs)
 | .nils=>.nils
 | .v l n=>.v l n
 | .p l path off=>.p l path off
 | .pa l path off k=>.p l (path++[k]) (off + k)
 | .pe l n sz k path off=>.pe l n (k::path) (k * sz + off)
 | .ro t x=>.ro (qF t x)
 | .nilp=>.nilp
 | .m l=>.m l
 | .nilm=>.nilm
 | .fn f a b=>.fn f (TV.ers a) (TV.ers b)
 | .nilf=>.nilf
 | .iface t x=>.iface t x.er
 | .nili=>.nili
 | .tup xs=>.tup (TV.ers xs)
 | .yl l=>.yl l
 | .es k=>.es k
 | .undef=>.undef
def TV.ers:List TV→List AV
 | []=>[]
 | x::xs=>x.er::TV.ers xs
end
theorem XZ:∀ xs:List TV,TV.ers xs=xs.map TV.er
 | []=>rfl
 | x::xs=>by simp [TV.ers,XZ xs]
class CT where
 ct:Nat→Code×Code
inductive TOb where
 | cell (ro:Bool) (x:TV)
 | vec (fz:Bool) (sz:Nat) (t:Ty) (x:El t)
 | fns (xs:List TV)
 | map (clock:Nat) (kt vt:Ty) (es:List (El kt×El vt×Nat))
 | loop (params:List Tmp) (n:Nat) (slots:List (Nat×TV)) (cid:Nat) (fn:FuncId) (state:LoopState) (pending:Option Code) (d:Nat)
 | dfr (o:Bool)
def er2 (e:Nat×TV):Nat×AV:=(e.1,e.2.er)
def erS (sl:List (Nat×TV)):Sl:=sl.map er2
def erM {kt vt:Ty} (es:List (El kt×El vt×Nat)):jN:=qaf (qF kt) (fun x=>AV.pv (qF vt x)) es
variable [CT]
def TOb.er:TOb→jc
 | .cell ro x=>.cell ro x.er
 | .vec fz sz t x=>.vec fz sz (qF t x)
 | .fns xs=>.fns (TV.ers xs)
 | .map c kt vt es=>.map c (erM (kt:=kt) (vt:=vt) es)
 | .loop ps n sl c fn st pe d=>.loop ps n (erS sl) (CT.ct c).1 (CT.ct c).2 fn st pe d
 | .dfr o=>.dfr o
abbrev THp:=List (Nat×TOb)
def ero (e:Nat×TOb):Nat×jc:=(e.1,e.2.er)
def erO (h:THp):Ob:=h.map ero
structure TSt where
 lvl:Nat
 n:Nat
 keep:List Nat
 sl:List (Nat×TV)
 ob:THp
 rnd:Bool:=false
 dfs:List Nat:=[]
 deriving Inhabited
def TSt.er (σ:TSt):St:=⟨σ.lvl,σ.n,σ.keep,erS σ.sl,erO σ.ob,σ.rnd,σ.dfs⟩
section
variable {α β:Type} (f:α→β)
theorem qHe (h:List (Nat×α)) (k:Nat):get (h.map fun e=>(e.1,f e.2)) k=(get h k).map f:=by
 induction h with
 | nil=>simp only [List.map_nil,get_nil,Option.map_none]
 | cons e r ih=>
  obtain ⟨a,x⟩:=e
  simp only [List.map_cons,get_nil,zK]
  split
  ·rfl
  ·exact ih
theorem qy7 (h:List (Nat×α)) (k:Nat) (x:α):(ins k x h).map (fun e=>(e.1,f e.2))=ins k (f x) (h.map fun e=>(e.1,f e.2)):=by
 induction h with
 | nil=>simp only [List.map_nil,qpo,List.map_cons]
 | cons e r ih=>
  obtain ⟨a,y⟩:=e
  simp only [qpo,qqT,List.map_cons]
  split
  ·rfl
  ·split
   ·rfl
   ·simp only [List.map_cons,ih]
theorem qsa (h:List (Nat×α)) (ks:List Nat):qD ks (h.map fun e=>(e.1,f e.2))=(qD ks h).map fun e=>(e.1,f e.2):=by
 rw [qaT,qaT]
 rw [List.filter_map]
 rfl
theorem qUY (h:List (Nat×α)):dom (h.map fun e=>(e.1,f e.2))=dom h:=by
 unfold dom
 rw [List.map_map]
 rfl
theorem qLY (l h:List (Nat×α)):(WS l h).map (fun e=>(e.1,f e.2))=WS (l.map fun e=>(e.1,f e.2)) (h.map fun e=>(e.1,f e.2)):=by
 induction l with
 | nil=>rfl
 | cons e r ih=>
  obtain ⟨a,x⟩:=e
  simp only [WS,List.map_cons,qy7,ih]
end
theorem qiH (sl:List (Nat×TV)) (k:Nat):get (erS sl) k=(get sl k).map TV.er:=qHe TV.er sl k
theorem vM (h:THp) (k:Nat):get (erO h) k=(get h k).map TOb.er:=qHe TOb.er h k
theorem qn1 (sl:List (Nat×TV)) (k:Nat) (x:TV):erS (ins k x sl)=ins k x.er (erS sl):=qy7 TV.er sl k x
theorem YC (h:THp) (k:Nat) (x:TOb):erO (ins k x h)=ins k x.er (erO h):=qy7 TOb.er h k x
theorem qAc (sl:List (Nat×TV)) (ks:List Nat):qD ks (erS sl)=erS (qD ks sl):=qsa TV.er sl ks
theorem qgw (h:THp) (ks:List Nat):qD ks (erO h)=erO (qD ks h):=qsa TOb.er h ks
theorem qgg (h:THp):dom (erO h)=dom h:=qUY TOb.er h
def W6 (T:List Nat) (h ob:THp):THp:=WS h (ob.filter fun e=>!has T e.1)
theorem qA_ (T:List Nat) (h ob:THp):erO (W6 T h ob)=merge T (erO h) (erO ob):=by
 unfold W6 merge
 rw [show erO (WS h (ob.filter fun e=>!has T e.1))=WS (erO h) (erO (ob.filter fun e=>!has T e.1)) from qLY TOb.er _ _]
 congr 1
 unfold erO
 rw [List.filter_map]
 rfl
inductive Tree (α:Type):Type 1 where
 | ret (a:α)
 | no
 | cond (b:Bool) (s t:Tree α)
 | chk (p:Prop) [d:Decidable p] (t:Tree α)
 | bind {β:Type} (o:Option β) (k:β→Tree α)
 | opt {β:Type} (o:Option β) (s:Tree α) (k:β→Tree α)
 | sum {β δ:Type} (x:β⊕δ) (f:β→Tree α) (g:δ→Tree α)
def Tree.Has {α:Type}:Tree α→α→Prop
 | .ret a,z=>a=z
 | .no,_=>False
 | .cond b s t,z=>(b=true∧s.Has z)∨(b=false∧t.Has z)
 | @Tree.chk _ p _ t,z=>p∧t.Has z
 | .bind o k,z=>∃ x,o=some x∧(k x).Has z
 | .opt o s k,z=>(o=none∧s.Has z)∨∃ x,o=some x∧(k x).Has z
 | .sum x f g,z=>(∃ a,x=.inl a∧(f a).Has z)∨∃ b,x=.inr b∧(g b).Has z
def Tree.map {α γ:Type} (g:α→γ):Tree α→Tree γ
 | .ret a=>.ret (g a)
 | .no=>.no
 | .cond b s t=>.cond b (s.map g) (t.map g)
 | @Tree.chk _ p d t=>@Tree.chk _ p d (t.map g)
 | .bind o k=>.bind o fun x=>(k x).map g
 | .opt o s k=>.opt o (s.map g) fun x=>(k x).map g
 | .sum x f h=>.sum x (fun a=>(f a).map g) fun b=>(h b).map g
def Tree.run {α R:Type} (n:α→Option R):Tree α→Option R
 | .ret a=>n a
 | .no=>none
 | .cond b s t=>_root_.cond b (s.run n) (t.run n)
 | @Tree.chk _ p d t=>@Rx.chk _ p d (t.run n)
 | .bind o k=>o.bind fun x=>(k x).run n
 | .opt o s k=>qMT o (s.run n) fun x=>(k x).run n
 | .sum x f g=>match x with
  | .inl a=>(f a).run n
  | .inr b=>(g b).run n
theorem Tree.YW {α γ:Type} {g:α→γ}:∀ {t:Tree α} {z:α},t.Has z→(t.map g).Has (g z)
 | .ret a,z,h=>by simp only [Tree.Has] at h; subst h; rfl
 | .no,_,h=>h.elim
 | .cond b s t,z,h=>Or.imp (fun h=>⟨h.1,YW h.2⟩) (fun h=>⟨h.1,YW h.2⟩) h
 | @Tree.chk _ p d t,z,h=>⟨h.1,YW h.2⟩
 | .bind o k,z,⟨x,h1,h2⟩=>⟨x,h1,YW h2⟩
 | .opt o s k,z,h=>Or.imp (fun h=>⟨h.1,YW h.2⟩) (fun ⟨x,h1,h2⟩=>⟨x,h1,YW h2⟩) h
 | .sum x f k,z,h=>Or.imp (fun ⟨x,h1,h2⟩=>⟨x,h1,YW h2⟩) (fun ⟨x,h1,h2⟩=>⟨x,h1,YW h2⟩) h
theorem Tree.J9 {α R:Type} {n:α→Option R}:∀ {t:Tree α} {z:R},t.run n=some z→∃ a,t.Has a∧n a=some z
 | .ret a,z,h=>⟨a,rfl,h⟩
 | .no,_,h=>by simp [Tree.run] at h
 | .cond b s t,z,h=>by
  simp only [Tree.run] at h
  rcases qim h with ⟨hb,h⟩ | ⟨hb,h⟩
  ·obtain ⟨a,h1,h2⟩:=J9 h; exact ⟨a,.inl ⟨hb,h1⟩,h2⟩
  ·obtain ⟨a,h1,h2⟩:=J9 h; exact ⟨a,.inr ⟨hb,h1⟩,h2⟩
 | @Tree.chk _ p d t,z,h=>by
  simp only [Tree.run] at h
  obtain ⟨hp,h⟩:=Yn h
  obtain ⟨a,h1,h2⟩:=J9 h; exact ⟨a,⟨hp,h1⟩,h2⟩
 | .bind o k,z,h=>by
  simp only [Tree.run] at h
  obtain ⟨x,hx,h⟩:=bind_some h
  obtain ⟨a,h1,h2⟩:=J9 h; exact ⟨a,⟨x,hx,h1⟩,h2⟩
 | .opt o s k,z,h=>by
  simp only [Tree.run] at h
  rcases qI9 h with ⟨ho,h⟩ | ⟨x,hx,h⟩
  ·obtain ⟨a,h1,h2⟩:=J9 h; exact ⟨a,.inl ⟨ho,h1⟩,h2⟩
  ·obtain ⟨a,h1,h2⟩:=J9 h; exact ⟨a,.inr ⟨x,hx,h1⟩,h2⟩
 | .sum x f g,z,h=>by
  cases x with
  | inl b=>obtain ⟨a,h1,h2⟩:=J9 (t:=f b) h; exact ⟨a,.inl ⟨b,rfl,h1⟩,h2⟩
  | inr b=>obtain ⟨a,h1,h2⟩:=J9 (t:=g b) h; exact ⟨a,.inr ⟨b,rfl,h1⟩,h2⟩
end Go.Rx
end
noncomputable section
namespace Go.Rx
variable {α β γ:Type} [CT]
theorem All.app:∀ {ps qs:List Prop},All ps→All qs→All (ps++qs)
 | [],_,_,h=>h
 | [p],qs,h,k=>All.cons h k
 | p::q::ps,qs,h,k=>All.cons h.1 (All.app (ps:=q::ps) h.2 k)
def OkG (r:R β) (er:γ→β) (κ:γ→Tree α) (z:α):Prop:=∃ x ps,r=some (er x,ps)∧All ps∧(κ x).Has z
abbrev Ok (r:R AV) (κ:TV→Tree α) (z:α):Prop:=OkG r TV.er κ z
theorem OkG.pure {er:γ→β} {κ:γ→Tree α} {z:α} {x:γ} {y:β} (h:(κ x).Has z) (he:y=er x):OkG (qA y) er κ z:=⟨x,[],by rw [he]; rfl,trivial,h⟩
theorem OkG.owe {er:γ→β} {κ:γ→Tree α} {z:α} {x:γ} {y:β} {p:Prop} (h:(κ x).Has z) (hp:p) (he:y=er x):OkG (owe p y) er κ z:=⟨x,[p],by rw [he]; rfl,hp,h⟩
theorem OkG.qR {er:γ→β} {κ:γ→Tree α} {z:α} {r:R β} {b:Bool} (hb:b=true) (h:OkG r er κ z):OkG (qR b r) er κ z:=by subst hb; exact h
theorem OkG.with {δ:Type} {er:γ→β} {z:α} {r:R β} {β':Type} {f:β→R β'} {er':δ→β'} {κ:δ→Tree α} {κ':γ→Tree α} (h:OkG r er κ' z) (hf:∀ x,(κ' x).Has z→OkG (f (er x)) er' κ z):OkG (r.with f) er' κ z:=by
 obtain ⟨x,ps,rfl,hp,h⟩:=h
 obtain ⟨y,qs,he,hq,h⟩:=hf x h
 exact ⟨y,ps++qs,by simp only [R.with,he],hp.app hq,h⟩
def grd (b:Bool) (t:Tree α):Tree α:=match b with
 | true=>t
 | false=>.no
theorem q8 {b:Bool} {t:Tree α} {z:α} (h:(grd b t).Has z):b=true∧t.Has z:=by
 cases b
 ·exact h.elim
 ·exact ⟨rfl,h⟩
def tvs:(ts:List Ty)→Els ts→List TV
 | [],_=>[]
 | t::ts,x=>.tv t (hd ts x)::tvs ts (tl ts x)
theorem qSJ:∀ (ts:List Ty) (x:Els ts),(tvs ts x).map TV.er=(qeh ts x).map AV.pv
 | [],_=>rfl
 | t::ts,x=>by simp only [tvs,qeh,List.map_cons,TV.er,qSJ ts]
def qCj:TV→Option (List TV)
 | .tv (.ag ts) x=>some (tvs ts x)
 | .ag xs=>some xs
 | _=>none
def TV.qd9:TV→Option ((t:Ty)×El t)
 | .tv t x=>some ⟨t,x⟩
 | .bc x=>some ⟨.b,x⟩
 | .ic k x=>some ⟨.i k,x⟩
 | _=>none
theorem qb5 {x:TV} {t:Ty} {y:El t} (h:x.qd9=some ⟨t,y⟩):x.er=.pv (qF t y):=by
 cases x<;>simp only [TV.qd9,Option.some.injEq,reduceCtorEq] at h
 ·cases h; rfl
 ·cases h; rfl
 ·cases h; rfl
def qed:List TV→Option ((ts:List Ty)×Els ts)
 | []=>some ⟨[],()⟩
 | x::xs=>match x.qd9,qed xs with
  | some ⟨t,y⟩,some ⟨ts,ys⟩=>some ⟨t::ts,mkE ts y ys⟩
  | _,_=>none
theorem qBZ:∀ {xs:List TV} {ts:List Ty} {ys:Els ts},qed xs=some ⟨ts,ys⟩→AV.Z7 (TV.ers xs)=some (qeh ts ys)
 | [],ts,ys,h=>by
  simp only [qed,Option.some.injEq] at h
  cases h; rfl
 | x::xs,ts,ys,h=>by
  simp only [qed] at h
  split at h
  ·rename_i t y ts' ys' h1 h2
   simp only [Option.some.injEq] at h
   cases h
   simp only [TV.ers,qb5 h1,AV.Z7,qBZ h2,Option.map_some,qeh,qYO,qY1]
  ·simp at h
theorem qjU:∀ {xs:List TV},qed xs=none→AV.Z7 (TV.ers xs)=none
 | [],h=>by simp [qed] at h
 | x::xs,h=>by
  simp only [qed] at h
  split at h
  ·simp at h
  ·rename_i hno
   cases x<;>simp only [TV.ers,TV.er,AV.Z7]
   all_goals
    cases hx:qed xs with
    | none=>rw [qjU hx]; rfl
    | some r=>obtain ⟨ts,ys⟩:=r; exact (hno _ _ _ _ rfl hx).elim
def TV.mk (xs:List TV):TV:=match qed xs with
 | some ⟨ts,x⟩=>.tv (.ag ts) x
 | none=>.ag xs
theorem qAP (xs:List TV):(TV.mk xs).er=AV.mk (TV.ers xs):=by
 unfold TV.mk AV.mk
 cases h:qed xs with
 | none=>rw [qjU h]; rfl
 | some r=>obtain ⟨ts,x⟩:=r; rw [qBZ h]; rfl
def tat:List Nat→TV→Option TV
 | [],x=>some x
 | k::r,x=>match qCj x with
  | some xs=>match xs[k]? with
   | some y=>tat r y
   | none=>none
  | none=>match r,x with
   | [],.tv (.ba _) v=>some (.tv (.i .u8) (((Vector.toList v).getD k 0).toNat:Int))
   | [],.tv (.wa _) v=>some (.tv (.i .u32) (((Vector.toList v).getD k 0).toNat:Int))
   | _,_=>none
theorem qyV {x:TV} {xs:List TV} (h:qCj x=some xs):(∃ ys,x.er=.pv (.ag ys)∧ys.map AV.pv=xs.map TV.er)∨x.er=.ag (TV.ers xs):=by
 cases x<;>simp only [qCj,reduceCtorEq] at h
 ·rename_i t y
  cases t<;>simp only [Option.some.injEq,reduceCtorEq] at h
  subst h
  exact .inl ⟨_,rfl,(qSJ _ _).symm⟩
 ·cases h; exact .inr rfl
theorem qcE:∀ {p:List Nat} {x y:TV},tat p x=some y→AV.at p x.er=some y.er
 | [],x,y,h=>by
  simp only [tat,Option.some.injEq] at h
  subst h
  rfl
 | k::r,x,y,h=>by
  simp only [tat] at h
  split at h
  ·rename_i xs hc
   split at h
   ·rename_i w hw
    have ih:=qcE h
    rcases qyV hc with ⟨ys,he,hy⟩ | he
    ·have h1:(ys.map AV.pv)[k]?=some w.er:=by rw [hy,List.getElem?_map,hw]; rfl
     rw [List.getElem?_map] at h1
     cases hk:ys[k]? with
     | none=>rw [hk] at h1; simp at h1
     | some u=>
      rw [hk] at h1
      simp only [Option.map_some,Option.some.injEq] at h1
      rw [he]
      simp only [AV.at,hk,h1]
      exact ih
    ·rw [he]
     have h1:(TV.ers xs)[k]?=some w.er:=by rw [XZ,List.getElem?_map,hw]; rfl
     simp only [AV.at,h1]
     exact ih
   ·simp at h
  ·split at h<;>first | (simp at h; done) | skip
   all_goals
    simp only [Option.some.injEq] at h
    subst h
    rfl
def Xb:TV→Option (IntKind×Int)
 | .tv (.i k) n=>some (k,n)
 | .ic k n=>some (k,n)
 | _=>none
theorem KA {x:TV} {k:IntKind} {n:Int} (h:Xb x=some (k,n)):x.er=.pv (.i k n):=by
 cases x<;>simp only [Xb,reduceCtorEq] at h
 ·rename_i t y
  cases t<;>simp only [Option.some.injEq,reduceCtorEq] at h
  cases h; rfl
 ·cases h; rfl
def isC:TV→Bool
 | .ic _ _=>true
 | _=>false
def qnI:TV→Option (List UInt8)
 | .tv .s x=>some x
 | _=>none
theorem qww {x:TV} {s:List UInt8} (h:qnI x=some s):x.er=.pv (.s s):=by
 cases x<;>simp only [qnI,reduceCtorEq] at h
 rename_i t y
 cases t<;>simp only [Option.some.injEq,reduceCtorEq] at h
 cases h; rfl
def qtP:TV→Option Bool
 | .tv .b x=>some x
 | .bc x=>some x
 | _=>none
theorem qMG {x:TV} {s:Bool} (h:qtP x=some s):x.er=.pv (.b s):=by
 cases x<;>simp only [qtP,reduceCtorEq] at h
 ·rename_i t y
  cases t<;>simp only [Option.some.injEq,reduceCtorEq] at h
  cases h; rfl
 ·cases h; rfl
def qB9 (k:IntKind) (e:Int) (κ:TV→Tree α):Tree α:=match k with
 | .i64=>.chk (qw e) (κ (.tv (.i .i64) e))
 | k=>κ (.tv (.i k) (k.wrap e))
theorem qzs {k:IntKind} {e:Int} {κ:TV→Tree α} {z:α} (h:(qB9 k e κ).Has z):∃ tv:TV,tv.er=.pv (.i k (k.wrap e))∧(κ tv).Has z:=by
 unfold qB9 at h
 split at h
 ·exact ⟨_,by rw [wrap64 h.1]; rfl,h.2⟩
 ·exact ⟨_,rfl,h⟩
def qqa (c:Bool) (k:IntKind) (e:Int) (κ:TV→Tree α):Tree α:=match c,k with
 | true,.i64=>match decide (qw e) with
  | true=>κ (.ic .i64 e)
  | false=>qB9 .i64 e κ
 | _,k=>qB9 k e κ
theorem qyQ {c:Bool} {k:IntKind} {e:Int} {κ:TV→Tree α} {z:α} (h:(qqa c k e κ).Has z):∃ tv:TV,tv.er=.pv (.i k (k.wrap e))∧(κ tv).Has z:=by
 unfold qqa at h
 split at h
 ·split at h
  ·rename_i hd
   exact ⟨_,by rw [wrap64 (of_decide_eq_true hd)]; rfl,h⟩
  ·exact qzs h
 ·exact qzs h
def qqz (c b:Bool) (κ:TV→Tree α):Tree α:=match c with
 | true=>κ (.bc b)
 | false=>κ (.tv .b b)
theorem qU3 {c b:Bool} {κ:TV→Tree α} {z:α} (h:(qqz c b κ).Has z):∃ tv:TV,tv.er=.pv (.b b)∧(κ tv).Has z:=by
 cases c<;>exact ⟨_,rfl,h⟩
def qCQ (c:Bool) (op:BinOp) (k:IntKind) (a b:Int) (κ:TV→Tree α):Tree α:=match op with
 | .add=>qqa c k (a + b) κ
 | .sub=>qqa c k (a - b) κ
 | .mul=>qqa c k (a * b) κ
 | .quo=>.chk (b≠0) (qB9 k (a.tdiv b) κ)
 | .rem=>.chk (b≠0) (κ (.tv (.i k) (a.tmod b)))
 | .and=>κ (.tv (.i k) (k.wrap (BitVec.ofInt k.bits a &&& BitVec.ofInt k.bits b).toNat))
 | .or=>κ (.tv (.i k) (k.wrap (BitVec.ofInt k.bits a ||| BitVec.ofInt k.bits b).toNat))
 | .xor=>κ (.tv (.i k) (k.wrap (BitVec.ofInt k.bits a ^^^ BitVec.ofInt k.bits b).toNat))
 | .andNot=>κ (.tv (.i k) (k.wrap (BitVec.ofInt k.bits a &&& ~~~BitVec.ofInt k.bits b).toNat))
 | .eql=>qqz c (decide (a=b)) κ
 | .neq=>qqz c (!decide (a=b)) κ
 | .lss=>qqz c (decide (a < b)) κ
 | .leq=>qqz c (decide (a≤b)) κ
 | .gtr=>qqz c (decide (b < a)) κ
 | .geq=>qqz c (decide (b≤a)) κ
 | _=>.no
theorem K9 {r:R PV} {κ:TV→Tree α} {z:α} {y:PV} {ps:List Prop} (hr:r=some (y,ps)) (hp:All ps) (h:∃ tv:TV,tv.er=.pv y∧(κ tv).Has z):Ok (rPV r) κ z:=by
 obtain ⟨tv,he,h⟩:=h
 exact ⟨tv,ps,by rw [hr,he]; rfl,hp,h⟩
theorem qPj {c:Bool} {op:BinOp} {k:IntKind} {a b:Int} {κ:TV→Tree α} {z:α} (h:(qCQ c op k a b κ).Has z):Ok (rPV (qvf op k a b)) κ z:=by
 cases op<;>simp only [qCQ] at h<;>first
  | exact K9 rfl trivial (qyQ h)
  | exact K9 rfl trivial (qU3 h)
  | exact K9 rfl h.1 (qzs h.2)
  | exact K9 rfl h.1 ⟨_,rfl,h.2⟩
  | exact K9 rfl trivial ⟨_,rfl,h⟩
  | exact h.elim
def qIb (op:BinOp) (k:IntKind) (a b:Int) (κ:TV→Tree α):Tree α:=match op with
 | .shl=>.chk (0≤b) (κ (.tv (.i k) (k.wrap (a * 2 ^ min b.toNat k.bits))))
 | .shr=>.chk (0≤b) (κ (.tv (.i k) (a.fdiv (2 ^ min b.toNat k.bits))))
 | _=>.no
theorem qPG {op:BinOp} {k:IntKind} {a b:Int} {κ:TV→Tree α} {z:α} (h:(qIb op k a b κ).Has z):Ok (rPV (qqW op k a b)) κ z:=by
 cases op<;>simp only [qIb] at h<;>first
  | exact K9 rfl h.1 ⟨_,rfl,h.2⟩
  | exact h.elim
def qCP (op:BinOp) (a b:List UInt8) (κ:TV→Tree α):Tree α:=match op with
 | .add=>.chk (qNc (a.length + b.length)) (κ (.tv .s (a++b)))
 | .eql=>κ (.tv .b (decide (a=b)))
 | .neq=>κ (.tv .b (!decide (a=b)))
 | .lss=>κ (.tv .b (Op.bytesLess a b))
 | .leq=>κ (.tv .b (Op.bytesLess a b||decide (a=b)))
 | .gtr=>κ (.tv .b (!(Op.bytesLess a b||decide (a=b))))
 | .geq=>κ (.tv .b (!Op.bytesLess a b))
 | _=>.no
theorem qNh {op:BinOp} {a b:List UInt8} {κ:TV→Tree α} {z:α} (h:(qCP op a b κ).Has z):Ok (rPV (qAH op a b)) κ z:=by
 cases op<;>simp only [qCP] at h<;>first
  | exact K9 rfl trivial ⟨_,rfl,h⟩
  | exact K9 rfl h.1 ⟨_,rfl,h.2⟩
  | exact h.elim
def qOu (P:Program) (t:TypeId) (x y:TV) (κ:TV→Tree α):Tree α:=match qy P t,x,y with
 | some (.slice _),.tv (.sl _ _) xs,.nils=>.chk (List.isEmpty xs=false) (κ (.bc false))
 | some (.slice _),.tv .bl xs,.nils=>.chk (List.isEmpty xs=false) (κ (.bc false))
 | some (.slice _),.v _ n,.nils=>.chk (n≠0) (κ (.bc false))
 | some (.slice _),.nils,.nils=>κ (.bc true)
 | some (.ptr _),.nilp,.nilp=>κ (.bc true)
 | some (.ptr _),.p _ _ _,.nilp=>κ (.bc false)
 | some (.ptr _),.pa _ _ _ _,.nilp=>κ (.bc false)
 | some (.ptr _),.pe _ _ _ _ _ _,.nilp=>κ (.bc false)
 | some (.ptr _),.ro _ _,.nilp=>κ (.bc false)
 | some .func,.nilf,.nilf=>κ (.bc true)
 | some .func,.fn _ _ _,.nilf=>κ (.bc false)
 | some (.map _ _),.nilm,.nilm=>κ (.bc true)
 | some (.map _ _),.m _,.nilm=>κ (.bc false)
 | some .iface,.iface _ _,.nili=>κ (.bc false)
 | some (.slice _),.es k,.nils=>κ (.bc (Nat.beq k 1))
 | _,x,y=>match x.qd9,y.qd9 with
  | some ⟨t1,x1⟩,some ⟨t2,y2⟩=>match cast? t2 t1 y2 with
   | some y1=>grd (zj P t x.er&&zj P t y.er&&eqT P 30 t&&!(P.eqGuardType P.depth t)&&eqK t1) (κ (.tv .b (eqE t1 x1 y1)))
   | none=>.no
  | _,_=>.no
theorem qss {α:Type} {xs:List α} (h:xs.isEmpty=false):xs≠[]:=by intro e; subst e; simp at h
theorem qXI {P:Program} {t:TypeId} {x y:PV} {b:Bool} (hb:(zj P t (.pv x)&&zj P t (.pv y)&&eqT P 30 t&&!(P.eqGuardType P.depth t))=true) (he:PV.eqb x y=some b):eqA P t (.pv x) (.pv y)=some (b,[]):=by
 cases hk:qy P t with
 | none=>simp only [eqA,hk,hb,he]; rfl
 | some k=>cases k<;>(simp only [eqA,hk,hb,he]; rfl)
theorem qwg {P:Program} {t:TypeId} {x y:AV} {tv:TV} {b:Bool} {κ:TV→Tree α} {z:α} (hb:qtP tv=some b) (he:eqA P t x y=some (b,[])) (h:(κ tv).Has z):∃ tv b ps,qtP tv=some b∧eqA P t x y=some (b,ps)∧All ps∧(κ tv).Has z:=⟨tv,b,[],hb,he,trivial,h⟩
theorem qMx {P:Program} {t:TypeId} {x y:TV} {κ:TV→Tree α} {z:α} (h:(qOu P t x y κ).Has z):∃ tv b ps,qtP tv=some b∧eqA P t x.er y.er=some (b,ps)∧All ps∧(κ tv).Has z:=by
 unfold qOu at h
 split at h
 case h_16=>
  split at h
  ·rename_i h1 h2
   split at h
   ·rename_i hc
    obtain ⟨hb,h⟩:=q8 h
    simp only [Bool.and_eq_true] at hb
    have e1:=qb5 h1
    have e2:=qb5 h2
    rw [cast?_pv hc] at e2
    refine qwg rfl ?_ h
    rw [e1,e2] at hb ⊢
    exact qXI (by simp only [Bool.and_eq_true]; exact hb.1) (qHD _ _ _ hb.2)
   ·exact h.elim
  ·exact h.elim
 case h_1=>
  rename_i hk
  exact ⟨_,false,[_],rfl,by simp only [TV.er,qF,eqA,hk]; rfl,qX7 (qss h.1),h.2⟩
 case h_2=>
  rename_i hk
  exact ⟨_,false,[_],rfl,by simp only [TV.er,qF,eqA,hk]; rfl,qss h.1,h.2⟩
 case h_3=>
  rename_i hk
  exact ⟨_,false,[_],rfl,by simp only [TV.er,qF,eqA,hk]; rfl,h.1,h.2⟩
 all_goals
  rename_i hk
  first
   | exact qwg (tv:=.bc false) rfl (by simp only [TV.er,qF,eqA,hk]; rfl) h
   | exact qwg (tv:=.bc true) rfl (by simp only [TV.er,qF,eqA,hk]; rfl) h
   | exact qwg (tv:=.bc (Nat.beq _ 1)) rfl (by simp only [TV.er,qF,eqA,hk]; rfl) h
def qOi:TV→TV
 | .bc b=>.bc (!b)
 | .tv .b x=>.tv .b (!x)
 | x=>x
theorem qM6 {x:TV} {b:Bool} (h:qtP x=some b):(qOi x).er=.pv (.b (!b)):=by
 cases x<;>simp only [qtP,reduceCtorEq] at h
 ·rename_i t y
  cases t<;>simp only [Option.some.injEq,reduceCtorEq] at h
  cases h; rfl
 ·cases h; rfl
def qTC (P:Program) (op:BinOp) (t:TypeId) (x y:TV) (κ:TV→Tree α):Tree α:=match Xb x,Xb y with
 | some (k,a),some (j,b)=>match qDs op with
  | true=>qIb op k a b κ
  | false=>grd (qHO k j) (qCQ (isC x&&isC y) op k a b κ)
 | _,_=>match qnI x,qnI y with
  | some a,some b=>qCP op a b κ
  | _,_=>match op with
   | .eql=>qOu P t x y κ
   | .neq=>qOu P t x y fun v=>κ (qOi v)
   | _=>.no
theorem qKz {P : Program} {t : TypeId} {x y : AV} (hx : ∀ k a j b, x = .pv (.i k a) → y = .pv (.i j b) → False) (hs : ∀ a b, x = .pv (.s a) → y = .pv (.s b) → False) (op : BinOp) : qyW P op t x y = (match op with
    | .eql=>match eqA P t x y with
     | some (b,ps)=>some (.pv (.b b),ps)
     | none=>none
    | .neq=>match eqA P t x y with
     | some (b,ps)=>some (.pv (.b (!b)),ps)
     | none=>none
    | _=>none):=by
 unfold qyW
 split
 ·exact (hx _ _ _ _ rfl rfl).elim
 ·exact (hs _ _ rfl rfl).elim
 ·rfl
theorem qEF {x:TV} (h:Xb x=none):∀ k a,x.er≠.pv (.i k a):=by
 intro k a he
 cases x<;>simp only [TV.er,reduceCtorEq,AV.pv.injEq] at he
 ·rename_i t y
  cases t<;>simp only [qF,reduceCtorEq] at he
  simp [Xb] at h
 ·simp [Xb] at h
theorem qE1 {x:TV} (h:qnI x=none):∀ a,x.er≠.pv (.s a):=by
 intro a he
 cases x<;>simp only [TV.er,reduceCtorEq,AV.pv.injEq] at he
 ·rename_i t y
  cases t<;>simp only [qF,reduceCtorEq] at he
  simp [qnI] at h
theorem qXg {P:Program} {op:BinOp} {t:TypeId} {x y:TV} {κ:TV→Tree α} {z:α} (h:(qTC P op t x y κ).Has z):Ok (qyW P op t x.er y.er) κ z:=by
 unfold qTC at h
 split at h
 ·rename_i k a j b h1 h2
  rw [KA h1,KA h2]
  unfold qyW
  simp only
  split at h
  ·rename_i hs; simp only [hs]; exact qPG h
  ·rename_i hs
   simp only [hs]
   obtain ⟨hk,h⟩:=q8 h
   exact OkG.qR (decide_eq_true (qDN hk)) (qPj h)
 ·rename_i hno
  split at h
  ·rename_i a b h1 h2
   rw [qww h1,qww h2]
   exact qNh h
  ·rename_i hno2
   rw [qKz (fun k a j b e1 e2=>by
    cases hx:Xb x with
    | none=>exact qEF hx _ _ e1
    | some p=>cases hy:Xb y with
     | none=>exact qEF hy _ _ e2
     | some q=>exact hno _ _ _ _ hx hy) (fun a b e1 e2=>by
    cases hx:qnI x with
    | none=>exact qE1 hx _ e1
    | some p=>cases hy:qnI y with
     | none=>exact qE1 hy _ e2
     | some q=>exact hno2 _ _ hx hy)]
   split at h
   ·obtain ⟨tv,b,ps,h1,h2,h3,h4⟩:=qMx h
    simp only [h2]
    exact ⟨tv,ps,by rw [qMG h1],h3,h4⟩
   ·obtain ⟨tv,b,ps,h1,h2,h3,h4⟩:=qMx h
    simp only [h2]
    exact ⟨qOi tv,ps,by rw [qM6 h1],h3,h4⟩
   ·exact h.elim
end Go.Rx
end
noncomputable section
namespace Go.Rx
variable {α β γ:Type} [CT]
def tun (op:UnOp) (x:TV) (κ:TV→Tree α):Tree α:=match op with
 | .not=>match qtP x with
  | some _=>κ (qOi x)
  | none=>.no
 | .neg=>match Xb x with
  | some (k,n)=>qqa (isC x) k (0 - n) κ
  | none=>.no
 | .xor=>match Xb x with
  | some (k,n)=>κ (.tv (.i k) (k.wrap (BitVec.ofInt k.bits (if k.signed then -1 else k.max) ^^^ BitVec.ofInt k.bits n).toNat))
  | none=>.no
 | _=>.no
theorem qYA {op:UnOp} {x:TV} {κ:TV→Tree α} {z:α} (h:(tun op x κ).Has z):Ok (unA op x.er) κ z:=by
 cases op<;>simp only [tun] at h
 case not=>
  split at h
  ·rename_i b hb
   rw [qMG hb]
   exact OkG.pure h (qM6 hb).symm
  ·exact h.elim
 case neg=>
  split at h
  ·rename_i k n hn
   rw [KA hn]
   obtain ⟨tv,he,h⟩:=qyQ h
   exact OkG.pure h he.symm
  ·exact h.elim
 case xor=>
  split at h
  ·rename_i k n hn
   rw [KA hn]
   exact K9 rfl trivial ⟨_,rfl,h⟩
  ·exact h.elim
 all_goals exact h.elim
def qOO (P:Program) (src dst:TypeId) (x:TV) (κ:TV→Tree α):Tree α:=match qy P src,qy P dst with
 | some (.int _),some (.int k)=>match Xb x with
  | some (_,n)=>qqa (isC x) k n κ
  | none=>.no
 | some .str,some .str=>match qnI x with
  | some s=>κ (.tv .s s)
  | none=>.no
 | some .str,some (.slice e)=>match qnI x with
  | some s=>grd (Jm P e) (.chk (qmS s.length) (κ (.tv .bl s)))
  | none=>.no
 | some (.slice e),some .str=>match x with
  | .tv .bl s=>grd (Jm P e) (κ (.tv .s s))
  | .nils=>grd (Jm P e) (κ (.tv .s ([]:List UInt8)))
  | _=>.no
 | _,_=>.no
theorem qT1 {P:Program} {src dst:TypeId} {x:TV} {κ:TV→Tree α} {z:α} (h:(qOO P src dst x κ).Has z):Ok (qjW P src dst x.er) κ z:=by
 unfold qOO at h
 split at h
 ·rename_i k1 k2
  split at h
  ·rename_i hn
   rw [KA hn]
   obtain ⟨tv,he,h⟩:=qyQ h
   simp only [qjW,k1,k2]
   exact OkG.pure h he.symm
  ·exact h.elim
 ·rename_i k1 k2
  split at h
  ·rename_i hn
   rw [qww hn]
   simp only [qjW,k1,k2]
   exact OkG.pure h rfl
  ·exact h.elim
 ·rename_i k1 k2
  split at h
  ·rename_i hn
   obtain ⟨hb,h⟩:=q8 h
   rw [qww hn]
   simp only [qjW,k1,k2]
   exact OkG.qR hb (OkG.owe h.2 h.1 rfl)
  ·exact h.elim
 ·rename_i k1 k2
  split at h
  ·obtain ⟨hb,h⟩:=q8 h
   simp only [qjW,k1,k2,TV.er,qF]
   exact OkG.qR hb (OkG.pure h rfl)
  ·obtain ⟨hb,h⟩:=q8 h
   simp only [qjW,k1,k2,TV.er]
   exact OkG.qR hb (OkG.pure h rfl)
  ·exact h.elim
 ·exact h.elim
def qAX (t:Ty) (x:El t) (i:Int) (κ:(u:Ty)→El u→Tree α):Tree α:=match t,x with
 | .sl _ u,x=>.bind (zl (α:=El u) x i) fun y=>κ u y
 | .bl,x=>.bind (zl (α:=UInt8) x i) fun y=>κ (.i .u8) (y.toNat:Int)
 | .s,x=>.bind (zl (α:=UInt8) x i) fun y=>κ (.i .u8) (y.toNat:Int)
 | _,_=>.no
def qGV:(t:Ty)→El t→PV
 | .s,x=>.bl x
 | t,x=>qF t x
theorem quG {α:Type} {xs:List α} {i:Int} {y:α} (h:zl xs i=some y):0≤i∧xs[i.toNat]?=some y:=by
 unfold zl at h; split at h
 ·exact ⟨by assumption,h⟩
 ·simp at h
theorem qDf {β:Type} (f:β→PV) (xs:List β) (k:Nat) (y:β) (h:xs[k]?=some y):(xs.map f)[k]?=some (f y):=by rw [List.getElem?_map,h]; rfl
theorem qKj (xs:List UInt8) (k:Nat) (y:UInt8) (h:xs[k]?=some y):(xs[k]?).map u8=some (u8 y):=by rw [h]; rfl
theorem qzJ {t:Ty} {x:El t} {i:Int} {κ:(u:Ty)→El u→Tree α} {z:α} (h:(qAX t x i κ).Has z):OkG (elemAt none (qGV t x) i) (fun y:(u:Ty)×El u=>qF y.1 y.2) (fun y=>κ y.1 y.2) z:=by
 unfold qAX at h
 split at h
 ·rename_i sz u x
  obtain ⟨y,hy,h⟩:=h
  obtain ⟨h0,h1⟩:=quG hy
  have:(qGV (.sl sz u) x).zl i.toNat=some (qF u y):=by
   exact qDf (qF u) _ _ _ h1
  simp only [elemAt,this]
  exact OkG.owe (x:=⟨u,y⟩) h h0 rfl
 ·rename_i x
  obtain ⟨y,hy,h⟩:=h
  obtain ⟨h0,h1⟩:=quG hy
  have:(qGV .bl x).zl i.toNat=some (u8 y):=by
   exact qKj _ _ _ h1
  simp only [elemAt,this]
  exact OkG.owe (x:=⟨.i .u8,_⟩) h h0 rfl
 ·rename_i x
  obtain ⟨y,hy,h⟩:=h
  obtain ⟨h0,h1⟩:=quG hy
  have:(qGV .s x).zl i.toNat=some (u8 y):=by
   exact qKj _ _ _ h1
  simp only [elemAt,this]
  exact OkG.owe (x:=⟨.i .u8,_⟩) h h0 rfl
 ·exact h.elim
theorem OkG.rpv {r:R PV} {κ:(u:Ty)→El u→Tree α} {κ':TV→Tree α} {z:α} (h:OkG r (fun y:(u:Ty)×El u=>qF y.1 y.2) (fun y=>κ y.1 y.2) z) (hk:∀ u y,κ u y=κ' (.tv u y)):Ok (rPV r) κ' z:=by
 obtain ⟨y,ps,rfl,hp,h⟩:=h
 exact ⟨.tv y.1 y.2,ps,rfl,hp,by rw [← hk]; exact h⟩
def qnt (i:Int) (n:Nat) (κ:Nat→Tree α):Tree α:=.chk (0≤i∧i < n) (κ i.toNat)
theorem qcG {i:Int} {n:Nat} {κ:Nat→Tree α} {z:α} (h:(qnt i n κ).Has z):OkG (idx none i n) id κ z:=OkG.owe h.2 h.1 rfl
def tlo (lo:Option TV):Option Int:=match lo with
 | none=>some 0
 | some l=>(Xb l).map (·.2)
def VM (lo hi:Option TV) (n:Nat) (κ:Nat→Option Nat→Tree α):Tree α:=match tlo lo,hi with
 | some l,none=>.chk (0≤l∧l≤(n:Int)) (κ l.toNat none)
 | some l,some h=>match Xb h with
  | some (_,h)=>.chk (0≤l∧l≤h∧h≤(n:Int)) (κ l.toNat (some h.toNat))
  | none=>.no
 | _,_=>.no
theorem jQ {x:TV} {k:IntKind} {n:Int} (h:Xb x=some (k,n)):asInt x.er=some n:=by rw [KA h]; rfl
theorem qs_ {lo hi : Option TV} {n : Nat} {l h : Int} (h1 : tlo lo = some l) (h2 : (hi = none ∧ h = n) ∨ ∃ x k, hi = some x ∧ Xb x = some (k, h)) :
    bounds none (lo.map TV.er) (hi.map TV.er) n=owe (0≤l∧l≤h∧h≤n) (l.toNat,h.toNat):=by
 cases lo with
 | none=>
  simp only [tlo,Option.some.injEq] at h1
  subst h1
  rcases h2 with ⟨rfl,rfl⟩ | ⟨x,k,rfl,hx⟩
  ·rfl
  ·simp only [bounds,Option.map_some,Option.map_none,jQ hx]
 | some y=>
  simp only [tlo] at h1
  cases hy:Xb y with
  | none=>rw [hy] at h1; simp at h1
  | some p=>
   obtain ⟨j,m⟩:=p
   rw [hy] at h1
   simp only [Option.map_some,Option.some.injEq] at h1
   subst h1
   rcases h2 with ⟨rfl,rfl⟩ | ⟨x,k,rfl,hx⟩
   ·simp only [bounds,Option.map_some,Option.map_none,jQ hy]
   ·simp only [bounds,Option.map_some,jQ hx,jQ hy]
theorem qcU {lo hi : Option TV} {n : Nat} {κ : Nat → Option Nat → Tree α} {z : α} (h : (VM lo hi n κ).Has z) :
    OkG (bounds none (lo.map TV.er) (hi.map TV.er) n) (fun p:Nat×Option Nat=>(p.1,p.2.getD n)) (fun p=>κ p.1 p.2) z:=by
 unfold VM at h
 split at h
 ·rename_i l hl
  rw [qs_ hl (.inl ⟨rfl,rfl⟩)]
  exact OkG.owe (x:=(l.toNat,none)) h.2 ⟨h.1.1,h.1.2,Int.le_refl _⟩ (by simp)
 ·rename_i l hv hl
  split at h
  ·rename_i k hh hk
   rw [qs_ hl (.inr ⟨_,_,rfl,hk⟩)]
   exact OkG.owe (x:=(l.toNat,some hh.toNat)) h.2 h.1 rfl
  ·exact h.elim
 ·exact h.elim
def qfz {β:Type} (xs:List β) (l:Nat) (h:Option Nat):List β:=match h with
 | some h=>(xs.take h).drop l
 | none=>xs.drop l
theorem qDU {β:Type} (xs:List β) (l:Nat) (h:Option Nat):(xs.take (h.getD xs.length)).drop l=qfz xs l h:=by
 cases h with
 | none=>simp [qfz]
 | some h=>rfl
def qzI:(t:Ty)→El t→Option Nat
 | .s,x=>some (List.length (α:=UInt8) x)
 | .bl,x=>some (List.length (α:=UInt8) x)
 | .sl _ t,x=>some (List.length (α:=El t) x)
 | _,_=>none
def qd_ (P:Program):Nat→TypeId→Option TV
 | 0,_=>none
 | d + 1,t=>
  match qy P t with
  | some .bool=>some (.bc false)
  | some (.int k)=>some (.ic k 0)
  | some .str=>some (.tv .s ([]:List UInt8))
  | some (.ptr _)=>some .nilp
  | some (.slice _)=>some .nils
  | some (.map _ _)=>some .nilm
  | some .func=>some .nilf
  | some .iface=>some .nili
  | some (.bytes n)=>some (.tv (.ba n) (Vector.replicate n (0:UInt8)))
  | some (.words n)=>some (.tv (.wa n) (Vector.replicate n (0:UInt32)))
  | some (.arr n e)=>(qd_ P d e).map fun z=>TV.mk (List.replicate n z)
  | some (.struct fs)=>(fs.mapM fun f=>qd_ P d f.1).map TV.mk
  | _=>none
theorem qM1 {P:Program} {d:Nat} (ih:∀ t x,qd_ P d t=some x→qid P d t=some x.er):∀ (fs:List (TypeId×Nat)) (xs:List TV),(fs.mapM fun f=>qd_ P d f.1)=some xs→(fs.mapM fun f=>qid P d f.1)=some (xs.map TV.er)
 | [],xs,h=>by
  simp only [List.mapM_nil,Option.pure_def,Option.some.injEq] at h
  subst h; rfl
 | f::fs,xs,h=>by
  simp only [List.mapM_cons,Option.pure_def,Option.bind_eq_bind] at h ⊢
  cases h1:qd_ P d f.1 with
  | none=>rw [h1] at h; simp at h
  | some y=>
   rw [h1] at h
   simp only [Option.bind_some] at h
   cases h2:(fs.mapM fun f=>qd_ P d f.1) with
   | none=>rw [h2] at h; simp at h
   | some ys=>
    rw [h2] at h
    simp only [Option.bind_some,Option.some.injEq] at h
    subst h
    rw [ih _ _ h1,qM1 ih fs ys h2]
    rfl
theorem qzb {P:Program}:∀ (d:Nat) (t:TypeId) (x:TV),qd_ P d t=some x→qid P d t=some x.er
 | 0,_,_,h=>by simp [qd_] at h
 | d + 1,t,x,h=>by
  unfold qd_ at h
  unfold qid
  split at h<;>first
   | (rename_i hk; simp only [Option.some.injEq] at h; subst h; simp only [hk]; rfl)
   | skip
  ·rename_i n e hk
   simp only [hk]
   cases h1:qd_ P d e with
   | none=>rw [h1] at h; simp at h
   | some z=>
    rw [h1] at h
    simp only [Option.map_some,Option.some.injEq] at h
    subst h
    rw [qzb d e z h1,qAP,XZ]
    simp
  ·rename_i fs hk
   simp only [hk]
   cases h1:(fs.mapM fun f=>qd_ P d f.1) with
   | none=>rw [h1] at h; simp at h
   | some zs=>
    rw [h1] at h
    simp only [Option.map_some,Option.some.injEq] at h
    subst h
    rw [qM1 (qzb d) fs zs h1,qAP,XZ]
    rfl
  ·simp at h
def YY (P:Program) (t:TypeId):Option TV:=match zeroOf P t,qd_ P 20 t with
 | some _,some z=>some z
 | _,_=>none
theorem K2 {P:Program} {t:TypeId} {x:TV} (h:YY P t=some x):zeroOf P t=some x.er:=by
 unfold YY at h
 split at h
 ·rename_i a b h1 h2
  simp only [Option.some.injEq] at h
  subst h
  have:=qzb _ _ _ h2
  unfold zeroOf at h1 ⊢
  rw [this] at h1 ⊢
  simp only at h1 ⊢
  split at h1
  ·rename_i hc; rw [if_pos hc]
  ·simp at h1
 ·simp at h
def inB (n:Int):Prop:=0≤n∧n < 256
instance (n:Int):Decidable (inB n):=by unfold inB; infer_instance
def inW (n:Int):Prop:=0≤n∧n < 4294967296
instance (n:Int):Decidable (inW n):=by unfold inW; infer_instance
def qY7 (n:Int) (κ:UInt8→Tree α):Tree α:=.chk (inB n) (κ (UInt8.ofNat n.toNat))
def qY3 (n:Int) (κ:UInt32→Tree α):Tree α:=.chk (inW n) (κ (UInt32.ofNat n.toNat))
def qAM (x:TV) (κ:UInt8→Tree α):Tree α:=match x with
 | .tv (.i .u8) n=>qY7 n κ
 | .ic .u8 n=>match decide (inB n) with
  | true=>κ (UInt8.ofNat n.toNat)
  | false=>.no
 | _=>.no
theorem qqC {x:TV} {κ:UInt8→Tree α} {z:α} (h:(qAM x κ).Has z):∃ y,x.er=.pv y∧OkG (asByte none y) id κ z:=by
 unfold qAM at h
 split at h
 ·exact ⟨_,rfl,OkG.owe h.2 h.1 rfl⟩
 ·split at h
  ·rename_i hd
   exact ⟨_,rfl,OkG.owe h (of_decide_eq_true hd) rfl⟩
  ·exact h.elim
 ·exact h.elim
def qNX (x:TV) (κ:UInt32→Tree α):Tree α:=match x with
 | .tv (.i .u32) n=>qY3 n κ
 | .ic .u32 n=>match decide (inW n) with
  | true=>κ (UInt32.ofNat n.toNat)
  | false=>.no
 | _=>.no
theorem qHo {x:TV} {κ:UInt32→Tree α} {z:α} (h:(qNX x κ).Has z):∃ y,x.er=.pv y∧OkG (qAY none y) id κ z:=by
 unfold qNX at h
 split at h
 ·exact ⟨_,rfl,OkG.owe h.2 h.1 rfl⟩
 ·split at h
  ·rename_i hd
   exact ⟨_,rfl,OkG.owe h (of_decide_eq_true hd) rfl⟩
  ·exact h.elim
 ·exact h.elim
def qf4:List Nat→TV→TV→(TV→Tree α)→Tree α
 | [],_,y,κ=>κ y
 | k::r,x,y,κ=>match qCj x with
  | some xs=>match xs[k]? with
   | some w=>qf4 r w y fun w'=>κ (TV.mk (xs.set k w'))
   | none=>.no
  | none=>match r,x with
   | [],.tv (.ba n) v=>qAM y fun c=>.chk (k < n) (κ (.tv (.ba n) (Vector.setIfInBounds v k c)))
   | [],.tv (.wa n) v=>qNX y fun c=>.chk (k < n) (κ (.tv (.wa n) (Vector.setIfInBounds v k c)))
   | _,_=>.no
theorem qh_:∀ {p:List Nat} {x y:TV} {κ:TV→Tree α} {z:α},(qf4 p x y κ).Has z→Ok (setAt none p x.er y.er) κ z
 | [],x,y,κ,z,h=>OkG.pure h rfl
 | k::r,x,y,κ,z,h=>by
  simp only [qf4] at h
  split at h
  ·rename_i xs hc
   split at h
   ·rename_i w hw
    have ih:=qh_ h
    rcases qyV hc with ⟨ys,he,hy⟩ | he
    ·have h1:(ys.map AV.pv)[k]?=some w.er:=by rw [hy,List.getElem?_map,hw]; rfl
     rw [List.getElem?_map] at h1
     cases hk:ys[k]? with
     | none=>rw [hk] at h1; simp at h1
     | some u=>
      rw [hk] at h1
      simp only [Option.map_some,Option.some.injEq] at h1
      rw [he]
      simp only [setAt,hk,h1]
      refine OkG.with ih fun x' hx'=>OkG.pure (x:=TV.mk (xs.set k x')) hx' ?_
      rw [qAP,XZ,List.map_set,hy]
    ·rw [he]
     have h1:(TV.ers xs)[k]?=some w.er:=by rw [XZ,List.getElem?_map,hw]; rfl
     simp only [setAt,h1]
     refine OkG.with ih fun x' hx'=>OkG.pure (x:=TV.mk (xs.set k x')) hx' ?_
     rw [qAP,XZ,XZ,List.map_set]
   ·exact h.elim
  ·split at h
   ·obtain ⟨w,hw,h⟩:=qqC h
    rw [hw]
    exact OkG.with h fun c hc=>OkG.owe hc.2 hc.1 rfl
   ·obtain ⟨w,hw,h⟩:=qHo h
    rw [hw]
    exact OkG.with h fun c hc=>OkG.owe hc.2 hc.1 rfl
   ·exact h.elim
def qmF (P:Program) (t:TypeId) (z:TV):List (Nat×TV)→(TV→Tree α)→Tree α
 | [],κ=>κ z
 | (i,x)::r,κ=>match tat [i] z with
  | some y=>grd (y.er.size == x.er.size) (qf4 [i] z x fun z'=>grd (zj P t z'.er) (qmF P t z' r κ))
  | none=>.no
theorem qvr {P:Program} {t:TypeId}:∀ {r:List (Nat×TV)} {z:TV} {κ:TV→Tree α} {a:α},(qmF P t z r κ).Has a→Ok (qb3 P t none z.er (r.map er2)) κ a
 | [],z,κ,a,h=>OkG.pure h rfl
 | (i,x)::r,z,κ,a,h=>by
  simp only [qmF] at h
  split at h
  ·rename_i y hy
   obtain ⟨hb,h⟩:=q8 h
   simp only [List.map_cons,er2,qb3,qcE hy]
   refine OkG.qR hb (OkG.with (qh_ h) fun z' hz'=>?_)
   obtain ⟨hb,h⟩:=q8 hz'
   exact OkG.qR hb (qvr h)
  ·exact h.elim
end Go.Rx
end
