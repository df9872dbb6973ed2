/- A machine over pure data, sound for the model: a part of the proof of the laws. No condition. -/
import Derived.Lib.BytesEntry
import Derived.Test.YtigkkdoljkhcfaaGreatComC
set_option linter.unusedSimpArgs false
set_option linter.unusedVariables false
set_option linter.unusedSectionVars false
noncomputable section
namespace Go.Rx
def vI:Code→List Code
 | .seq a b=>vI a++vI b
 | .cond _ a b=>vI a++vI b
 | .block _ c=>vI c
 | .scope c=>vI c
 | .loop c=>c::vI c
 | .rangeFunc _ _ a b=>a::b::(vI a++vI b)
 | _=>[]
def loops:Code→List Code
 | .seq a b=>loops a++loops b
 | .cond _ a b=>loops a++loops b
 | .block _ c=>loops c
 | .scope c=>loops c
 | .loop c=>c::loops c
 | .rangeFunc _ _ a b=>loops a++loops b
 | _=>[]
theorem QF:∀ (c:Code) {b:Code},b∈outer c→b∈loops c
 | .seq x y,b,h=>by
  rcases List.mem_append.1 h with h | h
  ·exact List.mem_append_left _ (QF x h)
  ·exact List.mem_append_right _ (QF y h)
 | .cond _ x y,b,h=>by
  rcases List.mem_append.1 h with h | h
  ·exact List.mem_append_left _ (QF x h)
  ·exact List.mem_append_right _ (QF y h)
 | .block _ c,b,h=>QF (b:=b) c h
 | .scope c,b,h=>QF (b:=b) c h
 | .loop c,b,h=>by rw [List.mem_singleton.1 h]; exact List.mem_cons_self ..
 | .skip,_,h | .label _,_,h | .region ..,_,h | .exit _,_,h | .goto _,_,h | .ret,_,h | .rangeFunc ..,_,h | .refuse _,_,h=>by simp [outer] at h
theorem vm:∀ (c:Code) {u b:Code},u∈vI c→b∈outer u→b∈loops c
 | .seq x y,u,b,h,hb=>by
  rcases List.mem_append.1 h with h | h
  ·exact List.mem_append_left _ (vm x h hb)
  ·exact List.mem_append_right _ (vm y h hb)
 | .cond _ x y,u,b,h,hb=>by
  rcases List.mem_append.1 h with h | h
  ·exact List.mem_append_left _ (vm x h hb)
  ·exact List.mem_append_right _ (vm y h hb)
 | .block _ c,u,b,h,hb=>vm (u:=u) (b:=b) c h hb
 | .scope c,u,b,h,hb=>vm (u:=u) (b:=b) c h hb
 | .loop c,u,b,h,hb=>by
  rcases List.mem_cons.1 h with rfl | h
  ·exact List.mem_cons_of_mem _ (QF _ hb)
  ·exact List.mem_cons_of_mem _ (vm c h hb)
 | .rangeFunc _ _ x y,u,b,h,hb=>by
  rcases List.mem_cons.1 h with rfl | h
  ·exact List.mem_append_left _ (QF _ hb)
  ·rcases List.mem_cons.1 h with rfl | h
   ·exact List.mem_append_right _ (QF _ hb)
   ·rcases List.mem_append.1 h with h | h
    ·exact List.mem_append_left _ (vm x h hb)
    ·exact List.mem_append_right _ (vm y h hb)
 | .skip,_,_,h,_ | .label _,_,_,h,_ | .region ..,_,_,h,_ | .exit _,_,_,h,_ | .goto _,_,_,h,_ | .ret,_,_,h,_ | .refuse _,_,_,h,_=>by simp [vI] at h
theorem vV:∀ (c:Code) {b:Code},b∈loops c→b∈vI c
 | .seq x y,b,h=>by
  rcases List.mem_append.1 h with h | h
  ·exact List.mem_append_left _ (vV x h)
  ·exact List.mem_append_right _ (vV y h)
 | .cond _ x y,b,h=>by
  rcases List.mem_append.1 h with h | h
  ·exact List.mem_append_left _ (vV x h)
  ·exact List.mem_append_right _ (vV y h)
 | .block _ c,b,h=>vV (b:=b) c h
 | .scope c,b,h=>vV (b:=b) c h
 | .loop c,b,h=>by
  rcases List.mem_cons.1 h with rfl | h
  ·exact List.mem_cons_self ..
  ·exact List.mem_cons_of_mem _ (vV c h)
 | .rangeFunc _ _ x y,b,h=>by
  refine List.mem_cons_of_mem _ (List.mem_cons_of_mem _ ?_)
  rcases List.mem_append.1 h with h | h
  ·exact List.mem_append_left _ (vV x h)
  ·exact List.mem_append_right _ (vV y h)
 | .skip,_,h | .label _,_,h | .region ..,_,h | .exit _,_,h | .goto _,_,h | .ret,_,h | .refuse _,_,h=>by simp [loops] at h
theorem zQ {r:Nat}:∀ (c:Code) {x:Code×Code},VY r c=some x→x.1∈vI c∧x.2∈vI c
 | .seq a b,x,h=>by
  simp only [VY] at h
  split at h
  ·rename_i e
   simp only [Option.some.injEq] at h; subst h
   exact ⟨List.mem_append_left _ (zQ a e).1,List.mem_append_left _ (zQ a e).2⟩
  ·exact ⟨List.mem_append_right _ (zQ b h).1,List.mem_append_right _ (zQ b h).2⟩
 | .cond _ a b,x,h=>by
  simp only [VY] at h
  split at h
  ·rename_i e
   simp only [Option.some.injEq] at h; subst h
   exact ⟨List.mem_append_left _ (zQ a e).1,List.mem_append_left _ (zQ a e).2⟩
  ·exact ⟨List.mem_append_right _ (zQ b h).1,List.mem_append_right _ (zQ b h).2⟩
 | .block _ c,x,h=>zQ (x:=x) c h
 | .scope c,x,h=>zQ (x:=x) c h
 | .loop c,x,h=>⟨List.mem_cons_of_mem _ (zQ c h).1,List.mem_cons_of_mem _ (zQ c h).2⟩
 | .rangeFunc _ _ a b,x,h=>by
  simp only [VY] at h
  split at h
  ·simp only [Option.some.injEq] at h; subst h
   exact ⟨List.mem_cons_self ..,List.mem_cons_of_mem _ (List.mem_cons_self ..)⟩
  ·split at h
   ·rename_i e
    simp only [Option.some.injEq] at h; subst h
    exact ⟨List.mem_cons_of_mem _ (List.mem_cons_of_mem _ (List.mem_append_left _ (zQ a e).1)),List.mem_cons_of_mem _ (List.mem_cons_of_mem _ (List.mem_append_left _ (zQ a e).2))⟩
   ·exact ⟨List.mem_cons_of_mem _ (List.mem_cons_of_mem _ (List.mem_append_right _ (zQ b h).1)),List.mem_cons_of_mem _ (List.mem_cons_of_mem _ (List.mem_append_right _ (zQ b h).2))⟩
 | .skip,_,h | .label _,_,h | .region ..,_,h | .exit _,_,h | .goto _,_,h | .ret,_,h | .refuse _,_,h=>by simp [VY] at h
def ctF (P:Program) (cid:Nat):Code×Code:=match P.funcs[cid / 100000]? with
 | some f=>((VY (cid % 100000) (f.body.getD .skip)).getD (.skip,.skip))
 | none=>(.skip,.skip)
def noR (c:Code):Bool:=(ranges c).isEmpty&&(vI c).all fun u=>(ranges u).isEmpty
section m
variable [CT] (P:Program) (HH:FuncId→TH) (ks:List FuncId)
def qh8 (H:TH) (E:Env) (L:Wa) (K:FuncId) (b:Code):Nat→TSt→Option (Ex×TSt)
 | 0,_=>none
 | n + 1,σ=>match (ZI P H E L K b σ fun e σ=>.ret (e,σ)).run some with
  | some (.normal,σ')=>qh8 H E L K b n σ'
  | some (e,σ')=>some (e,σ')
  | none=>none
def qdQ (H:TH) (E:Env) (K:FuncId) (us:List Code) (N:Nat):Nat→Wa
 | 0,_,_=>none
 | m + 1,key,σ=>match Nat.ble 1000000 key with
  | true=>none
  | false=>match get (us.map fun b=>(qX b,b)) key with
   | some b=>some ⟨Ex×TSt,qh8 P H E (qdQ H E K us N m) K b N σ,fun _ κ y=>κ y⟩
   | none=>none
def qpF (k:FuncId) (c:Code):Bool:=XC ((loops c).map qX)&&(has ks k||noR c)
def qvP:(t:Ty)→El t→Bool
 | .bl,x=>List.isEmpty (α:=UInt8) x
 | .sl _ u,x=>List.isEmpty (α:=El u) x
 | _,_=>false
def qoc:List TV→Option (List TV×TV×List TV)
 | []=>none
 | .tv t x::r=>match qvP t x with
  | true=>some ([],.tv t x,r)
  | false=>match qoc r with
   | some (a,y,b)=>some (.tv t x::a,y,b)
   | none=>none
 | z::r=>match qoc r with
  | some (a,y,b)=>some (z::a,y,b)
  | none=>none
def qyO (x y:Option (TV×THp)):Option (TV×THp):=match x,y with
 | some (.tv t a,[]),some (.tv u b,[])=>match cast? u t b with
  | some b'=>match eqE t a b' with
   | true=>some (.tv t a,[])
   | false=>none
  | none=>none
 | _,_=>none
def qvp (E:Env) (N:Nat) (H:TH) (k:FuncId) (fn:Func) (c:Code) (lvl:Nat) (args:List TV) (h:THp):Option (TV×THp):=(quB P H E (qdQ P H E k (loops c) N 20) k fn c lvl args h fun r h=>.ret (r,h)).run some
def qyg (E:Env) (N:Nat) (lvl:Nat) (f:TV) (args:List TV) (h:THp):Option (Rs' (TV×THp)):=match f with
 | .fn (.func k) first cap=>match P.funcs[k]? with
  | some fn=>match fn.body with
   | some c=>match qpF ks k c&&!(fn.name == "runtime.NumGoroutine") with
    | true => some ⟨TV × THp, match qvp P E N (HH k) k fn c lvl (first ++ args ++ cap) h with
        | some y=>some y
        | none=>match qoc args with
         | some (a,_,b)=>qyO (qvp P E N { HH k with esc:=false } k fn c lvl (first++(a++.es 0::b)++cap) h) (qvp P E N { HH k with esc:=false } k fn c lvl (first++(a++.es 1::b)++cap) h)
         | none=>none,fun _ κ y=>κ y⟩
    | false=>none
   | none=>none
  | none=>none
 | .yl l=>match qEp h l with
  | some cid=>match P.funcs[cid / 100000]? with
   | some fn=>match fn.body with
    | some c=>match qpF ks (cid / 100000) c with
     | true=>some ⟨TV×THp,(qvh P (HH (cid / 100000)) E (qdQ P (HH (cid / 100000)) E (cid / 100000) (loops c) N 20) (cid / 100000) (lvl + 1) l args h fun r h=>.ret (r,h)).run some,fun _ κ y=>κ y⟩
     | false=>none
    | none=>none
   | none=>none
  | none=>none
 | _=>none
def qtK (base:List Ent) (N:Nat):Nat→Env
 | 0=>env base
 | n + 1=>fun lvl f args h=>match env base lvl f args h with
  | some rs=>some rs
  | none=>qyg P HH ks (qtK base N n) N lvl f args h
end m
section o
variable [CT] {P:Program} {HH:FuncId→TH} {ks:List FuncId}
theorem qqu (hm:P.follows .mixedOrders=true) {H:TH} {E:Env} {L:Wa} {K:FuncId} {b:Code} (hE:Wd P E) (hL:∀ c∈outer b,Yi P H L K c) (hr:zS K b) (hS:Wo P H L K b):∀ (n:Nat) (σ:TSt) (y:Ex×TSt),qh8 P H E L K b n σ=some y→∃ m,qcM (jE P H.hn (Valid P) K b) m σ.er y.1 y.2.er
 | 0,_,_,h=>by simp [qh8] at h
 | n + 1,σ,y,h=>by
  simp only [qh8] at h
  have key:∀ x,(ZI P H E L K b σ fun e σ=>.ret (e,σ)).run some=some x→jE P H.hn (Valid P) K b σ.er x.1 x.2.er:=fun x hx=>by
   obtain ⟨a,h1,h2⟩:=Tree.Zq hx
   simp only [Option.some.injEq] at h2
   subst h2
   obtain ⟨e,σ',h3,h4⟩:=Ji hm hE b σ _ _ hL hr hS h1
   have h4:(e,σ')=a:=h4
   rw [← h4]; exact h3
  split at h
  ·rename_i σ' hx
   obtain ⟨m,hm⟩:=qqu hm hE hL hr hS n σ' y h
   exact ⟨m + 1,.normal,σ'.er,key _ hx,hm⟩
  ·rename_i e σ' hne hx
   simp only [Option.some.injEq] at h
   subst h
   refine ⟨1,e,σ'.er,key _ hx,?_⟩
   cases e<;>first | exact (hne rfl).elim | exact ⟨rfl,rfl⟩
  ·simp at h
theorem Y7 {H:TH} {E:Env} {K:FuncId} {us:List Code} {N:Nat}:∀ {m:Nat} {c:Code},Wo P H (qdQ P H E K us N m) K c
 | 0,_,_,_,_,_,_,h=>by simp [qdQ] at h
 | m + 1,c,b,hb,_,σ,rs,h=>by
  simp only [qdQ,Nat.ble_eq_true_of_le (W9 c hb)] at h
  cases h
theorem qoL (hm:P.follows .mixedOrders=true) {H:TH} {E:Env} {K:FuncId} {c:Code} {N:Nat} (hE:Wd P E) (hd:XC ((loops c).map qX)=true) (hr:∀ u∈vI c,zS K u):∀ (m:Nat),∀ b∈loops c,Yi P H (qdQ P H E K (loops c) N m) K b
 | 0,_,_,_,_,h,_,_,_,_,_,_=>by simp [qdQ] at h
 | m + 1,b,hb,σ,rs,h,y,hy,α,k,z,hz=>by
  simp only [qdQ,qe5 hd hb] at h
  split at h
  ·cases h
  simp only [Option.some.injEq] at h
  subst h
  obtain ⟨n,hn⟩:=qqu hm hE (fun b' hb'=>qoL hm hE hd hr m b' (vm c (vV c hb) hb')) (hr b (vV c hb)) Y7 N σ y hy
  exact ⟨y,⟨_,jf.refl _,n,hn⟩,hz⟩
theorem qFy {K:FuncId} {c:Code} (h:noR c=true):zS K c∧∀ u∈vI c,zS K u:=by
 unfold noR at h
 simp only [Bool.and_eq_true,List.all_eq_true,List.isEmpty_iff] at h
 exact ⟨rg0 h.1,fun u hu=>rg0 (h.2 u hu)⟩
end o
def qmv [CT] (P:Program):List FuncId→Prop
 | []=>True
 | k::r=>(∀ fn c,P.funcs[k]?=some fn→fn.body=some c→zS k c∧∀ u∈vI c,zS k u)∧qmv P r
theorem qu_ [CT] {P:Program}:∀ {ks:List FuncId} {k:FuncId},qmv P ks→has ks k=true→∀ fn c,P.funcs[k]?=some fn→fn.body=some c→zS k c∧∀ u∈vI c,zS k u
 | [],k,_,h=>by simp [qmC,qoh] at h
 | a::r,k,hk,h=>by
  have:=(jG _ _).1 h
  rcases List.mem_cons.1 this with rfl | h
  ·exact hk.1
  ·exact qu_ hk.2 ((jG _ _).2 h)
theorem qCX [CT] {P : Program} {K : FuncId} {fn : Func} {c : Code} (hf : P.funcs[K]? = some fn) (hb : fn.body = some c) (h : (c :: vI c).map (fun u => (ranges u).map fun x => CT.ct (qfV K x.1 x.2)) = (c :: vI c).map ranges) :
    ∀ fn c,P.funcs[K]?=some fn→fn.body=some c→zS K c∧∀ u∈vI c,zS K u:=by
 intro fn' c' h1 h2
 rw [hf] at h1
 obtain rfl:=Option.some.inj h1
 rw [hb] at h2
 obtain rfl:=Option.some.inj h2
 have key:∀ u∈c::vI c,zS K u:=fun u hu=>rgs (List.map_inj_left.1 h u hu)
 exact ⟨key c (List.mem_cons_self ..),fun u hu=>key u (List.mem_cons_of_mem _ hu)⟩
theorem quD [CT] {P:Program} {ks:List FuncId} (hks:qmv P ks) {k:FuncId} {fn:Func} {c:Code} (hf:P.funcs[k]?=some fn) (hb:fn.body=some c) (h:qpF ks k c=true):XC ((loops c).map qX)=true∧zS k c∧∀ u∈vI c,zS k u:=by
 unfold qpF at h
 simp only [Bool.and_eq_true,Bool.or_eq_true] at h
 rcases h.2 with h2 | h2
 ·exact ⟨h.1,qu_ hks h2 fn c hf hb⟩
 ·exact ⟨h.1,qFy h2⟩
theorem qAE:∀ (t:Ty) (x:El t),qvP t x=true→qll t x
 | .bl,x,h=>List.isEmpty_iff.1 h
 | .sl _ u,x,h=>List.isEmpty_iff.1 h
 | .b,x,h | .i _,x,h | .s,x,h | .ba _,x,h | .wa _,x,h | .ag _,x,h | .nat,x,h=>by simp [qvP] at h
theorem qxY:∀ (l a b:List TV) (y:TV),qoc l=some (a,y,b)→l=a++y::b∧∃ t x,y=.tv t x∧qll t x
 | [],a,b,y,h=>by simp [qoc] at h
 | z::r,a,b,y,h=>by
  have other:(match qoc r with | some (a,y,b)=>some (z::a,y,b) | none=>none)=some (a,y,b)→z::r=a++y::b∧∃ t x,y=.tv t x∧qll t x:=fun h=>by
   split at h
   ·rename_i a' y' b' hr
    simp only [Option.some.injEq,Prod.mk.injEq] at h
    obtain ⟨rfl,rfl,rfl⟩:=h
    obtain ⟨h1,h2⟩:=qxY r _ _ _ hr
    exact ⟨by rw [h1]; rfl,h2⟩
   ·simp at h
  cases z with
  | tv t x=>
   simp only [qoc] at h
   split at h
   ·rename_i he
    simp only [Option.some.injEq,Prod.mk.injEq] at h
    obtain ⟨rfl,rfl,rfl⟩:=h
    exact ⟨rfl,t,x,rfl,qAE t x he⟩
   ·exact other h
  | _=>exact other h
theorem qB2 {x y:Option (TV×THp)} {z:TV×THp} (h:qyO x y=some z):∃ w,x=some z∧y=some w∧w.1.er=z.1.er∧w.2=z.2:=by
 unfold qyO at h
 split at h
 ·rename_i t a u b
  split at h
  ·rename_i b' hc
   split at h
   ·rename_i he
    simp only [Option.some.injEq] at h
    subst h
    obtain ⟨rfl,h3⟩:=cast?_some hc
    have:=eq_of_heq h3
    subst this
    have:=(J1 _ _ _).1 he
    subst this
    exact ⟨_,rfl,rfl,rfl,rfl⟩
   ·simp at h
  ·simp at h
 ·simp at h
theorem qq3 [CT] {P : Program} {ks : List FuncId} {E : Env} {N : Nat} (hd : P.follows .mixedOrders = true) (hks : qmv P ks) (hE : Wd P E) {H : TH} {k : FuncId} {fn : Func} {c : Code} (hf : P.funcs[k]? = some fn) (hb : fn.body = some c) (hg : (qpF ks k c && !(fn.name == "runtime.NumGoroutine")) = true)
    {lvl:Nat} {first args cap:List TV} {h:THp} {y:TV×THp} (hy:qvp P E N H k fn c lvl (first++args++cap) h=some y) (l:Nat):Valid P l (.fn (.func k) (TV.ers first) (TV.ers cap)) (TV.ers args) (erO h) (.ret y.1.er) (erO y.2):=by
 simp only [Bool.and_eq_true,Bool.not_eq_true'] at hg
 obtain ⟨g1,g2,g3⟩:=quD hks hf hb hg.1
 unfold qvp at hy
 obtain ⟨a,h1,h2⟩:=Tree.Zq hy
 simp only [Option.some.injEq] at h2
 subst h2
 obtain ⟨r,h',h3,h4⟩:=qxH (K:=k) hE (fun b hb'=>qoL hd hE g1 g3 20 b (QF c hb')) g2 hd hf hb hg.2 Y7 h1 l
 have h4:(r,h')=a:=h4
 subst h4
 exact h3
theorem qx1 [CT] (P:Program) (hct:∀ cid,CT.ct cid=ctF P cid) {HH:FuncId→TH} {ks:List FuncId} {E:Env} {N:Nat} (hd:P.follows .mixedOrders=true):qmv P ks→Wd P E→Wd P (qyg P HH ks E N):=by
 intro hks hE lvl f args h rs hrs y hy α κ z hz
 unfold qyg at hrs
 split at hrs
 ·rename_i k first cap
  split at hrs
  ·rename_i fn hf
   split at hrs
   ·rename_i c hb
    split at hrs
    ·rename_i hg
     simp only [Option.some.injEq] at hrs
     subst hrs
     refine ⟨y,?_,hz⟩
     simp only at hy
     split at hy
     ·rename_i y' h1
      simp only [Option.some.injEq] at hy
      subst hy
      exact qq3 hd hks hE hf hb hg h1 lvl
     ·split at hy
      ·rename_i a x b hc
       obtain ⟨w,h1,h2,h3,h4⟩:=qB2 hy
       obtain ⟨rfl,t,x',rfl,he⟩:=qxY _ _ _ _ hc
       have v0:=qq3 hd hks hE hf hb hg h1 lvl
       have v1:=qq3 hd hks hE hf hb hg h2 lvl
       rw [h3,h4] at v1
       rw [qd_] at v0 v1 ⊢
       exact qsb he (TV.ers a) (TV.ers b) v0 v1
      ·simp at hy
    ·simp at hrs
   ·simp at hrs
  ·simp at hrs
 ·rename_i l
  split at hrs
  ·rename_i cid hcid
   split at hrs
   ·rename_i fn hf
    split at hrs
    ·rename_i c hb
     split at hrs
     ·rename_i hg
      simp only [Option.some.injEq] at hrs
      subst hrs
      obtain ⟨g1,g2,g3⟩:=quD hks hf hb hg
      obtain ⟨a,h1,h2⟩:=Tree.Zq hy
      simp only [Option.some.injEq] at h2
      subst h2
      have hct:((CT.ct cid).1∈vI c∧(CT.ct cid).2∈vI c)∨((CT.ct cid).1=.skip∧(CT.ct cid).2=.skip):=by
       rw [hct cid]
       simp only [ctF,hf,hb,Option.getD_some]
       cases hr:VY (cid % 100000) c with
       | none=>exact .inr ⟨rfl,rfl⟩
       | some x=>exact .inl (zQ c hr)
      obtain ⟨r,h',h3,h4⟩:=qAd (K:=cid / 100000) hE hd h1 (fun ps n sl cid' fn' d hgl=>by
       unfold qEp at hcid
       rw [hgl] at hcid
       simp only [Option.some.injEq] at hcid
       subst hcid
       rcases hct with ⟨u1,u2⟩ | ⟨u1,u2⟩
       ·refine ⟨fun b hb'=>qoL hd hE g1 g3 20 b ?_,g3 _ u1,g3 _ u2,Y7,Y7⟩
        rcases List.mem_append.1 hb' with h5 | h5
        ·exact vm c u1 h5
        ·exact vm c u2 h5
       ·rw [u1,u2]
        exact ⟨fun b hb'=>by simp [outer] at hb',rg0 rfl,rg0 rfl,Y7,Y7⟩) lvl
      have h4:(r,h')=a:=h4
      subst h4
      exact ⟨(r,h'),h3,hz⟩
     ·simp at hrs
    ·simp at hrs
   ·simp at hrs
  ·simp at hrs
 ·simp at hrs
theorem qDD [CT] (P:Program) (hct:∀ cid,CT.ct cid=ctF P cid) {HH:FuncId→TH} {ks:List FuncId} {base:List Ent} {N:Nat} (hd:P.follows .mixedOrders=true) (hb:qT P base) (hks:qmv P ks):∀ n,Wd P (qtK P HH ks base N n):=by
 intro n
 induction n with
 | zero=>exact qhc hb
 | succ n ih=>
  intro lvl f args h rs hrs y hy α κ z hz
  simp only [qtK] at hrs
  split at hrs
  ·rename_i rs' h1
   simp only [Option.some.injEq] at hrs
   subst hrs
   exact qhc hb lvl f args h _ h1 y hy α κ z hz
  ·exact qx1 P hct hd hks ih lvl f args h rs hrs y hy α κ z hz
def qzo [CT] (P:Program) (HH:FuncId→TH) (ks:List FuncId) (base:List Ent) (N n K:Nat):Option (AV×Ob):=match qyg P HH ks (qtK P HH ks base N n) N 0 (.fn (.func K) [] []) [] [] with
 | some rs=>Option.bind rs.o fun y=>(rs.cse (AV×Ob) (fun x=>.ret (x.1.er,erO x.2)) y).run some
 | none=>none
theorem qEO [CT] (P : Program) (hct : ∀ cid, CT.ct cid = ctF P cid) {HH : FuncId → TH} {ks : List FuncId} {base : List Ent} {N n K : Nat} {b : Bool} (hd : P.follows .mixedOrders = true) (hb : qT P base) (hks : qmv P ks)
    (h:qzo P HH ks base N n K=some (.pv (.b b),[])):zb P (smF ⟨K,[],[],[],[]⟩ [] Bool (fun _=>some b) cs1 fun _ z=>(xb z,[])):=by
 refine qkn fun x z hz l=>?_
 obtain rfl:=Option.some.inj hz
 unfold qzo at h
 split at h
 ·rename_i rs h1
  obtain ⟨y,h3,h4⟩:=Option.bind_eq_some_iff.1 h
  obtain ⟨a,h5,h6⟩:=Tree.Zq h4
  simp only [Option.some.injEq] at h6
  subst h6
  obtain ⟨x',h7,h8⟩:=qx1 P hct hd hks (qDD P hct hd hb hks n) _ _ _ _ rs h1 y h3 _ _ _ h5
  have h8:(x'.1.er,erO x'.2)=(AV.pv (.b b),[]):=h8
  simp only [Prod.mk.injEq] at h8
  rw [h8.1,h8.2] at h7
  exact h7
 ·simp at h
end Go.Rx
end
noncomputable section
namespace Go.Rx
theorem qFv [CT] {P:Program} {p:FP} {ts:List Ty} {Z:Type} {F G:Xs ts→Option Z} {c:CS Z} {out:Xs ts→Z→TV×THp} (h:zb P (smF p ts Z F c out)) (hg:∀ x z,G x=some z→F x=some z):zb P (smF p ts Z G c out):=by
 intro f args hp rs hs y hy α k z hz
 unfold smF at hs
 split at hs
 ·rename_i ds ls hm
  split at hs
  ·rename_i x hx
   simp only [Option.some.injEq] at hs
   subst hs
   obtain ⟨hl,hG⟩:=qbs hy
   refine h f args hp ⟨Z,jh ls (F x),fun α k z=>c.cs α (fun z=>k (out x z)) z⟩ ?_ y ?_ α k z hz
   ·unfold smF; rw [hm]; simp only [hx]
   ·show jh ls (F x)=some y
    have hy:jh ls (G x)=some y:=hy
    rw [hG] at hy
    rw [hg x y hG]; exact hy
  ·simp at hs
 ·simp at hs
def qvD {Z:Type}:List (List UInt8×Z)→List UInt8→Option Z
 | [],_=>none
 | (a,z)::r,x=>bif dS a x then some z else qvD r x
def qyf {Z:Type} (F:List UInt8→Option Z):List (List UInt8×Z)→Prop
 | []=>True
 | (a,z)::r=>F a=some z∧qyf F r
theorem qxu {Z:Type} {F:List UInt8→Option Z}:∀ {l:List (List UInt8×Z)},qyf F l→∀ x z,qvD l x=some z→F x=some z
 | [],_,_,_,h=>by simp [qvD] at h
 | (a,y)::r,ht,x,z,h=>by
  unfold qvD at h
  cases e:dS a x with
  | true=>
   rw [e] at h
   rw [← (qp9 a x).1 e,ht.1]; exact h
  | false=>rw [e] at h; exact qxu ht.2 x z h
end Go.Rx
namespace Go.Rx
end Go.Rx
end
noncomputable section
namespace Go.Rx
theorem qBD {α:Type} (l:List α) (k:Nat):zh l (k:Int)=l[k]?:=by simp [zh]
theorem qFk {α:Type} {l:List α} {k:Nat} (h:k < l.length):zh l (k:Int)=some l[k]:=by rw [qBD,List.getElem?_eq_getElem h]
theorem jN (k:Nat):(k:Int) + 1=((k + 1:Nat):Int):=by omega
theorem dec_lt {a b:Nat} (h:a < b):decide ((a:Int) < (b:Int))=true:=decide_eq_true (by omega)
theorem ju {a b:Nat} (h:¬ a < b):decide ((a:Int) < (b:Int))=false:=decide_eq_false (by omega)
end Go.Rx
end
noncomputable section
namespace Go.Rx
end Go.Rx
end
noncomputable section
namespace Go.Rx
theorem Zn {α:Type} {l:List α} {k:Nat} {d:α} (h:k < l.length):zh l (k:Int)=some (l.getD k d):=by
 rw [qFk h]; simp [List.getD,List.getElem?_eq_getElem h]
def YW (p:Nat→Bool):Nat→Nat→Option Nat
 | 0,_=>none
 | m + 1,k=>if p k then some k else YW p m (k + 1)
def qvU (q:Nat→Bool):Nat→Nat→Bool
 | 0,_=>true
 | m + 1,k=>q k&&qvU q m (k + 1)
theorem qnn {p:Nat→Bool}:∀ {m k i:Nat},YW p m k=some i→p i=true∧k≤i∧i < k + m∧∀ j,k≤j→j < i→p j=false
 | 0,k,i,h=>by simp [YW] at h
 | m + 1,k,i,h=>by
  unfold YW at h
  split at h
  ·simp at h; subst h
   exact ⟨by assumption,by omega,by omega,fun j h1 h2=>by omega⟩
  ·obtain ⟨h1,h2,h3,h4⟩:=qnn h
   refine ⟨h1,by omega,by omega,fun j h5 h6=>?_⟩
   by_cases hj:j=k
   ·subst hj; simp_all
   ·exact h4 j (by omega) h6
theorem qnl {p:Nat→Bool}:∀ {m k:Nat},YW p m k=none→∀ j,k≤j→j < k + m→p j=false
 | 0,k,_,j,h1,h2=>by omega
 | m + 1,k,h,j,h1,h2=>by
  unfold YW at h
  split at h
  ·simp at h
  ·by_cases hj:j=k
   ·subst hj; simp_all
   ·exact qnl h j (by omega) (by omega)
theorem qvi {q:Nat→Bool}:∀ {m k:Nat},qvU q m k=true↔∀ j,k≤j→j < k + m→q j=true
 | 0,k=>by simp [qvU]; intro j h1 h2; omega
 | m + 1,k=>by
  unfold qvU
  rw [Bool.and_eq_true,qvi]
  constructor
  ·intro h j h1 h2
   by_cases hj:j=k
   ·subst hj; exact h.1
   ·exact h.2 j (by omega) (by omega)
  ·intro h
   exact ⟨h k (by omega) (by omega),fun j h1 h2=>h j (by omega) (by omega)⟩
end Go.Rx
end
noncomputable section
namespace Go.Rx
variable {P:Program} {G:Gh} {w:World}
theorem quY (x:List UInt8):Go.Lib.bytesOf (x.map fun c=>(c.toNat:Int))=x:=by
 unfold Go.Lib.bytesOf
 rw [List.map_map]
 conv=>rhs; rw [← List.map_id x]
 refine List.map_congr_left fun c _=>?_
 simp
theorem qqc {x:List UInt8} {v:Value} (h:qv G w (.bl x) [v]):(Extern.Bytes.bytesOf v).run P w=.ok ⟨x.toArray⟩ w:=by
 obtain ⟨a,cap,h1,h2,h3⟩:=h
 simp only [List.cons.injEq,and_true] at h1
 subst h1
 rcases h3 with rfl | ⟨b,off,rfl,hc,_⟩
 ·cases a<;>rfl
 ·have hl := Go.Lib.run_loadBytesX (P := P) w (x.map fun c => (c.toNat : Int)) ⟨b, off, none⟩ .empty (fun j n hj => by
     simp only [List.getElem?_map,Option.map_eq_some_iff] at hj
     obtain ⟨c,hj,rfl⟩:=hj
     have hjl:=(List.getElem?_eq_some_iff.1 hj).1
     have e:(⟨b,off,none⟩:Addr).add j=⟨b,off + j,none⟩:=by unfold Addr.add; split<;>simp_all
     rw [e,hc j (by simpa using hjl),List.getElem?_map,hj]
     rfl)
  rw [quY,List.length_map] at hl
  show (Extern.Bytes.loadBytes ⟨b,off,none⟩ x.length .empty).run P w=_
  rw [hl]
  congr 1
  apply ByteArray.ext
  show (#[]:Array UInt8)++x.toArray=x.toArray
  simp
theorem qAP {K : FuncId} {fn : Func} (hf : P.funcs[K]? = some fn) (hb : fn.body = none) (hn : (fn.name == "runtime.NumGoroutine") = false) (h1 : Extern.findNext fn = none) (h2 : Extern.find fn = some Extern.BytealgCompare.compare) (x y : List UInt8) (l : Nat) :
    Valid P l (.fn (.func K) [] []) [.pv (.bl x),.pv (.bl y)] [] (.ret (.pv (.i .i64 (Go.Lib.compareBytes x y)))) []:=by
 intro γ G w vf vas H hvf hva
 have h0:=qW rfl rfl hvf
 simp only [qg] at h0
 obtain ⟨va,vc,h0,ha,hc⟩:=h0
 simp only [q9] at ha hc
 subst ha; subst hc
 simp only [List.cons.injEq,and_true] at h0
 subst h0
 simp only [q9] at hva
 obtain ⟨c1,v1,r1,rfl,hc1,ho1,c2,v2,r2,rfl,hc2,ho2,rfl⟩:=hva
 simp only [qg] at hc1 hc2
 have e1:c1=[v1]:=ho1
 have e2:c2=[v2]:=ho2
 subst e1; subst e2
 refine ⟨_,rfl,?_⟩
 unfold Xv
 have hx:=qqc (P:=P) hc1
 have hy:=qqc (P:=P) hc2
 have hrun:(do let d ← Deferred.ofValue (.func (.func K) ([]:List Value).toArray ([]:List Value).toArray) [v1,v2].toArray; invoke d.target d.args:Sem Next).run P w=.ok (.value (.int .i64 (Go.Lib.compareBytes x y))) w:=by
  have e:(Extern.BytealgCompare.compare [v1,v2].toArray).run P w=.ok (.int .i64 (Go.Lib.compareBytes x y)) w:=by
   show (do pure (goInt (Extern.BytealgCompare.cmp (← Extern.Bytes.bytesOf v1) (← Extern.Bytes.bytesOf v2))):Sem Value).run P w=_
   simp only [Sem.run_bind,Sem.run_pure,Result.andThen,hx,hy]
   rw [Go.Lib.cmp_eq]
   rfl
  simp only [Deferred.ofValue,Sem.run_bind,Sem.run_pure,Result.andThen_ok,invoke,callFunc,run_program,hf,hn,hb,h1,h2,Option.isNone_none,Bool.false_eq_true,if_false,if_true,run_mark]
  simp only [Array.append_empty,List.append_toArray,List.nil_append,List.append_nil]
  rw [e]
  rfl
 rw [hrun]
 refine ⟨γ,G,H,Trans.refl H,?_⟩
 exact ⟨_,rfl,rfl⟩
end Go.Rx
end
noncomputable section
namespace Go.Rx
def qGi (x y:List UInt8):Option Int:=some (Go.Lib.compareBytes x y)
def qFz (K:FuncId):Ent:=smF ⟨K,[],[.x .bl,.x .bl],[],[]⟩ [.bl,.bl] Int (fun x=>qGi x.1 x.2.1) cs1 fun _ z=>(xi z,[])
theorem qFh [CT] {P:Program} {K:FuncId} {fn:Func} (hf:P.funcs[K]?=some fn) (hb:fn.body=none) (hn:(fn.name == "runtime.NumGoroutine")=false) (h1:Extern.findNext fn=none) (h2:Extern.find fn=some Extern.BytealgCompare.compare):zb P (qFz K):=
 qkn fun x z h l=>by
  obtain ⟨a,b,_⟩:=x
  obtain rfl:=Option.some.inj h
  exact qAP hf hb hn h1 h2 a b l
end Go.Rx
end
