/- A machine over pure data, sound for the model: a part of the proof of the laws. No condition. -/
import Derived.Lib.BytesEntry
import Derived.Test.YtigkkdoljkhcfaaGreatComC
set_option linter.unusedSimpArgs false
set_option linter.unusedVariables false
set_option linter.unusedSectionVars false
noncomputable section
namespace Go.Rx
def jw:Code→List Code
 | .seq a b=>jw a++jw b
 | .cond _ a b=>jw a++jw b
 | .block _ c=>jw c
 | .scope c=>jw c
 | .loop c=>c::jw c
 | .rangeFunc _ _ a b=>a::b::(jw a++jw b)
 | _=>[]
def loops:Code→List Code
 | .seq a b=>loops a++loops b
 | .cond _ a b=>loops a++loops b
 | .block _ c=>loops c
 | .scope c=>loops c
 | .loop c=>c::loops c
 | .rangeFunc _ _ a b=>loops a++loops b
 | _=>[]
theorem jZ:∀ (c:Code) {b:Code},b∈outer c→b∈loops c
 | .seq x y,b,h=>by
  rcases List.mem_append.1 h with h | h
  ·exact List.mem_append_left _ (jZ x h)
  ·exact List.mem_append_right _ (jZ y h)
 | .cond _ x y,b,h=>by
  rcases List.mem_append.1 h with h | h
  ·exact List.mem_append_left _ (jZ x h)
  ·exact List.mem_append_right _ (jZ y h)
 | .block _ c,b,h=>jZ (b:=b) c h
 | .scope c,b,h=>jZ (b:=b) c h
 | .loop c,b,h=>by rw [List.mem_singleton.1 h]; exact List.mem_cons_self ..
 | .skip,_,h | .label _,_,h | .region ..,_,h | .exit _,_,h | .goto _,_,h | .ret,_,h | .rangeFunc ..,_,h | .refuse _,_,h=>by simp [outer] at h
theorem jl:∀ (c:Code) {u b:Code},u∈jw c→b∈outer u→b∈loops c
 | .seq x y,u,b,h,hb=>by
  rcases List.mem_append.1 h with h | h
  ·exact List.mem_append_left _ (jl x h hb)
  ·exact List.mem_append_right _ (jl y h hb)
 | .cond _ x y,u,b,h,hb=>by
  rcases List.mem_append.1 h with h | h
  ·exact List.mem_append_left _ (jl x h hb)
  ·exact List.mem_append_right _ (jl y h hb)
 | .block _ c,u,b,h,hb=>jl (u:=u) (b:=b) c h hb
 | .scope c,u,b,h,hb=>jl (u:=u) (b:=b) c h hb
 | .loop c,u,b,h,hb=>by
  rcases List.mem_cons.1 h with rfl | h
  ·exact List.mem_cons_of_mem _ (jZ _ hb)
  ·exact List.mem_cons_of_mem _ (jl c h hb)
 | .rangeFunc _ _ x y,u,b,h,hb=>by
  rcases List.mem_cons.1 h with rfl | h
  ·exact List.mem_append_left _ (jZ _ hb)
  ·rcases List.mem_cons.1 h with rfl | h
   ·exact List.mem_append_right _ (jZ _ hb)
   ·rcases List.mem_append.1 h with h | h
    ·exact List.mem_append_left _ (jl x h hb)
    ·exact List.mem_append_right _ (jl y h hb)
 | .skip,_,_,h,_ | .label _,_,_,h,_ | .region ..,_,_,h,_ | .exit _,_,_,h,_ | .goto _,_,_,h,_ | .ret,_,_,h,_ | .refuse _,_,_,h,_=>by simp [jw] at h
theorem jC:∀ (c:Code) {b:Code},b∈loops c→b∈jw c
 | .seq x y,b,h=>by
  rcases List.mem_append.1 h with h | h
  ·exact List.mem_append_left _ (jC x h)
  ·exact List.mem_append_right _ (jC y h)
 | .cond _ x y,b,h=>by
  rcases List.mem_append.1 h with h | h
  ·exact List.mem_append_left _ (jC x h)
  ·exact List.mem_append_right _ (jC y h)
 | .block _ c,b,h=>jC (b:=b) c h
 | .scope c,b,h=>jC (b:=b) c h
 | .loop c,b,h=>by
  rcases List.mem_cons.1 h with rfl | h
  ·exact List.mem_cons_self ..
  ·exact List.mem_cons_of_mem _ (jC c h)
 | .rangeFunc _ _ x y,b,h=>by
  refine List.mem_cons_of_mem _ (List.mem_cons_of_mem _ ?_)
  rcases List.mem_append.1 h with h | h
  ·exact List.mem_append_left _ (jC x h)
  ·exact List.mem_append_right _ (jC y h)
 | .skip,_,h | .label _,_,h | .region ..,_,h | .exit _,_,h | .goto _,_,h | .ret,_,h | .refuse _,_,h=>by simp [loops] at h
theorem zl {r:Nat}:∀ (c:Code) {x:Code×Code},Zh r c=some x→x.1∈jw c∧x.2∈jw c
 | .seq a b,x,h=>by
  simp only [Zh] at h
  split at h
  ·rename_i e
   simp only [Option.some.injEq] at h; subst h
   exact ⟨List.mem_append_left _ (zl a e).1,List.mem_append_left _ (zl a e).2⟩
  ·exact ⟨List.mem_append_right _ (zl b h).1,List.mem_append_right _ (zl b h).2⟩
 | .cond _ a b,x,h=>by
  simp only [Zh] at h
  split at h
  ·rename_i e
   simp only [Option.some.injEq] at h; subst h
   exact ⟨List.mem_append_left _ (zl a e).1,List.mem_append_left _ (zl a e).2⟩
  ·exact ⟨List.mem_append_right _ (zl b h).1,List.mem_append_right _ (zl b h).2⟩
 | .block _ c,x,h=>zl (x:=x) c h
 | .scope c,x,h=>zl (x:=x) c h
 | .loop c,x,h=>⟨List.mem_cons_of_mem _ (zl c h).1,List.mem_cons_of_mem _ (zl c h).2⟩
 | .rangeFunc _ _ a b,x,h=>by
  simp only [Zh] at h
  split at h
  ·simp only [Option.some.injEq] at h; subst h
   exact ⟨List.mem_cons_self ..,List.mem_cons_of_mem _ (List.mem_cons_self ..)⟩
  ·split at h
   ·rename_i e
    simp only [Option.some.injEq] at h; subst h
    exact ⟨List.mem_cons_of_mem _ (List.mem_cons_of_mem _ (List.mem_append_left _ (zl a e).1)),List.mem_cons_of_mem _ (List.mem_cons_of_mem _ (List.mem_append_left _ (zl a e).2))⟩
   ·exact ⟨List.mem_cons_of_mem _ (List.mem_cons_of_mem _ (List.mem_append_right _ (zl b h).1)),List.mem_cons_of_mem _ (List.mem_cons_of_mem _ (List.mem_append_right _ (zl b h).2))⟩
 | .skip,_,h | .label _,_,h | .region ..,_,h | .exit _,_,h | .goto _,_,h | .ret,_,h | .refuse _,_,h=>by simp [Zh] at h
def ctF (P:Program) (cid:Nat):Code×Code:=match P.funcs[cid / 100000]? with
 | some f=>((Zh (cid % 100000) (f.body.getD .skip)).getD (.skip,.skip))
 | none=>(.skip,.skip)
def noR (c:Code):Bool:=(ranges c).isEmpty&&(jw c).all fun u=>(ranges u).isEmpty
section m
variable [CT] (P:Program) (HH:FuncId→TH) (ks:List FuncId)
def qa1 (H:TH) (E:Env) (L:XS) (K:FuncId) (b:Code):Nat→TSt→Option (Ex×TSt)
 | 0,_=>none
 | n + 1,σ=>match (QJ P H E L K b σ fun e σ=>.ret (e,σ)).run some with
  | some (.normal,σ')=>qa1 H E L K b n σ'
  | some (e,σ')=>some (e,σ')
  | none=>none
def qeR (H:TH) (E:Env) (K:FuncId) (us:List Code) (N:Nat):Nat→XS
 | 0,_,_=>none
 | m + 1,key,σ=>match get (us.map fun b=>(qX b,b)) key with
  | some b=>some ⟨Ex×TSt,qa1 P H E (qeR H E K us N m) K b N σ,fun _ κ y=>κ y⟩
  | none=>none
def qh7 (k:FuncId) (c:Code):Bool:=Jz ((loops c).map qX)&&(has ks k||noR c)
def qmH:(t:Ty)→El t→Bool
 | .bl,x=>List.isEmpty (α:=UInt8) x
 | .sl _ u,x=>List.isEmpty (α:=El u) x
 | _,_=>false
def qf3:List TV→Option (List TV×TV×List TV)
 | []=>none
 | .tv t x::r=>match qmH t x with
  | true=>some ([],.tv t x,r)
  | false=>match qf3 r with
   | some (a,y,b)=>some (.tv t x::a,y,b)
   | none=>none
 | z::r=>match qf3 r with
  | some (a,y,b)=>some (z::a,y,b)
  | none=>none
def qq0 (x y:Option (TV×THp)):Option (TV×THp):=match x,y with
 | some (.tv t a,[]),some (.tv u b,[])=>match cast? u t b with
  | some b'=>match eqE t a b' with
   | true=>some (.tv t a,[])
   | false=>none
  | none=>none
 | _,_=>none
def qmh (E:Env) (N:Nat) (H:TH) (k:FuncId) (fn:Func) (c:Code) (lvl:Nat) (args:List TV) (h:THp):Option (TV×THp):=(qmZ P H E (qeR P H E k (loops c) N 20) k fn c lvl args h fun r h=>.ret (r,h)).run some
def qq1 (E:Env) (N:Nat) (lvl:Nat) (f:TV) (args:List TV) (h:THp):Option (Rs' (TV×THp)):=match f with
 | .fn (.func k) first cap=>match P.funcs[k]? with
  | some fn=>match fn.body with
   | some c=>match qh7 ks k c&&!(fn.name == "runtime.NumGoroutine") with
    | true => some ⟨TV × THp, match qmh P E N (HH k) k fn c lvl (first ++ args ++ cap) h with
        | some y=>some y
        | none=>match qf3 args with
         | some (a,_,b)=>qq0 (qmh P E N { HH k with esc:=false } k fn c lvl (first++(a++.es 0::b)++cap) h) (qmh P E N { HH k with esc:=false } k fn c lvl (first++(a++.es 1::b)++cap) h)
         | none=>none,fun _ κ y=>κ y⟩
    | false=>none
   | none=>none
  | none=>none
 | .yl l=>match quL h l with
  | some cid=>match P.funcs[cid / 100000]? with
   | some fn=>match fn.body with
    | some c=>match qh7 ks (cid / 100000) c with
     | true=>some ⟨TV×THp,(qnk P (HH (cid / 100000)) E (qeR P (HH (cid / 100000)) E (cid / 100000) (loops c) N 20) (cid / 100000) (lvl + 1) l args h fun r h=>.ret (r,h)).run some,fun _ κ y=>κ y⟩
     | false=>none
    | none=>none
   | none=>none
  | none=>none
 | _=>none
def qk9 (base:List Ent) (N:Nat):Nat→Env
 | 0=>env base
 | n + 1=>fun lvl f args h=>match env base lvl f args h with
  | some rs=>some rs
  | none=>qq1 P HH ks (qk9 base N n) N lvl f args h
end m
section o
variable [CT] {P:Program} {HH:FuncId→TH} {ks:List FuncId}
theorem qhz (hm:P.follows .mixedOrders=true) {H:TH} {E:Env} {L:XS} {K:FuncId} {b:Code} (hE:ZV P E) (hL:∀ c∈outer b,Xy P H L K c) (hr:zA K b):∀ (n:Nat) (σ:TSt) (y:Ex×TSt),qa1 P H E L K b n σ=some y→∃ m,WC (vp P H.hn (Valid P) K b) m σ.er y.1 y.2.er
 | 0,_,_,h=>by simp [qa1] at h
 | n + 1,σ,y,h=>by
  simp only [qa1] at h
  have key:∀ x,(QJ P H E L K b σ fun e σ=>.ret (e,σ)).run some=some x→vp P H.hn (Valid P) K b σ.er x.1 x.2.er:=fun x hx=>by
   obtain ⟨a,h1,h2⟩:=Tree.v7 hx
   simp only [Option.some.injEq] at h2
   subst h2
   obtain ⟨e,σ',h3,h4⟩:=vN hm hE b σ _ _ hL hr h1
   have h4:(e,σ')=a:=h4
   rw [← h4]; exact h3
  split at h
  ·rename_i σ' hx
   obtain ⟨m,hm⟩:=qhz hm hE hL hr n σ' y h
   exact ⟨m + 1,.normal,σ'.er,key _ hx,hm⟩
  ·rename_i e σ' hne hx
   simp only [Option.some.injEq] at h
   subst h
   refine ⟨1,e,σ'.er,key _ hx,?_⟩
   cases e<;>first | exact (hne rfl).elim | exact ⟨rfl,rfl⟩
  ·simp at h
theorem qf9 (hm:P.follows .mixedOrders=true) {H:TH} {E:Env} {K:FuncId} {c:Code} {N:Nat} (hE:ZV P E) (hd:Jz ((loops c).map qX)=true) (hr:∀ u∈jw c,zA K u):∀ (m:Nat),∀ b∈loops c,Xy P H (qeR P H E K (loops c) N m) K b
 | 0,_,_,_,_,h,_,_,_,_,_,_=>by simp [qeR] at h
 | m + 1,b,hb,σ,rs,h,y,hy,α,k,z,hz=>by
  simp only [qeR,YW hd hb,Option.some.injEq] at h
  subst h
  obtain ⟨n,hn⟩:=qhz hm hE (fun b' hb'=>qf9 hm hE hd hr m b' (jl c (jC c hb) hb')) (hr b (jC c hb)) N σ y hy
  exact ⟨y,⟨_,jk.refl _,n,hn⟩,hz⟩
theorem qv4 {K:FuncId} {c:Code} (h:noR c=true):zA K c∧∀ u∈jw c,zA K u:=by
 unfold noR at h
 simp only [Bool.and_eq_true,List.all_eq_true,List.isEmpty_iff] at h
 exact ⟨rg0 h.1,fun u hu=>rg0 (h.2 u hu)⟩
end o
def qdS [CT] (P:Program):List FuncId→Prop
 | []=>True
 | k::r=>(∀ fn c,P.funcs[k]?=some fn→fn.body=some c→zA k c∧∀ u∈jw c,zA k u)∧qdS P r
theorem qnc [CT] {P:Program}:∀ {ks:List FuncId} {k:FuncId},qdS P ks→has ks k=true→∀ fn c,P.funcs[k]?=some fn→fn.body=some c→zA k c∧∀ u∈jw c,zA k u
 | [],k,_,h=>by simp [qis,qgo] at h
 | a::r,k,hk,h=>by
  have:=(zZ _ _).1 h
  rcases List.mem_cons.1 this with rfl | h
  ·exact hk.1
  ·exact qnc hk.2 ((zZ _ _).2 h)
theorem qtA [CT] {P : Program} {K : FuncId} {fn : Func} {c : Code} (hf : P.funcs[K]? = some fn) (hb : fn.body = some c) (h : (c :: jw c).map (fun u => (ranges u).map fun x => CT.ct (KD K x.1 x.2)) = (c :: jw c).map ranges) :
    ∀ fn c,P.funcs[K]?=some fn→fn.body=some c→zA K c∧∀ u∈jw c,zA K u:=by
 intro fn' c' h1 h2
 rw [hf] at h1
 obtain rfl:=Option.some.inj h1
 rw [hb] at h2
 obtain rfl:=Option.some.inj h2
 have key:∀ u∈c::jw c,zA K u:=fun u hu=>rgs (List.map_inj_left.1 h u hu)
 exact ⟨key c (List.mem_cons_self ..),fun u hu=>key u (List.mem_cons_of_mem _ hu)⟩
theorem qmQ [CT] {P:Program} {ks:List FuncId} (hks:qdS P ks) {k:FuncId} {fn:Func} {c:Code} (hf:P.funcs[k]?=some fn) (hb:fn.body=some c) (h:qh7 ks k c=true):Jz ((loops c).map qX)=true∧zA k c∧∀ u∈jw c,zA k u:=by
 unfold qh7 at h
 simp only [Bool.and_eq_true,Bool.or_eq_true] at h
 rcases h.2 with h2 | h2
 ·exact ⟨h.1,qnc hks h2 fn c hf hb⟩
 ·exact ⟨h.1,qv4 h2⟩
theorem qsB:∀ (t:Ty) (x:El t),qmH t x=true→qdA t x
 | .bl,x,h=>List.isEmpty_iff.1 h
 | .sl _ u,x,h=>List.isEmpty_iff.1 h
 | .b,x,h | .i _,x,h | .s,x,h | .ba _,x,h | .wa _,x,h | .ag _,x,h | .nat,x,h=>by simp [qmH] at h
theorem qpg:∀ (l a b:List TV) (y:TV),qf3 l=some (a,y,b)→l=a++y::b∧∃ t x,y=.tv t x∧qdA t x
 | [],a,b,y,h=>by simp [qf3] at h
 | z::r,a,b,y,h=>by
  have other:(match qf3 r with | some (a,y,b)=>some (z::a,y,b) | none=>none)=some (a,y,b)→z::r=a++y::b∧∃ t x,y=.tv t x∧qdA t x:=fun h=>by
   split at h
   ·rename_i a' y' b' hr
    simp only [Option.some.injEq,Prod.mk.injEq] at h
    obtain ⟨rfl,rfl,rfl⟩:=h
    obtain ⟨h1,h2⟩:=qpg r _ _ _ hr
    exact ⟨by rw [h1]; rfl,h2⟩
   ·simp at h
  cases z with
  | tv t x=>
   simp only [qf3] at h
   split at h
   ·rename_i he
    simp only [Option.some.injEq,Prod.mk.injEq] at h
    obtain ⟨rfl,rfl,rfl⟩:=h
    exact ⟨rfl,t,x,rfl,qsB t x he⟩
   ·exact other h
  | _=>exact other h
theorem qtr {x y:Option (TV×THp)} {z:TV×THp} (h:qq0 x y=some z):∃ w,x=some z∧y=some w∧w.1.er=z.1.er∧w.2=z.2:=by
 unfold qq0 at h
 split at h
 ·rename_i t a u b
  split at h
  ·rename_i b' hc
   split at h
   ·rename_i he
    simp only [Option.some.injEq] at h
    subst h
    obtain ⟨rfl,h3⟩:=cast?_some hc
    have:=eq_of_heq h3
    subst this
    have:=(QK _ _ _).1 he
    subst this
    exact ⟨_,rfl,rfl,rfl,rfl⟩
   ·simp at h
  ·simp at h
 ·simp at h
theorem qiE [CT] {P : Program} {ks : List FuncId} {E : Env} {N : Nat} (hd : P.follows .mixedOrders = true) (hks : qdS P ks) (hE : ZV P E) {H : TH} {k : FuncId} {fn : Func} {c : Code} (hf : P.funcs[k]? = some fn) (hb : fn.body = some c) (hg : (qh7 ks k c && !(fn.name == "runtime.NumGoroutine")) = true)
    {lvl:Nat} {first args cap:List TV} {h:THp} {y:TV×THp} (hy:qmh P E N H k fn c lvl (first++args++cap) h=some y) (l:Nat):Valid P l (.fn (.func k) (TV.ers first) (TV.ers cap)) (TV.ers args) (erO h) (.ret y.1.er) (erO y.2):=by
 simp only [Bool.and_eq_true,Bool.not_eq_true'] at hg
 obtain ⟨g1,g2,g3⟩:=qmQ hks hf hb hg.1
 unfold qmh at hy
 obtain ⟨a,h1,h2⟩:=Tree.v7 hy
 simp only [Option.some.injEq] at h2
 subst h2
 obtain ⟨r,h',h3,h4⟩:=qoN (K:=k) hE (fun b hb'=>qf9 hd hE g1 g3 20 b (jZ c hb')) g2 hd hf hb hg.2 h1 l
 have h4:(r,h')=a:=h4
 subst h4
 exact h3
theorem qoY [CT] (P:Program) (hct:∀ cid,CT.ct cid=ctF P cid) {HH:FuncId→TH} {ks:List FuncId} {E:Env} {N:Nat} (hd:P.follows .mixedOrders=true):qdS P ks→ZV P E→ZV P (qq1 P HH ks E N):=by
 intro hks hE lvl f args h rs hrs y hy α κ z hz
 unfold qq1 at hrs
 split at hrs
 ·rename_i k first cap
  split at hrs
  ·rename_i fn hf
   split at hrs
   ·rename_i c hb
    split at hrs
    ·rename_i hg
     simp only [Option.some.injEq] at hrs
     subst hrs
     refine ⟨y,?_,hz⟩
     simp only at hy
     split at hy
     ·rename_i y' h1
      simp only [Option.some.injEq] at hy
      subst hy
      exact qiE hd hks hE hf hb hg h1 lvl
     ·split at hy
      ·rename_i a x b hc
       obtain ⟨w,h1,h2,h3,h4⟩:=qtr hy
       obtain ⟨rfl,t,x',rfl,he⟩:=qpg _ _ _ _ hc
       have v0:=qiE hd hks hE hf hb hg h1 lvl
       have v1:=qiE hd hks hE hf hb hg h2 lvl
       rw [h3,h4] at v1
       rw [YD] at v0 v1 ⊢
       exact qj0 he (TV.ers a) (TV.ers b) v0 v1
      ·simp at hy
    ·simp at hrs
   ·simp at hrs
  ·simp at hrs
 ·rename_i l
  split at hrs
  ·rename_i cid hcid
   split at hrs
   ·rename_i fn hf
    split at hrs
    ·rename_i c hb
     split at hrs
     ·rename_i hg
      simp only [Option.some.injEq] at hrs
      subst hrs
      obtain ⟨g1,g2,g3⟩:=qmQ hks hf hb hg
      obtain ⟨a,h1,h2⟩:=Tree.v7 hy
      simp only [Option.some.injEq] at h2
      subst h2
      have hct:((CT.ct cid).1∈jw c∧(CT.ct cid).2∈jw c)∨((CT.ct cid).1=.skip∧(CT.ct cid).2=.skip):=by
       rw [hct cid]
       simp only [ctF,hf,hb,Option.getD_some]
       cases hr:Zh (cid % 100000) c with
       | none=>exact .inr ⟨rfl,rfl⟩
       | some x=>exact .inl (zl c hr)
      obtain ⟨r,h',h3,h4⟩:=qsx (K:=cid / 100000) hE hd h1 (fun ps n sl cid' fn' d hgl=>by
       unfold quL at hcid
       rw [hgl] at hcid
       simp only [Option.some.injEq] at hcid
       subst hcid
       rcases hct with ⟨u1,u2⟩ | ⟨u1,u2⟩
       ·refine ⟨fun b hb'=>qf9 hd hE g1 g3 20 b ?_,g3 _ u1,g3 _ u2⟩
        rcases List.mem_append.1 hb' with h5 | h5
        ·exact jl c u1 h5
        ·exact jl c u2 h5
       ·rw [u1,u2]
        exact ⟨fun b hb'=>by simp [outer] at hb',rg0 rfl,rg0 rfl⟩) lvl
      have h4:(r,h')=a:=h4
      subst h4
      exact ⟨(r,h'),h3,hz⟩
     ·simp at hrs
    ·simp at hrs
   ·simp at hrs
  ·simp at hrs
 ·simp at hrs
theorem qsP [CT] (P:Program) (hct:∀ cid,CT.ct cid=ctF P cid) {HH:FuncId→TH} {ks:List FuncId} {base:List Ent} {N:Nat} (hd:P.follows .mixedOrders=true) (hb:q7 P base) (hks:qdS P ks):∀ n,ZV P (qk9 P HH ks base N n):=by
 intro n
 induction n with
 | zero=>exact qd7 hb
 | succ n ih=>
  intro lvl f args h rs hrs y hy α κ z hz
  simp only [qk9] at hrs
  split at hrs
  ·rename_i rs' h1
   simp only [Option.some.injEq] at hrs
   subst hrs
   exact qd7 hb lvl f args h _ h1 y hy α κ z hz
  ·exact qoY P hct hd hks ih lvl f args h rs hrs y hy α κ z hz
def qqi [CT] (P:Program) (HH:FuncId→TH) (ks:List FuncId) (base:List Ent) (N n K:Nat):Option (AV×Ob):=match qq1 P HH ks (qk9 P HH ks base N n) N 0 (.fn (.func K) [] []) [] [] with
 | some rs=>Option.bind rs.o fun y=>(rs.cse (AV×Ob) (fun x=>.ret (x.1.er,erO x.2)) y).run some
 | none=>none
theorem qvd [CT] (P : Program) (hct : ∀ cid, CT.ct cid = ctF P cid) {HH : FuncId → TH} {ks : List FuncId} {base : List Ent} {N n K : Nat} {b : Bool} (hd : P.follows .mixedOrders = true) (hb : q7 P base) (hks : qdS P ks)
    (h:qqi P HH ks base N n K=some (.pv (.b b),[])):zo P (smF ⟨K,[],[],[],[]⟩ [] Bool (fun _=>some b) cs1 fun _ z=>(xb z,[])):=by
 refine qdz fun x z hz l=>?_
 obtain rfl:=Option.some.inj hz
 unfold qqi at h
 split at h
 ·rename_i rs h1
  obtain ⟨y,h3,h4⟩:=Option.bind_eq_some_iff.1 h
  obtain ⟨a,h5,h6⟩:=Tree.v7 h4
  simp only [Option.some.injEq] at h6
  subst h6
  obtain ⟨x',h7,h8⟩:=qoY P hct hd hks (qsP P hct hd hb hks n) _ _ _ _ rs h1 y h3 _ _ _ h5
  have h8:(x'.1.er,erO x'.2)=(AV.pv (.b b),[]):=h8
  simp only [Prod.mk.injEq] at h8
  rw [h8.1,h8.2] at h7
  exact h7
 ·simp at h
end Go.Rx
end
noncomputable section
namespace Go.Rx
theorem qwr [CT] {P:Program} {p:FP} {ts:List Ty} {Z:Type} {F G:Xs ts→Option Z} {c:CS Z} {out:Xs ts→Z→TV×THp} (h:zo P (smF p ts Z F c out)) (hg:∀ x z,G x=some z→F x=some z):zo P (smF p ts Z G c out):=by
 intro f args hp rs hs y hy α k z hz
 unfold smF at hs
 split at hs
 ·rename_i ds ls hm
  split at hs
  ·rename_i x hx
   simp only [Option.some.injEq] at hs
   subst hs
   obtain ⟨hl,hG⟩:=Yh hy
   refine h f args hp ⟨Z,Q1 ls (F x),fun α k z=>c.cs α (fun z=>k (out x z)) z⟩ ?_ y ?_ α k z hz
   ·unfold smF; rw [hm]; simp only [hx]
   ·show Q1 ls (F x)=some y
    have hy:Q1 ls (G x)=some y:=hy
    rw [hG] at hy
    rw [hg x y hG]; exact hy
  ·simp at hs
 ·simp at hs
def qmX {Z:Type}:List (List UInt8×Z)→List UInt8→Option Z
 | [],_=>none
 | (a,z)::r,x=>bif dS a x then some z else qmX r x
def qpL {Z:Type} (F:List UInt8→Option Z):List (List UInt8×Z)→Prop
 | []=>True
 | (a,z)::r=>F a=some z∧qpL F r
theorem qoT {Z:Type} {F:List UInt8→Option Z}:∀ {l:List (List UInt8×Z)},qpL F l→∀ x z,qmX l x=some z→F x=some z
 | [],_,_,_,h=>by simp [qmX] at h
 | (a,y)::r,ht,x,z,h=>by
  unfold qmX at h
  cases e:dS a x with
  | true=>
   rw [e] at h
   rw [← (qgP a x).1 e,ht.1]; exact h
  | false=>rw [e] at h; exact qoT ht.2 x z h
end Go.Rx
namespace Go.Rx
end Go.Rx
end
noncomputable section
namespace Go.Rx
theorem qs2 {α:Type} (l:List α) (k:Nat):zn l (k:Int)=l[k]?:=by simp [zn]
theorem qvM {α:Type} {l:List α} {k:Nat} (h:k < l.length):zn l (k:Int)=some l[k]:=by rw [qs2,List.getElem?_eq_getElem h]
theorem Zc (k:Nat):(k:Int) + 1=((k + 1:Nat):Int):=by omega
theorem dec_lt {a b:Nat} (h:a < b):decide ((a:Int) < (b:Int))=true:=decide_eq_true (by omega)
theorem vL {a b:Nat} (h:¬ a < b):decide ((a:Int) < (b:Int))=false:=decide_eq_false (by omega)
end Go.Rx
end
noncomputable section
namespace Go.Rx
end Go.Rx
end
noncomputable section
namespace Go.Rx
theorem XB {α:Type} {l:List α} {k:Nat} {d:α} (h:k < l.length):zn l (k:Int)=some (l.getD k d):=by
 rw [qvM h]; simp [List.getD,List.getElem?_eq_getElem h]
def JI (p:Nat→Bool):Nat→Nat→Option Nat
 | 0,_=>none
 | m + 1,k=>if p k then some k else JI p m (k + 1)
def qml (q:Nat→Bool):Nat→Nat→Bool
 | 0,_=>true
 | m + 1,k=>q k&&qml q m (k + 1)
theorem qfu {p:Nat→Bool}:∀ {m k i:Nat},JI p m k=some i→p i=true∧k≤i∧i < k + m∧∀ j,k≤j→j < i→p j=false
 | 0,k,i,h=>by simp [JI] at h
 | m + 1,k,i,h=>by
  unfold JI at h
  split at h
  ·simp at h; subst h
   exact ⟨by assumption,by omega,by omega,fun j h1 h2=>by omega⟩
  ·obtain ⟨h1,h2,h3,h4⟩:=qfu h
   refine ⟨h1,by omega,by omega,fun j h5 h6=>?_⟩
   by_cases hj:j=k
   ·subst hj; simp_all
   ·exact h4 j (by omega) h6
theorem qfc {p:Nat→Bool}:∀ {m k:Nat},JI p m k=none→∀ j,k≤j→j < k + m→p j=false
 | 0,k,_,j,h1,h2=>by omega
 | m + 1,k,h,j,h1,h2=>by
  unfold JI at h
  split at h
  ·simp at h
  ·by_cases hj:j=k
   ·subst hj; simp_all
   ·exact qfc h j (by omega) (by omega)
theorem qlO {q:Nat→Bool}:∀ {m k:Nat},qml q m k=true↔∀ j,k≤j→j < k + m→q j=true
 | 0,k=>by simp [qml]; intro j h1 h2; omega
 | m + 1,k=>by
  unfold qml
  rw [Bool.and_eq_true,qlO]
  constructor
  ·intro h j h1 h2
   by_cases hj:j=k
   ·subst hj; exact h.1
   ·exact h.2 j (by omega) (by omega)
  ·intro h
   exact ⟨h k (by omega) (by omega),fun j h1 h2=>h j (by omega) (by omega)⟩
end Go.Rx
end
noncomputable section
namespace Go.Rx
variable {P:Program} {G:Gh} {w:World}
theorem qlB (x:List UInt8):Go.Lib.bytesOf (x.map fun c=>(c.toNat:Int))=x:=by
 unfold Go.Lib.bytesOf
 rw [List.map_map]
 conv=>rhs; rw [← List.map_id x]
 refine List.map_congr_left fun c _=>?_
 simp
theorem qh1 {x:List UInt8} {v:Value} (h:ql G w (.bl x) [v]):(Extern.Bytes.bytesOf v).run P w=.ok ⟨x.toArray⟩ w:=by
 obtain ⟨a,cap,h1,h2,h3⟩:=h
 simp only [List.cons.injEq,and_true] at h1
 subst h1
 rcases h3 with rfl | ⟨b,off,rfl,hc,_⟩
 ·cases a<;>rfl
 ·have hl := Go.Lib.run_loadBytesX (P := P) w (x.map fun c => (c.toNat : Int)) ⟨b, off, none⟩ .empty (fun j n hj => by
     simp only [List.getElem?_map,Option.map_eq_some_iff] at hj
     obtain ⟨c,hj,rfl⟩:=hj
     have hjl:=(List.getElem?_eq_some_iff.1 hj).1
     have e:(⟨b,off,none⟩:Addr).add j=⟨b,off + j,none⟩:=by unfold Addr.add; split<;>simp_all
     rw [e,hc j (by simpa using hjl),List.getElem?_map,hj]
     rfl)
  rw [qlB,List.length_map] at hl
  show (Extern.Bytes.loadBytes ⟨b,off,none⟩ x.length .empty).run P w=_
  rw [hl]
  congr 1
  apply ByteArray.ext
  show (#[]:Array UInt8)++x.toArray=x.toArray
  simp
theorem qsz {K : FuncId} {fn : Func} (hf : P.funcs[K]? = some fn) (hb : fn.body = none) (hn : (fn.name == "runtime.NumGoroutine") = false) (h1 : Extern.findNext fn = none) (h2 : Extern.find fn = some Extern.BytealgCompare.compare) (x y : List UInt8) (l : Nat) :
    Valid P l (.fn (.func K) [] []) [.pv (.bl x),.pv (.bl y)] [] (.ret (.pv (.i .i64 (Go.Lib.compareBytes x y)))) []:=by
 intro γ G w vf vas H hvf hva
 have h0:=qN rfl rfl hvf
 simp only [qc] at h0
 obtain ⟨va,vc,h0,ha,hc⟩:=h0
 simp only [qU] at ha hc
 subst ha; subst hc
 simp only [List.cons.injEq,and_true] at h0
 subst h0
 simp only [qU] at hva
 obtain ⟨c1,v1,r1,rfl,hc1,ho1,c2,v2,r2,rfl,hc2,ho2,rfl⟩:=hva
 simp only [qc] at hc1 hc2
 have e1:c1=[v1]:=ho1
 have e2:c2=[v2]:=ho2
 subst e1; subst e2
 refine ⟨_,rfl,?_⟩
 unfold Zn
 have hx:=qh1 (P:=P) hc1
 have hy:=qh1 (P:=P) hc2
 have hrun:(do let d ← Deferred.ofValue (.func (.func K) ([]:List Value).toArray ([]:List Value).toArray) [v1,v2].toArray; invoke d.target d.args:Sem Next).run P w=.ok (.value (.int .i64 (Go.Lib.compareBytes x y))) w:=by
  have e:(Extern.BytealgCompare.compare [v1,v2].toArray).run P w=.ok (.int .i64 (Go.Lib.compareBytes x y)) w:=by
   show (do pure (goInt (Extern.BytealgCompare.cmp (← Extern.Bytes.bytesOf v1) (← Extern.Bytes.bytesOf v2))):Sem Value).run P w=_
   simp only [Sem.run_bind,Sem.run_pure,Result.andThen,hx,hy]
   rw [Go.Lib.cmp_eq]
   rfl
  simp only [Deferred.ofValue,Sem.run_bind,Sem.run_pure,Result.andThen_ok,invoke,callFunc,run_program,hf,hn,hb,h1,h2,Option.isNone_none,Bool.false_eq_true,if_false,if_true,run_mark]
  simp only [Array.append_empty,List.append_toArray,List.nil_append,List.append_nil]
  rw [e]
  rfl
 rw [hrun]
 refine ⟨γ,G,H,Trans.refl H,?_⟩
 exact ⟨_,rfl,rfl⟩
end Go.Rx
end
noncomputable section
namespace Go.Rx
def qwI (x y:List UInt8):Option Int:=some (Go.Lib.compareBytes x y)
def qwd (K:FuncId):Ent:=smF ⟨K,[],[.x .bl,.x .bl],[],[]⟩ [.bl,.bl] Int (fun x=>qwI x.1 x.2.1) cs1 fun _ z=>(xi z,[])
theorem qvo [CT] {P:Program} {K:FuncId} {fn:Func} (hf:P.funcs[K]?=some fn) (hb:fn.body=none) (hn:(fn.name == "runtime.NumGoroutine")=false) (h1:Extern.findNext fn=none) (h2:Extern.find fn=some Extern.BytealgCompare.compare):zo P (qwd K):=
 qdz fun x z h l=>by
  obtain ⟨a,b,_⟩:=x
  obtain rfl:=Option.some.inj h
  exact qsz hf hb hn h1 h2 a b l
end Go.Rx
end
