/- A machine over pure data, sound for the model: a part of the proof of the laws. No condition. -/
import Derived.KernelRfl
import Derived.IntWalk
import Derived.Test.YtmnngfcoenhhkaaGreatComB
set_option linter.unusedSimpArgs false
set_option linter.unusedVariables false
set_option linter.unusedSectionVars false
noncomputable section
namespace Go.Rx
section g
variable {P:Program} {hn:Hint} {K:FuncId}
theorem new_ok2 {ob : Ob} {γ : Hm} {G : Gh} {w : World} (H : HeapOK ob γ G w) {l : Nat} (hl : get ob l = none) (o' : AObj) (cap : Nat) {w' : World} {obj : Obj} (hw : w'.heap = w.heap.push obj) (hcl : ∀ n ∈ o'.names, ∃ x, get (ins l o' ob) n = some x)
    (hobj:Trans ob γ G w (ins l o' ob) (upd γ l (w.heap.size,cap)) G w'→(∀ i,¬ G w.heap.size i)→ObjOK (ins l o' ob) (upd γ l (w.heap.size,cap)) G w' l o') (hio:SameIO w w':=by exact ⟨rfl,rfl⟩) :
    HeapOK (ins l o' ob) (upd γ l (w.heap.size,cap)) G w'∧Trans ob γ G w (ins l o' ob) (upd γ l (w.heap.size,cap)) G w':=
  put_ok H l o' (w.heap.size,cap) G w' (by rw [hw]; simp) (fun b hb _=>by rw [hw]; exact heap_push w _ b hb) ⟨fun _ _ h=>h,fun b i h=>by simp only [World.cell?,hw,heap_push w _ b (H.gok b i h)]⟩ (fun _ _ h h'=>absurd h h')
    (by rw [hw]; simp) (.inl (Nat.le_refl _)) (fun o ho=>by rw [hl] at ho; cases ho) hcl (fun T=>hobj T fun i hi=>by have:=H.gok _ _ hi; omega) hio
theorem get_drop (l:Nat) (ob:Ob) (n:Nat):get (dropOb l ob) n=if n=l then none else get ob n:=by
  unfold dropOb
  rw [get_filter ob (fun n=>!Nat.beq n l)]
  by_cases e:n=l
  · subst e; simp [Nat.beq_refl]
  · rw [if_neg e]
    cases hb:Nat.beq n l
    · simp
    · exact absurd (Nat.eq_of_beq_eq_true hb) e
theorem not_busy {st:LoopState} (h:notBusy st=true):st≠.busy:=by cases st<;>simp [notBusy] at h ⊢
theorem range_core {g : Operand} {ps : Array Tmp} {as0 bd : Code} {σ : St} {h₀ : Ob} {γ₀ : Hm} {G₀ : Gh} {w₀ : World} {a : Act} {w : World} {Q : Exit → Act → World → Prop} {γ : Hm} {G : Gh} (h : StOK h₀ γ₀ G₀ w₀ σ γ G a w) (nn : Nat) (L D : Nat) (T : List Nat)
    {k:FuncId} {first cap:List AV} (hg:opdA σ g=.fn (.func k) first cap) {r:AV} {h':Ob} (hL:get σ.ob L=none) (hD:get σ.ob D=none) {ps':List Tmp} {n':Nat} {sl':List (Nat×AV)} {as' bd':Code} {fn':FuncId} {st:LoopState} {pe:Option Code} {d':Nat}
    (hgl:get h' L=some (.loop ps' n' sl' as' bd' fn' st pe d')) (hcl:closedB (L::(AV.namesL first++AV.namesL cap)) (keepOnly T (ins L (.loop ps.toList σ.n σ.sl as0 bd K .ready none D) (ins D (.dfr true) σ.ob)))=true)
    (hcl2:closedB [] (dropOb L (merge T h' (ins L (.loop ps.toList σ.n σ.sl as0 bd K .ready none D) (ins D (.dfr true) σ.ob))))=true)
    (hnew:(dom h').all (fun n=>has T n||!has (dom (ins L (.loop ps.toList σ.n σ.sl as0 bd K .ready none D) (ins D (.dfr true) σ.ob))) n)=true) (hst:notBusy st=true) (hcb:callable P k=true) (hkD:has σ.keep D=false) (hLD:Nat.beq L D=false)
    {ee:Ex} (hee:(match (generalizing:=false) pe with | none=>some Ex.normal | some .ret=>some .ret | some (.exit i)=>some (.exit i) | _=>none)=some ee)
    (hval:Valid P σ.lvl (.fn (.func k) first cap) [.yl L] (keepOnly T (ins L (.loop ps.toList σ.n σ.sl as0 bd K .ready none D) (ins D (.dfr true) σ.ob))) (.ret r) h')
    (hq:∀ a' w',Fits h₀ γ₀ G₀ w₀ { σ with ob:=dropOb L (merge T h' (ins L (.loop ps.toList σ.n σ.sl as0 bd K .ready none D) (ins D (.dfr true) σ.ob))),keep:=D::σ.keep,dfs:=D::σ.dfs } a' w'→Q (exOf ee) a' w') :
    (Code.rangeFunc g ps as0 bd).wpIn (FW none) nn P Q a w:=by
  have hne:L≠D:=fun e=>by subst e; simp [Nat.beq_refl] at hLD
  have hA:=new_ok2 h.heap hD (.dfr true) 0 (w':=w.alloc (.deferred (some []))) (obj:=.deferred (some [])) rfl (fun n hn=>by simp [AObj.names] at hn) (fun T hG=>by
    simp only [ObjOK,upd_same]
    exact ⟨World.alloc_heap_new w _,hG⟩)
  have hvg:=RepV_one rfl rfl (by have:=h.stands g; rw [hg] at this; exact this)
  simp only [RepC] at hvg
  obtain ⟨va,vc,hvg,hva,hvc⟩:=hvg
  simp only [List.cons.injEq,and_true] at hvg
  refine wpIn_rangeFunc fun fn _=>?_
  obtain ⟨hcn,hco⟩:=closedB_some hcl
  obtain ⟨oL,hoL⟩:=hcn L (by simp)
  obtain ⟨hTL,hoL'⟩:=get_only hoL
  rw [get_ins,if_pos rfl] at hoL'
  cases hoL'
  have hLA:get (ins D (.dfr true) σ.ob) L=none:=by rw [get_ins,if_neg (fun e=>hne e.symm)]; exact hL
  have hB:=new_ok2 hA.1 hLA (.loop ps.toList σ.n σ.sl as0 bd K .ready none D) 0 (w':=(w.alloc (.deferred (some []))).alloc (.loop { state:=.ready,pending:=none,fn,tmps:=a.tmps,params:=ps,assign:=as0,body:=bd,defers:=w.heap.size })) (obj:=.loop { state:=.ready,pending:=none,fn,tmps:=a.tmps,params:=ps,assign:=as0,body:=bd,defers:=w.heap.size }) rfl
    (fun n hn=>by
      obtain ⟨x,hx⟩:=hco L _ hoL n hn
      exact ⟨x,(get_only hx).2⟩) (fun TB hG=>by
    simp only [ObjOK,upd_same,upd_other _ _ (fun e=>hne e.symm)]
    refine ⟨a.tmps,fn,World.alloc_heap_new _ _,h.size,fun t x hx=>?_,⟨true,by rw [get_ins,if_neg hne,get_ins,if_pos rfl]⟩,hG⟩
    obtain ⟨v,q1,q2⟩:=h.slots t x hx
    exact ⟨v,q1,RepV.step TB _ _ (RepV.step hA.2 _ _ q2)⟩)
  have hAB:=hA.2.trans h.heap hB.2
  revert hB hAB
  generalize hw2:(w.alloc (.deferred (some []))).alloc (.loop { state:=.ready,pending:=none,fn,tmps:=a.tmps,params:=ps,assign:=as0,body:=bd,defers:=w.heap.size })=w2
  have hszA:(w.alloc (.deferred (some []))).heap.size=w.heap.size + 1:=World.size_alloc _ _
  generalize hγ2:upd (upd γ D (w.heap.size,0)) L ((w.alloc (.deferred (some []))).heap.size,0)=γ2
  intro hB hAB
  have hγL:(γ2 L).1=w.heap.size + 1:=by rw [← hγ2,upd_same,hszA]
  have hγD:(γ2 D).1=w.heap.size:=by rw [← hγ2,upd_other _ _ (fun e=>hne e.symm),upd_same]
  have hsub:∀ l o,get (keepOnly T (ins L (.loop ps.toList σ.n σ.sl as0 bd K .ready none D) (ins D (.dfr true) σ.ob))) l=some o→get (ins L (.loop ps.toList σ.n σ.sl as0 bd K .ready none D) (ins D (.dfr true) σ.ob)) l=some o:=fun l o hl=>(get_only hl).2
  have HR:=hB.1.sub hsub hco
  have hfv:RepV (keepOnly T (ins L (.loop ps.toList σ.n σ.sl as0 bd K .ready none D) (ins D (.dfr true) σ.ob))) γ2 G w2 (.fn (.func k) first cap) (a.eval g):=by
    have:=h.stands g
    rw [hg] at this
    refine RepV_sub hsub (fun n hn=>hcn n ?_) (RepV.step hAB _ _ this)
    simp only [AV.names] at hn
    exact List.mem_cons_of_mem _ hn
  have hyv:RepL (keepOnly T (ins L (.loop ps.toList σ.n σ.sl as0 bd K .ready none D) (ins D (.dfr true) σ.ob))) γ2 G w2 [.yl L] [.func (.yield (w.heap.size + 1)) #[] #[]]:=by
    simp only [RepL]
    exact ⟨_,_,_,rfl,by simp only [RepC]; exact ⟨by rw [hγL],_,_,_,_,_,_,_,_,_,hoL⟩,rfl,rfl⟩
  obtain ⟨r',er,hcall⟩:=hval γ2 G w2 _ _ HR hfv hyv
  cases er
  obtain ⟨fk,hfk,hbk,hnk⟩:∃ fk,P.funcs[k]?=some fk∧fk.body.isSome=true∧(fk.name == "runtime.NumGoroutine")=false:=by
    unfold callable at hcb
    split at hcb
    · rename_i fk hfk
      simp only [Bool.and_eq_true,Bool.not_eq_true'] at hcb
      exact ⟨fk,hfk,hcb.1,hcb.2⟩
    · simp at hcb
  have hinv:(invoke (.fn (.func k) vc.toArray) (va.toArray++#[Value.func (.yield (w.heap.size + 1)) #[] #[]])).run P w2=.ok (.enter k (va.toArray++#[Value.func (.yield (w.heap.size + 1)) #[] #[]]++vc.toArray)) w2:=by
    have hbn:fk.body.isNone=false:=by cases hq:fk.body<;>simp [hq] at hbk ⊢
    simp only [invoke,callFunc,Sem.run_bind,run_program,Result.andThen_ok,hfk,hnk,hbn,Bool.false_eq_true,if_false,Sem.run_pure]
  have hC:Calls P k (va.toArray++#[Value.func (.yield (w.heap.size + 1)) #[] #[]]++vc.toArray) w2 fun e w''=>∃ v,e=.returned v∧∃ γ' G',HeapOK h' γ' G' w''∧Trans (keepOnly T (ins L (.loop ps.toList σ.n σ.sl as0 bd K .ready none D) (ins D (.dfr true) σ.ob))) γ2 G w2 h' γ' G' w''∧RepV h' γ' G' w'' r v:=by
    unfold CallsV at hcall
    have:(do let d ← Deferred.ofValue (a.eval g) [Value.func (.yield (w.heap.size + 1)) #[] #[]].toArray; invoke d.target d.args:Sem Next).run P w2=.ok (.enter k (va.toArray++#[Value.func (.yield (w.heap.size + 1)) #[] #[]]++vc.toArray)) w2:=by
      rw [hvg]
      simp only [Deferred.ofValue,Sem.run_bind,Sem.run_pure,Result.andThen_ok]
      exact hinv
    rw [this] at hcall
    exact hcall
  refine ⟨w.heap.size + 1,[{ target:=.collected w.heap.size,args:=#[] }],w2,{ target:=.fn (.func k) vc.toArray,args:=va.toArray++#[Value.func (.yield (w.heap.size + 1)) #[] #[]] },w2,k,_,w2,?_,?_,fun _ _=>trivial,hinv,fun hd=>by simp [FW,Fence.wide] at hd,?_⟩
  · rw [← hw2]; exact run_enterLoop_outer _ _ _ _ _
  · have he:(a.eval g)=.func (.func k) va.toArray vc.toArray:=hvg
    simp only [resolve,he,Deferred.ofValue,Sem.run_pure]
    simp [Act.eval]
  refine (callsIn_wide (n:=nn - 1)).2 (hC.mono fun e w3 ⟨v,ev,γ',G',HC,TC,_⟩=>?_)
  subst ev
  have hM:=merge_ok hB.1 HC TC (fun n x hx=>by
    have:=all_dom hnew (n:=n) (x:=x) hx
    simp only [Bool.or_eq_true,Bool.not_eq_true'] at this
    exact this.imp id (not_has_dom _ n).1)
  revert hM
  generalize hγ3:joinM h' γ' γ2=γ3
  generalize hmob:merge T h' (ins L (.loop ps.toList σ.n σ.sl as0 bd K .ready none D) (ins D (.dfr true) σ.ob))=mob at hcl2 hq ⊢
  intro hM
  have hmL:get mob L=some (.loop ps' n' sl' as' bd' fn' st pe d'):=by rw [← hmob,get_merge,hgl]
  have hγ3L:γ3 L=γ2 L:=by
    obtain ⟨o',q1,q2⟩:=hM.2.kept L (.loop ps.toList σ.n σ.sl as0 bd K .ready none D) (by rw [get_ins,if_pos rfl])
    rw [hmL] at q1; cases q1
    exact q2
  have o3:=hM.1.obj _ _ hmL
  have lt3:=o3.lt trivial
  simp only [ObjOK] at o3
  obtain ⟨tmps3,fn3,m1,m2,m3,m4,m5⟩:=o3
  have hγ3L1:(γ3 L).1=w.heap.size + 1:=by rw [hγ3L,hγL]
  have hend:=run_endLoop (P:=P) m1 (by simpa using not_busy hst)
  have hTd:=turn_ok hM.1 hmL (.loop ps' n' sl' as' bd' fn' .exhausted pe d') G' (w3.putObj (γ3 L).1 (.loop { state:=.exhausted,pending:=pe,fn:=fn3,tmps:=tmps3,params:=ps'.toArray,assign:=as',body:=bd',defers:=(γ3 d').1 }))
    (by simp [World.putObj]) (fun b hb=>World.putObj_heap_other hb) (keeps_block m5 fun b' hb'=>World.putObj_heap_other hb') (fun _ _ h h'=>absurd h h') rfl
    (fun m hm=>by
      obtain ⟨o,ho⟩:=hM.1.closed L _ hmL m (by simpa [AObj.names] using hm)
      by_cases e:L=m
      · exact ⟨_,by rw [get_ins,if_pos e]⟩
      · exact ⟨o,by rw [get_ins,if_neg e]; exact ho⟩) (fun T=>by
      simp only [ObjOK]
      refine ⟨tmps3,fn3,World.putObj_heap_same lt3,m2,fun t x hx=>?_,dfr_kept T m4,m5⟩
      obtain ⟨v,r1,r2⟩:=m3 t x hx
      exact ⟨v,r1,RepV.step T _ _ r2⟩)
  have hall:=(hAB.then hM.2).then hTd.2
  have hsub2:∀ l o,get (dropOb L mob) l=some o→get (ins L (.loop ps' n' sl' as' bd' fn' .exhausted pe d') mob) l=some o:=fun l o hl=>by
    rw [get_drop] at hl
    split at hl
    · simp at hl
    · rename_i e
      rw [get_ins,if_neg (fun q=>e q.symm)]; exact hl
  obtain ⟨_,hco2⟩:=closedB_some hcl2
  have HF:=hTd.1.sub hsub2 hco2
  have hthere:∀ l o,get σ.ob l=some o→∃ x,get (dropOb L mob) l=some x:=fun l o hl=>by
    obtain ⟨o',q1,_⟩:=hall.kept l o hl
    have hlL:l≠L:=fun e=>by rw [e,hL] at hl; cases hl
    rw [get_ins,if_neg (fun q=>hlL q.symm)] at q1
    exact ⟨o',by rw [get_drop,if_neg hlL]; exact q1⟩
  have hDk:∃ b,get (dropOb L mob) D=some (.dfr b):=by
    obtain ⟨b,hb⟩:=dfr_kept (hM.2.then hTd.2) (d:=D) ⟨true,by rw [get_ins,if_neg hne,get_ins,if_pos rfl]⟩
    rw [get_ins,if_neg hne] at hb
    exact ⟨b,by rw [get_drop,if_neg (fun e=>hne e.symm)]; exact hb⟩
  have hγ3D:(γ3 D).1=w.heap.size:=by
    rw [(dfr_home (hM.2.then hTd.2) (d:=D) ⟨true,by rw [get_ins,if_neg hne,get_ins,if_pos rfl]⟩).1,hγD]
  have hfin:Fits h₀ γ₀ G₀ w₀ { σ with ob:=dropOb L mob,keep:=D::σ.keep,dfs:=D::σ.dfs } { a with defers:=[{ target:=.collected w.heap.size,args:=#[] }]++a.defers } (w3.putObj (γ3 L).1 (.loop { state:=.exhausted,pending:=pe,fn:=fn3,tmps:=tmps3,params:=ps'.toArray,assign:=as',body:=bd',defers:=(γ3 d').1 })):=by
    refine ⟨γ3,G',HF,fun t x hx=>?_,h.size,(h.tr.then hall).drop hsub2 fun l o hl=>?_,fun l o hl=>List.mem_cons_of_mem _ (h.keep l o hl),?_,fun d hd=>?_,fun d hd=>?_⟩
    · obtain ⟨v,q1,q2⟩:=h.slots t x hx
      refine ⟨v,q1,RepV_sub hsub2 (fun n hn=>?_) (RepV.step hall _ _ q2)⟩
      obtain ⟨o,ho⟩:=RepV_names q2 n hn
      exact hthere n o ho
    · obtain ⟨o',q1,_⟩:=h.tr.kept l o hl
      exact hthere l o' q1
    · simp only [List.map_cons,List.singleton_append,hγ3D]
      rw [h.defers]
      exact congrArg _ (dfr_map hall fun d hd=>(h.dfr d hd).1)
    · rcases List.mem_cons.1 hd with rfl | hd
      · refine ⟨hDk,?_⟩
        cases hq:get h₀ d with
        | none=>rfl
        | some o=>
          have:=h.keep d o hq
          rw [(has_iff _ _).2 this] at hkD; cases hkD
      · obtain ⟨⟨b,hb⟩,h2⟩:=h.dfr d hd
        refine ⟨?_,h2⟩
        obtain ⟨b',hb'⟩:=dfr_kept hall ⟨b,hb⟩
        have hlL:d≠L:=fun e=>by rw [e,hL] at hb; cases hb
        rw [get_ins,if_neg (fun q=>hlL q.symm)] at hb'
        exact ⟨b',by rw [get_drop,if_neg hlL]; exact hb'⟩
    · rcases List.mem_cons.1 hd with rfl | hd
      · exact List.mem_cons_self
      · exact List.mem_cons_of_mem _ (h.dfk d hd)
  have hQ:=hq _ _ hfin
  refine ⟨pe,_,by rw [← hγ3L1]; exact hend,?_⟩
  cases pe with
  | none=>
    simp only [Option.some.injEq] at hee; subst hee
    exact hQ
  | some c=>
    simp only
    cases c<;>simp only [Option.some.injEq] at hee<;>try (simp at hee; done)
    · subst hee; exact wpIn_exit hQ
    · subst hee; exact wpIn_ret hQ
theorem range_ok:RangeOK P hn K:=by
  intro O g ps as0 bd σ σ' e qs hs hp h₀ γ₀ G₀ w₀ a w Q hf hq nn
  obtain ⟨γ,G,h⟩:=hf
  unfold rangeA at hs
  split at hs
  case h_2=>simp at hs
  rename_i k first cap hrnd hg
  split at hs
  case h_2=>simp at hs
  rename_i r h' hL hD hAn
  split at hs
  case h_2=>simp at hs
  rename_i ps' n' sl' as' bd' fn' st pe d' hgl
  obtain ⟨hc,hs⟩:=need_some hs
  simp only [Bool.and_eq_true,Bool.not_eq_true'] at hc
  obtain ⟨⟨⟨⟨⟨⟨hcl,hcl2⟩,hnew⟩,hst⟩,hcb⟩,hkD⟩,hLD⟩:=hc
  split at hs
  case h_2=>simp at hs
  rename_i ee hee
  simp only [Option.some.injEq,Prod.mk.injEq] at hs
  obtain ⟨⟨rfl,rfl⟩,rfl⟩:=hs
  exact range_core h nn _ _ _ hg hL hD hgl hcl hcl2 hnew hst hcb hkD hLD hee hp hq
end g
end Go.Rx
end
noncomputable section
namespace Go.Rx
def chk {α:Type} (p:Prop) [Decidable p] (x:Option α):Option α:=if p then x else none
theorem chk_some {α:Type} {p:Prop} [Decidable p] {x:Option α} {y:α} (h:chk p x=some y):p∧x=some y:=by
  unfold chk at h; split at h
  · exact ⟨by assumption,h⟩
  · simp at h
theorem chk_pos {α:Type} {p:Prop} [Decidable p] {x:Option α} (h:p):chk p x=x:=by simp [chk,h]
theorem cond_some {α:Type} {b:Bool} {x y:Option α} {z:α} (h:cond b x y=some z):(b=true∧x=some z)∨(b=false∧y=some z):=by
  cases b
  · exact .inr ⟨rfl,h⟩
  · exact .inl ⟨rfl,h⟩
theorem bind_some {α β:Type} {x:Option α} {f:α→Option β} {z:β} (h:x.bind f=some z):∃ y,x=some y∧f y=some z:=by
  cases x with
  | none=>simp at h
  | some y=>exact ⟨y,rfl,h⟩
def getI {α:Type} (xs:List α) (i:Int):Option α:=if 0≤i then xs[i.toNat]? else none
def in64 (n:Int):Prop:=-9223372036854775808≤n∧n≤9223372036854775807
instance (n:Int):Decidable (in64 n):=by unfold in64; infer_instance
theorem wrap64 {n:Int} (h:in64 n):IntKind.i64.wrap n=n:=IntWalk.i64_in n h
def encL {α:Type} (sz:Nat) (f:α→PV) (xs:List α):PV:=.l sz (xs.map f)
theorem All.nil:All []:=trivial
theorem All.cons {p:Prop} {ps:List Prop} (h:p) (hs:All ps):All (p::ps):=by
  cases ps with
  | nil=>exact h
  | cons q qs=>exact ⟨h,hs⟩
theorem getI_ok {α:Type} {xs:List α} {i:Int} {y:α} (h:getI xs i=some y) (sz:Nat) (f:α→PV):0≤i∧(encL sz f xs).getI i.toNat=some (f y):=by
  unfold getI at h; split at h
  · refine ⟨by assumption,?_⟩
    simp only [encL,PV.getI,List.getElem?_map,h,Option.map_some]
  · simp at h
theorem getI_bl {xs:List UInt8} {i:Int} {y:UInt8} (h:getI xs i=some y):0≤i∧(PV.bl xs).getI i.toNat=some (u8 y):=by
  unfold getI at h; split at h
  · refine ⟨by assumption,?_⟩
    simp only [PV.getI,h,Option.map_some]
  · simp at h
theorem nv_b {b c:Bool} (h:b=c):AV.pv (.b b)=AV.pv (.b c):=by rw [h]
theorem nv_wrap {n:Int} (h:in64 n):AV.pv (.i .i64 (IntKind.i64.wrap n))=AV.pv (.i .i64 n):=by rw [wrap64 h]
theorem nv_len {α:Type} (f:α→PV) (xs:List α):AV.pv (.i .i64 ((xs.map f).length:Nat))=AV.pv (.i .i64 (xs.length:Nat)):=by rw [List.length_map]
theorem nv_sub {α:Type} (sz:Nat) (f:α→PV) (xs:List α) (l h:Nat):AV.pv ((encL sz f xs).sub l h)=AV.pv (encL sz f ((xs.take h).drop l)):=by
  simp only [encL,PV.sub,List.map_drop,List.map_take]
theorem len_ok {α:Type} (sz:Nat) (f:α→PV) (xs:List α):(encL sz f xs).len=xs.length:=by simp only [encL,PV.len,List.length_map]
theorem ob_app {α:Type} (fz:Bool) (sz:Nat) (f:α→PV) (xs ys:List α):AObj.vec fz sz (.l sz (xs.map f++ys.map f))=AObj.vec fz sz (encL sz f (xs++ys)):=by
  simp only [encL,List.map_append]
theorem nv_app {α:Type} (l:Nat) (f:α→PV) (xs ys:List α):AV.v l (xs.map f++ys.map f).length=AV.v l (xs++ys).length:=by
  simp only [← List.map_append,List.length_map]
theorem ob_set {α:Type} (fz:Bool) (sz:Nat) (f:α→PV) (xs:List α) (k:Nat) (y:α):AObj.vec fz sz (.l sz ((xs.map f).set k (f y)))=AObj.vec fz sz (encL sz f (xs.set k y)):=by
  simp only [encL,List.map_set]
theorem LoopP.next {f:Orc→St→CR} {O:Orc} {σ σ₁ σ':St} {e:Ex} {ps:List Prop} (h:f O σ=some ((.normal,σ₁),ps)) (hp:All ps) (hl:LoopP f σ₁ e σ'):LoopP f σ e σ':=by
  obtain ⟨n,hn⟩:=hl
  exact ⟨n + 1,O,.normal,σ₁,ps,h,hp,hn⟩
theorem LoopP.exit {f:Orc→St→CR} {O:Orc} {σ σ':St} {i:Nat} {ps:List Prop} (h:f O σ=some ((.exit i,σ'),ps)) (hp:All ps):LoopP f σ (.exit i) σ':=
  ⟨1,O,.exit i,σ',ps,h,hp,rfl,rfl⟩
theorem LoopP.ret {f:Orc→St→CR} {O:Orc} {σ σ':St} {ps:List Prop} (h:f O σ=some ((.ret,σ'),ps)) (hp:All ps):LoopP f σ .ret σ':=
  ⟨1,O,.ret,σ',ps,h,hp,rfl,rfl⟩
def sub:List Nat→Code→Code
  | [],c=>c
  | 0::r,.seq a _=>sub r a
  | _::r,.seq _ b=>sub r b
  | 0::r,.cond _ a _=>sub r a
  | _::r,.cond _ _ b=>sub r b
  | _::r,.block _ a=>sub r a
  | _::r,.loop a=>sub r a
  | _::r,.scope a=>sub r a
  | 0::r,.rangeFunc _ _ a _=>sub r a
  | _::r,.rangeFunc _ _ _ b=>sub r b
  | _::_,c=>c
end Go.Rx
end
noncomputable section
namespace Go.Rx
section g
variable {P:Program} {ob:Ob} {γ:Hm} {G:Gh} {w:World}
theorem Valid.frame (T : List Nat) {l : Nat} {f : AV} {args : List AV} {h h1 : Ob} {r : AV} (hv : Valid P l f args (keepOnly T h) (.ret r) h1)
    (hc:closedB (f.names++AV.namesL args) (keepOnly T h)=true) (hn:(dom h1).all (fun n=>has T n||!has (dom h) n)=true):Valid P l f args h (.ret r) (merge T h1 h):=by
  intro γ G w vf vas H hvf hva
  have hsub:∀ l o,get (keepOnly T h) l=some o→get h l=some o:=fun l o hl=>(get_only hl).2
  obtain ⟨hcn,hco⟩:=closedB_some hc
  have H1:=H.sub hsub hco
  obtain ⟨r',he,hcall⟩:=hv γ G w vf vas H1 (RepV_sub hsub (fun n hn=>hcn n (List.mem_append_left _ hn)) hvf) (RepL_sub hsub (fun n hn=>hcn n (List.mem_append_right _ hn)) hva)
  cases he
  refine ⟨r,rfl,hcall.mono fun v w' ⟨γ',G',g1,g2,g3⟩=>?_⟩
  have:=merge_ok H g1 g2 (fun n x hx=>by
    have:=all_dom hn (n:=n) (x:=x) hx
    simp only [Bool.or_eq_true,Bool.not_eq_true'] at this
    exact this.imp id (not_has_dom _ n).1)
  exact ⟨_,G',this.1,this.2,merge_val g3⟩
theorem RepL_maybe {x:AV} (hx:x=.pv (.bl [])∨∃ sz,x=.pv (.l sz [])):∀ (pre:List AV) (post:List AV) (vs:List Value),RepL ob γ G w (pre++x::post) vs→RepL ob γ G w (pre++.es 0::post) vs∨RepL ob γ G w (pre++.es 1::post) vs
  | [],post,vs,h=>by
    simp only [List.nil_append,RepL] at h ⊢
    obtain ⟨c,v,r,rfl,h1,h2,h3⟩:=h
    have key:∃ a cap,c=[.slice a 0 cap]:=by
      rcases hx with rfl | ⟨sz,rfl⟩
      · simp only [RepC,RepP] at h1; obtain ⟨a,cap,h,_⟩:=h1; exact ⟨a,cap,h⟩
      · simp only [RepC,RepP] at h1; obtain ⟨a,cap,h,_⟩:=h1; exact ⟨a,cap,h⟩
    have hag:x.isAgg=false:=by rcases hx with rfl | ⟨sz,rfl⟩<;>rfl
    obtain ⟨a,cap,rfl⟩:=key
    rw [hag] at h2
    cases a with
    | none=>exact .inr ⟨_,v,r,rfl,by simp only [RepC]; exact ⟨_,_,rfl,rfl⟩,h2,h3⟩
    | some a=>exact .inl ⟨_,v,r,rfl,by simp only [RepC]; exact ⟨_,_,rfl,rfl⟩,h2,h3⟩
  | y::pre,post,vs,h=>by
    simp only [List.cons_append,RepL] at h ⊢
    obtain ⟨c,v,r,rfl,h1,h2,h3⟩:=h
    rcases RepL_maybe hx pre post r h3 with h | h
    · exact .inl ⟨c,v,r,rfl,h1,h2,h⟩
    · exact .inr ⟨c,v,r,rfl,h1,h2,h⟩
theorem Valid.maybe {l:Nat} {f x:AV} {h h':Ob} {o:Out} (hx:x=.pv (.bl [])∨∃ sz,x=.pv (.l sz [])) (pre post:List AV) (h0:Valid P l f (pre++.es 0::post) h o h') (h1:Valid P l f (pre++.es 1::post) h o h'):Valid P l f (pre++x::post) h o h':=by
  intro γ G w vf vas H hvf hva
  rcases RepL_maybe hx pre post vas hva with h | h
  · exact h0 γ G w vf vas H hvf h
  · exact h1 γ G w vf vas H hvf h
end g
def vb (b:Bool):AV:=.pv (.b b)
def vi (n:Int):AV:=.pv (.i .i64 n)
def vs (x:List UInt8):AV:=.pv (.s x)
def S5 (lvl n:Nat) (keep:List Nat) (sl:Sl) (ob:Ob):St:=⟨lvl,n,keep,sl,ob,false,[]⟩
def S7 (lvl n:Nat) (keep:List Nat) (sl:Sl) (ob:Ob) (rnd:Bool) (dfs:List Nat):St:=⟨lvl,n,keep,sl,ob,rnd,dfs⟩
def EB (b c:Bool):Prop:=AV.pv (.b b)=AV.pv (.b c)
def EW (n:Int):Prop:=AV.pv (.i .i64 (IntKind.i64.wrap n))=AV.pv (.i .i64 n)
def EG (x:PV) (i:Int) (y:PV):Prop:=0≤i∧x.getI i.toNat=some y
abbrev Vd (P:Program) (l:Nat) (f:AV) (args:List AV) (h:Ob) (r:AV) (h':Ob):Prop:=Valid P l f args h (.ret r) h'
theorem Vd.frame (T : List Nat) {P : Program} {l : Nat} {f : AV} {args : List AV} {h h0 h1 h2 : Ob} {r : AV} (hv : Vd P l f args h0 r h1) (e0 : keepOnly T h = h0)
    (hc:closedB (f.names++AV.namesL args) h0=true) (hn:(dom h1).all (fun n=>has T n||!has (dom h) n)=true) (e1:merge T h1 h=h2):Vd P l f args h r h2:=by
  subst e0; subst e1
  exact Valid.frame T hv hc hn
theorem Ac {p:Prop} {ps:List Prop} (h:p) (hs:All ps):All (p::ps):=All.cons h hs
theorem An:All []:=trivial
def Step (f:Orc→St→CR) (σ:St) (e:Ex) (σ':St):Prop:=∃ O ps,f O σ=some ((e,σ'),ps)∧All ps
theorem Step.next {f:Orc→St→CR} {σ σ₁ σ':St} {e:Ex} (h:Step f σ .normal σ₁) (hl:LoopP f σ₁ e σ'):LoopP f σ e σ':=by
  obtain ⟨O,ps,h,hp⟩:=h
  exact LoopP.next h hp hl
theorem Step.exit {f:Orc→St→CR} {σ σ':St} {i:Nat} (h:Step f σ (.exit i) σ'):LoopP f σ (.exit i) σ':=by
  obtain ⟨O,ps,h,hp⟩:=h
  exact LoopP.exit h hp
theorem Step.ret {f:Orc→St→CR} {σ σ':St} (h:Step f σ .ret σ'):LoopP f σ .ret σ':=by
  obtain ⟨O,ps,h,hp⟩:=h
  exact LoopP.ret h hp
def capOK (n b:Nat):Prop:=n * b≤140737488355328
instance (n b:Nat):Decidable (capOK n b):=by unfold capOK; infer_instance
def lenOK (n:Nat):Prop:=n≤140737488355328
instance (n:Nat):Decidable (lenOK n):=by unfold lenOK; infer_instance
def strOK (n:Nat):Prop:=n≤9223372036854775807
instance (n:Nat):Decidable (strOK n):=by unfold strOK; infer_instance
def optcase {α β:Type} (x:Option α) (a:Option β) (f:α→Option β):Option β:=match x with
  | none=>a
  | some y=>f y
theorem optcase_some {α β:Type} {x:Option α} {a:Option β} {f:α→Option β} {z:β} (h:optcase x a f=some z):(x=none∧a=some z)∨∃ y,x=some y∧f y=some z:=by
  cases x with
  | none=>exact .inl ⟨rfl,h⟩
  | some y=>exact .inr ⟨y,rfl,h⟩
theorem getI_okN {α:Type} {xs:List α} {i:Int} {y:α} (h:getI xs i=some y) (sz:Nat) (f:α→PV):0≤(((i.toNat:Nat):Int):Int)∧(encL sz f xs).getI ((((i.toNat:Nat):Int):Int)).toNat=some (f y):=by
  have:=getI_ok h sz f
  exact ⟨Int.natCast_nonneg _,by rw [Int.toNat_natCast]; exact this.2⟩
theorem getI_blN {xs:List UInt8} {i:Int} {y:UInt8} (h:getI xs i=some y):0≤(((i.toNat:Nat):Int):Int)∧(PV.bl xs).getI ((((i.toNat:Nat):Int):Int)).toNat=some (u8 y):=by
  have:=getI_bl h
  exact ⟨Int.natCast_nonneg _,by rw [Int.toNat_natCast]; exact this.2⟩
theorem map_ne {α β:Type} {f:α→β} {xs:List α} (h:xs≠[]):xs.map f≠[]:=by simpa using h
theorem idx_below {i:Int} {n:Nat} (h:0≤i∧i < (n:Int)):i.toNat < n:=by omega
theorem bounds_ok {α:Type} {sz:Nat} {f:α→PV} {xs:List α} {l h:Int} (hh:0≤l∧l≤h∧h≤((xs.length:Nat):Int)):0≤l∧l≤h∧h≤(((encL sz f xs).len:Nat):Int):=by rw [len_ok]; exact hh
theorem bounds_ok2 {α : Type} {sz : Nat} {f : α → PV} {xs : List α} {l : Int} (hh : 0 ≤ l ∧ l ≤ ((xs.length : Nat) : Int) ∧ ((xs.length : Nat) : Int) ≤ ((xs.length : Nat) : Int)) :
    0≤l∧l≤(((encL sz f xs).len:Nat):Int)∧(((encL sz f xs).len:Nat):Int)≤(((encL sz f xs).len:Nat):Int):=by rw [len_ok]; exact hh
theorem slice3_ok {α:Type} {sz:Nat} {f:α→PV} {xs:List α} {l h m:Int} (hb:0≤l∧l≤h∧h≤((xs.length:Nat):Int)) (hm:h≤m∧m≤((xs.length:Nat):Int)):((h.toNat:Nat):Int)≤m∧m≤(((encL sz f xs).len:Nat):Int):=by
  rw [len_ok]; omega
theorem slice3_bl {xs:List UInt8} {l h m:Int} (hb:0≤l∧l≤h∧h≤((xs.length:Nat):Int)) (hm:h≤m∧m≤((xs.length:Nat):Int)):((h.toNat:Nat):Int)≤m∧m≤(((PV.bl xs).len:Nat):Int):=by
  simp only [PV.len]; omega
theorem nv_sub2 {α:Type} (sz:Nat) (f:α→PV) (xs:List α) (l:Nat):AV.pv ((encL sz f xs).sub l (((encL sz f xs).len:Nat):Int).toNat)=AV.pv (encL sz f (xs.drop l)):=by
  rw [nv_sub,len_ok,Int.toNat_natCast,List.take_length]
theorem len_le {α:Type} {sz b:Nat} {f:α→PV} {xs:List α} (h:xs.length * b≤140737488355328):(encL sz f xs).len * b≤140737488355328:=by rw [len_ok]; exact h
theorem len_le2 {α:Type} {sz b:Nat} {f:α→PV} {xs ys:List α} (h:(xs++ys).length * b≤140737488355328):(PV.l sz (xs.map f++ys.map f)).len * b≤140737488355328:=by
  simp only [PV.len,← List.map_append,List.length_map]; exact h
theorem len_ne {α:Type} {sz:Nat} {f:α→PV} {xs:List α} (h:xs.isEmpty=false):(encL sz f xs).len≠0:=by
  rw [len_ok]; cases xs<;>simp at h ⊢
theorem len_ne_bl {xs:List UInt8} (h:xs.isEmpty=false):(PV.bl xs).len≠0:=by
  cases xs<;>simp [PV.len] at h ⊢
theorem len_e {α:Type} {sz:Nat} {f:α→PV} {xs:List α} (h:xs.isEmpty=true):(encL sz f xs).len=0:=by
  rw [len_ok]; cases xs<;>simp at h ⊢
theorem len_e_bl {xs:List UInt8} (h:xs.isEmpty=true):(PV.bl xs).len=0:=by
  cases xs<;>simp [PV.len] at h ⊢
theorem nv_len1 {α:Type} (l:Nat) (f:α→PV) (xs:List α):AV.v l (xs.map f).length=AV.v l xs.length:=by rw [List.length_map]
theorem ob_rep {α:Type} (sz:Nat) (f:α→PV) (k:Nat) (z:α):AObj.vec false sz (.l sz (List.replicate k (f z)))=AObj.vec false sz (encL sz f (List.replicate k z)):=by
  simp only [encL,List.map_replicate]
def encM {κ ν:Type} (fk:κ→PV) (fv:ν→AV) (es:List (κ×ν×Nat)):Ents:=es.map fun e=>(fk e.1,fv e.2.1,e.2.2)
section maps
variable {κ ν:Type} [DecidableEq κ] {fk:κ→PV} {fv:ν→AV}
def findM (k:κ):List (κ×ν×Nat)→Option (ν×Nat)
  | []=>none
  | e::r=>if k=e.1 then some e.2 else findM k r
def putM (k:κ) (x:ν) (c:Nat):List (κ×ν×Nat)→Nat×List (κ×ν×Nat)
  | []=>(c + 1,[(k,x,c)])
  | e::r=>if k=e.1 then (c,(k,x,e.2.2)::r) else ((putM k x c r).1,e::(putM k x c r).2)
def delM (k:κ):List (κ×ν×Nat)→List (κ×ν×Nat)
  | []=>[]
  | e::r=>if k=e.1 then r else e::delM k r
def atM (born:Int) (x:ν):List (κ×ν×Nat)→Option (List (κ×ν×Nat))
  | []=>none
  | e::r=>if (e.2.2:Int)=born then some ((e.1,x,e.2.2)::r) else (atM born x r).map (e::·)
def KeyOK (fk:κ→PV):Prop:=∀ a b,keyEq (fk a) (fk b)=some (decide (a=b))
theorem findM_ok (hk:KeyOK fk) (k:κ):∀ es:List (κ×ν×Nat),mapFind (fk k) (encM fk fv es)=some ((findM k es).map fun e=>(fv e.1,e.2))
  | []=>rfl
  | e::r=>by
    have ih:=findM_ok hk k r
    simp only [encM] at ih
    simp only [encM,List.map_cons,mapFind,hk k e.1,findM]
    by_cases h:k=e.1
    · simp [h]
    · simp only [h,decide_false,if_false]; exact ih
theorem findM_none (hk:KeyOK fk) {k:κ} {es:List (κ×ν×Nat)} (h:findM k es=none):mapFind (fk k) (encM fk fv es)=some none:=by rw [findM_ok hk,h]; rfl
theorem findM_some (hk:KeyOK fk) {k:κ} {es:List (κ×ν×Nat)} {e:ν×Nat} (h:findM k es=some e):mapFind (fk k) (encM fk fv es)=some (some (fv e.1,e.2)):=by rw [findM_ok hk,h]; rfl
theorem putM_ok (hk:KeyOK fk) (k:κ) (x:ν) (c:Nat):∀ es:List (κ×ν×Nat),mapPut (fk k) (fv x) c (encM fk fv es)=some ((putM k x c es).1,encM fk fv (putM k x c es).2)
  | []=>rfl
  | e::r=>by
    have ih:=putM_ok hk k x c r
    simp only [encM] at ih
    simp only [encM,List.map_cons,mapPut,hk k e.1,putM]
    by_cases h:k=e.1
    · simp [h]
    · simp only [h,decide_false,if_false,ih]; rfl
theorem delM_ok (hk:KeyOK fk) (k:κ):∀ es:List (κ×ν×Nat),mapDel (fk k) (encM fk fv es)=some (encM fk fv (delM k es))
  | []=>rfl
  | e::r=>by
    have ih:=delM_ok hk k r
    simp only [encM] at ih
    simp only [encM,List.map_cons,mapDel,hk k e.1,delM]
    by_cases h:k=e.1
    · simp [h]
    · simp only [h,decide_false,if_false,ih]; rfl
omit [DecidableEq κ] in
theorem atM_ok {born:Int} {x:ν}:∀ {es es':List (κ×ν×Nat)},atM born x es=some es'→mapAt born (fv x) (encM fk fv es)=some (encM fk fv es')
  | [],_,h=>by simp [atM] at h
  | e::r,es',h=>by
    simp only [atM] at h
    simp only [encM,List.map_cons,mapAt]
    by_cases hb:(e.2.2:Int)=born
    · simp only [hb,if_true,Option.some.injEq] at h
      subst h
      simp only [hb,decide_true,List.map_cons]
    · simp only [hb,if_false] at h
      simp only [hb,decide_false]
      cases hr:atM born x r with
      | none=>simp [hr] at h
      | some t=>
        simp only [hr,Option.map_some,Option.some.injEq] at h
        subst h
        have:=atM_ok hr
        simp only [encM] at this
        simp only [this,List.map_cons]
omit [DecidableEq κ] in
theorem nv_lenM (fk:κ→PV) (fv:ν→AV) (es:List (κ×ν×Nat)):AV.pv (.i .i64 ((encM fk fv es).length:Nat))=AV.pv (.i .i64 (es.length:Nat)):=by simp only [encM,List.length_map]
end maps
theorem key_i64:KeyOK (PV.i .i64):=fun _ _=>rfl
theorem key_u8:KeyOK (PV.i .u8):=fun _ _=>rfl
theorem key_s:KeyOK PV.s:=fun _ _=>rfl
theorem key_ba (n:Nat):KeyOK (PV.ba n):=fun a b=>by
  simp only [keyEq,PV.alike,Nat.beq_refl,PV.eqb]
  congr 1
  exact decide_eq_decide.2 Vector.toList_inj
end Go.Rx
end
noncomputable section
namespace Go.Rx
inductive Ty where
  | b | i (k:IntKind) | s | bl | ba (n:Nat) | wa (n:Nat) | sl (sz:Nat) (t:Ty) | ag (ts:List Ty) | nat
  deriving Inhabited
def consT (A:Type) (ts:List Ty) (B:Type):Type:=match ts with
  | []=>A
  | _::_=>A×B
mutual
def El:Ty→Type
  | .b=>Bool
  | .i _=>Int
  | .s=>List UInt8
  | .bl=>List UInt8
  | .ba n=>Vector UInt8 n
  | .wa n=>Vector UInt32 n
  | .sl _ t=>List (El t)
  | .ag ts=>Els ts
  | .nat=>Nat
def Els:List Ty→Type
  | []=>Unit
  | t::ts=>consT (El t) ts (Els ts)
end
def hd {t:Ty}:(ts:List Ty)→Els (t::ts)→El t
  | [],x=>x
  | _::_,x=>x.1
def tl {t:Ty}:(ts:List Ty)→Els (t::ts)→Els ts
  | [],_=>()
  | _::_,x=>x.2
def mkE {t:Ty}:(ts:List Ty)→El t→Els ts→Els (t::ts)
  | [],x,_=>x
  | _::_,x,y=>(x,y)
theorem hd_mk {t:Ty} (ts:List Ty) (x:El t) (y:Els ts):hd ts (mkE ts x y)=x:=by cases ts<;>rfl
theorem tl_mk {t:Ty} (ts:List Ty) (x:El t) (y:Els ts):tl ts (mkE ts x y)=y:=by cases ts<;>rfl
mutual
def toPV:(t:Ty)→El t→PV
  | .b,x=>.b x
  | .i k,x=>.i k x
  | .s,x=>.s x
  | .bl,x=>.bl x
  | .ba n,x=>.ba n x
  | .wa n,x=>.wa n x
  | .sl sz t,x=>.l sz (List.map (toPV t) x)
  | .ag ts,x=>.ag (toPVs ts x)
  | .nat,_=>.ag []
def toPVs:(ts:List Ty)→Els ts→List PV
  | [],_=>[]
  | t::ts,x=>toPV t (hd ts x)::toPVs ts (tl ts x)
end
def kbeq:IntKind→IntKind→Bool
  | .i8,.i8 | .i16,.i16 | .i32,.i32 | .i64,.i64 | .u8,.u8 | .u16,.u16 | .u32,.u32 | .u64,.u64=>true
  | _,_=>false
theorem kbeq_eq {a b:IntKind} (h:kbeq a b=true):a=b:=by cases a<;>cases b<;>first | rfl | (simp [kbeq] at h)
mutual
def tbeq:Ty→Ty→Bool
  | .b,.b=>true
  | .i k,.i j=>kbeq k j
  | .s,.s=>true
  | .bl,.bl=>true
  | .ba n,.ba m=>Nat.beq n m
  | .wa n,.wa m=>Nat.beq n m
  | .sl a t,.sl b u=>Nat.beq a b&&tbeq t u
  | .ag ts,.ag us=>tbeqs ts us
  | .nat,.nat=>true
  | _,_=>false
def tbeqs:List Ty→List Ty→Bool
  | [],[]=>true
  | t::ts,u::us=>tbeq t u&&tbeqs ts us
  | _,_=>false
end
mutual
theorem tbeq_eq:∀ {t u:Ty},tbeq t u=true→t=u
  | .b,u,h=>by cases u<;>simp [tbeq] at h ⊢
  | .i k,u,h=>by cases u<;>simp [tbeq] at h ⊢; exact kbeq_eq h
  | .s,u,h=>by cases u<;>simp [tbeq] at h ⊢
  | .bl,u,h=>by cases u<;>simp [tbeq] at h ⊢
  | .ba n,u,h=>by cases u<;>simp [tbeq] at h ⊢; exact h
  | .wa n,u,h=>by cases u<;>simp [tbeq] at h ⊢; exact h
  | .sl a t,u,h=>by cases u<;>simp [tbeq] at h ⊢; exact ⟨h.1,tbeq_eq h.2⟩
  | .ag ts,u,h=>by cases u<;>simp [tbeq] at h ⊢; exact tbeqs_eq h
  | .nat,u,h=>by cases u<;>simp [tbeq] at h ⊢
theorem tbeqs_eq:∀ {ts us:List Ty},tbeqs ts us=true→ts=us
  | [],us,h=>by cases us<;>simp [tbeqs] at h ⊢
  | t::ts,us,h=>by
    cases us with
    | nil=>simp [tbeqs] at h
    | cons u us=>
      simp only [tbeqs,Bool.and_eq_true] at h
      rw [tbeq_eq h.1,tbeqs_eq h.2]
end
def cast? (t u:Ty) (x:El t):Option (El u):=match h:tbeq t u with
  | true=>some (tbeq_eq h▸x)
  | false=>none
theorem cast?_some {t u:Ty} {x:El t} {y:El u} (h:cast? t u x=some y):t=u∧HEq x y:=by
  unfold cast? at h
  split at h
  · rename_i hb
    have:=tbeq_eq hb
    subst this
    simp only [Option.some.injEq] at h
    exact ⟨rfl,heq_of_eq h⟩
  · simp at h
theorem cast?_pv {t u:Ty} {x:El t} {y:El u} (h:cast? t u x=some y):toPV t x=toPV u y:=by
  obtain ⟨rfl,h⟩:=cast?_some h
  rw [eq_of_heq h]
theorem cast?_self {t:Ty} (x:El t) (hb:tbeq t t=true):cast? t t x=some x:=by
  unfold cast?
  split
  · rfl
  · rename_i h; rw [hb] at h; cases h
def dB (x y:Bool):Bool:=decide (x=y)
def dI (x y:Int):Bool:=decide (x=y)
def dN (x y:Nat):Bool:=decide (x=y)
def dS (x y:List UInt8):Bool:=decide (x=y)
def dW (x y:List UInt32):Bool:=decide (x=y)
theorem dB_iff (x y:Bool):dB x y=true↔x=y:=decide_eq_true_iff
theorem dI_iff (x y:Int):dI x y=true↔x=y:=decide_eq_true_iff
theorem dN_iff (x y:Nat):dN x y=true↔x=y:=decide_eq_true_iff
theorem dS_iff (x y:List UInt8):dS x y=true↔x=y:=decide_eq_true_iff
theorem dW_iff (x y:List UInt32):dW x y=true↔x=y:=decide_eq_true_iff
mutual
def eqE:(t:Ty)→El t→El t→Bool
  | .b,x,y=>dB x y
  | .i _,x,y=>dI x y
  | .s,x,y=>dS x y
  | .bl,x,y=>dS x y
  | .ba _,x,y=>dS (Vector.toList x) (Vector.toList y)
  | .wa _,x,y=>dW (Vector.toList x) (Vector.toList y)
  | .sl _ t,x,y=>eqL (eqE t) x y
  | .ag ts,x,y=>eqEs ts x y
  | .nat,x,y=>dN x y
def eqEs:(ts:List Ty)→Els ts→Els ts→Bool
  | [],_,_=>true
  | t::ts,x,y=>eqE t (hd ts x) (hd ts y)&&eqEs ts (tl ts x) (tl ts y)
def eqL {α:Type} (f:α→α→Bool):List α→List α→Bool
  | [],[]=>true
  | x::xs,y::ys=>f x y&&eqL f xs ys
  | _,_=>false
end
theorem eqL_iff {α:Type} {f:α→α→Bool} (hf:∀ x y,f x y=true↔x=y):∀ xs ys:List α,eqL f xs ys=true↔xs=ys
  | [],[]=>by simp [eqL]
  | [],_::_=>by simp [eqL]
  | _::_,[]=>by simp [eqL]
  | x::xs,y::ys=>by simp [eqL,hf,eqL_iff hf xs ys]
mutual
theorem eqE_iff:∀ (t:Ty) (x y:El t),eqE t x y=true↔x=y
  | .b,x,y=>by simp only [eqE]; exact dB_iff x y
  | .i _,x,y=>by simp only [eqE]; exact dI_iff x y
  | .s,x,y=>by simp only [eqE]; exact dS_iff x y
  | .bl,x,y=>by simp only [eqE]; exact dS_iff x y
  | .ba _,x,y=>by simp only [eqE]; exact (dS_iff _ _).trans Vector.toList_inj
  | .wa _,x,y=>by simp only [eqE]; exact (dW_iff _ _).trans Vector.toList_inj
  | .sl _ t,x,y=>by simp only [eqE]; exact eqL_iff (eqE_iff t) x y
  | .ag ts,x,y=>by simp only [eqE]; exact eqEs_iff ts x y
  | .nat,x,y=>by simp only [eqE]; exact dN_iff x y
theorem eqEs_iff:∀ (ts:List Ty) (x y:Els ts),eqEs ts x y=true↔x=y
  | [],x,y=>by simp only [eqEs,true_iff]; exact Subsingleton.elim (α:=Unit) x y
  | [t],x,y=>by simp only [eqEs,Bool.and_true]; exact eqE_iff t x y
  | t::u::ts,x,y=>by
    simp only [eqEs,Bool.and_eq_true]
    rw [eqE_iff t]
    have:=eqEs_iff (u::ts) (tl (u::ts) x) (tl (u::ts) y)
    simp only [eqEs,Bool.and_eq_true] at this
    rw [this]
    exact (Prod.ext_iff (x:=x) (y:=y)).symm
end
def decE (t:Ty):DecidableEq (El t):=fun x y=>match h:eqE t x y with
  | true=>isTrue ((eqE_iff t x y).1 h)
  | false=>isFalse fun e=>by rw [(eqE_iff t x y).2 e] at h; cases h
mutual
def eqK:Ty→Bool
  | .b | .i _ | .s | .ba _ | .wa _=>true
  | .ag ts=>eqKs ts
  | _=>false
def eqKs:List Ty→Bool
  | []=>true
  | t::ts=>eqK t&&eqKs ts
end
mutual
theorem eqb_ok:∀ (t:Ty) (x y:El t),eqK t=true→PV.eqb (toPV t x) (toPV t y)=some (eqE t x y)
  | .b,x,y,_=>rfl
  | .i k,x,y,_=>by simp only [toPV,PV.eqb,eqE,decide_true]; rfl
  | .s,x,y,_=>rfl
  | .ba _,x,y,_=>rfl
  | .wa _,x,y,_=>rfl
  | .ag ts,x,y,h=>by simp only [toPV,PV.eqb,eqE]; exact eqbs_ok ts x y h
  | .sl _ _,_,_,h=>by simp [eqK] at h
  | .bl,_,_,h=>by simp [eqK] at h
  | .nat,_,_,h=>by simp [eqK] at h
theorem eqbs_ok:∀ (ts:List Ty) (x y:Els ts),eqKs ts=true→PV.eqbs (toPVs ts x) (toPVs ts y)=some (eqEs ts x y)
  | [],_,_,_=>rfl
  | t::ts,x,y,h=>by
    simp only [eqKs,Bool.and_eq_true] at h
    simp only [toPVs,PV.eqbs,eqEs,eqb_ok t _ _ h.1,eqbs_ok ts _ _ h.2]
end
inductive TV where
  | tv (t:Ty) (x:El t)
  | bc (x:Bool)
  | ic (k:IntKind) (x:Int)
  | ag (xs:List TV)
  | nils
  | v (l n:Nat)
  | p (l:Nat) (path:List Nat) (off:Nat)
  | pa (l:Nat) (path:List Nat) (off k:Nat)
  | pe (l n sz k:Nat) (path:List Nat) (off:Nat)
  | ro (t:Ty) (x:El t)
  | nilp
  | m (l:Nat)
  | nilm
  | fn (f:Fn) (first cap:List TV)
  | nilf
  | iface (t:TypeId) (x:TV)
  | nili
  | tup (xs:List TV)
  | yl (l:Nat)
  | es (k:Nat)
  | undef
  deriving Inhabited
mutual
def TV.er:TV→AV
  | .tv t x=>.pv (toPV t x)
  | .bc x=>.pv (.b x)
  | .ic k x=>.pv (.i k x)
  | .ag xs=>.ag (TV.ers xs)
  | .nils=>.nils
  | .v l n=>.v l n
  | .p l path off=>.p l path off
  | .pa l path off k=>.p l (path++[k]) (off + k)
  | .pe l n sz k path off=>.pe l n (k::path) (k * sz + off)
  | .ro t x=>.ro (toPV t x)
  | .nilp=>.nilp
  | .m l=>.m l
  | .nilm=>.nilm
  | .fn f a b=>.fn f (TV.ers a) (TV.ers b)
  | .nilf=>.nilf
  | .iface t x=>.iface t x.er
  | .nili=>.nili
  | .tup xs=>.tup (TV.ers xs)
  | .yl l=>.yl l
  | .es k=>.es k
  | .undef=>.undef
def TV.ers:List TV→List AV
  | []=>[]
  | x::xs=>x.er::TV.ers xs
end
theorem ers_map:∀ xs:List TV,TV.ers xs=xs.map TV.er
  | []=>rfl
  | x::xs=>by simp [TV.ers,ers_map xs]
class CT where
  ct:Nat→Code×Code
inductive TOb where
  | cell (ro:Bool) (x:TV)
  | vec (fz:Bool) (sz:Nat) (t:Ty) (x:El t)
  | fns (xs:List TV)
  | map (clock:Nat) (kt vt:Ty) (es:List (El kt×El vt×Nat))
  | loop (params:List Tmp) (n:Nat) (slots:List (Nat×TV)) (cid:Nat) (fn:FuncId) (state:LoopState) (pending:Option Code) (d:Nat)
  | dfr (o:Bool)
def er2 (e:Nat×TV):Nat×AV:=(e.1,e.2.er)
def erS (sl:List (Nat×TV)):Sl:=sl.map er2
def erM {kt vt:Ty} (es:List (El kt×El vt×Nat)):Ents:=encM (toPV kt) (fun x=>AV.pv (toPV vt x)) es
variable [CT]
def TOb.er:TOb→AObj
  | .cell ro x=>.cell ro x.er
  | .vec fz sz t x=>.vec fz sz (toPV t x)
  | .fns xs=>.fns (TV.ers xs)
  | .map c kt vt es=>.map c (erM (kt:=kt) (vt:=vt) es)
  | .loop ps n sl c fn st pe d=>.loop ps n (erS sl) (CT.ct c).1 (CT.ct c).2 fn st pe d
  | .dfr o=>.dfr o
abbrev THp:=List (Nat×TOb)
def ero (e:Nat×TOb):Nat×AObj:=(e.1,e.2.er)
def erO (h:THp):Ob:=h.map ero
structure TSt where
  lvl:Nat
  n:Nat
  keep:List Nat
  sl:List (Nat×TV)
  ob:THp
  rnd:Bool:=false
  dfs:List Nat:=[]
  deriving Inhabited
def TSt.er (σ:TSt):St:=⟨σ.lvl,σ.n,σ.keep,erS σ.sl,erO σ.ob,σ.rnd,σ.dfs⟩
section
variable {α β:Type} (f:α→β)
theorem get_map2 (h:List (Nat×α)) (k:Nat):get (h.map fun e=>(e.1,f e.2)) k=(get h k).map f:=by
  induction h with
  | nil=>simp only [List.map_nil,get_nil,Option.map_none]
  | cons e r ih=>
    obtain ⟨a,x⟩:=e
    simp only [List.map_cons,get_nil,get_cons]
    split
    · rfl
    · exact ih
theorem ins_map2 (h:List (Nat×α)) (k:Nat) (x:α):(ins k x h).map (fun e=>(e.1,f e.2))=ins k (f x) (h.map fun e=>(e.1,f e.2)):=by
  induction h with
  | nil=>simp only [List.map_nil,ins_nil,List.map_cons]
  | cons e r ih=>
    obtain ⟨a,y⟩:=e
    simp only [ins_nil,ins_cons,List.map_cons]
    split
    · rfl
    · split
      · rfl
      · simp only [List.map_cons,ih]
theorem keepOnly_map2 (h:List (Nat×α)) (ks:List Nat):keepOnly ks (h.map fun e=>(e.1,f e.2))=(keepOnly ks h).map fun e=>(e.1,f e.2):=by
  rw [keepOnly_eq,keepOnly_eq]
  rw [List.filter_map]
  rfl
theorem dom_map2 (h:List (Nat×α)):dom (h.map fun e=>(e.1,f e.2))=dom h:=by
  unfold dom
  rw [List.map_map]
  rfl
theorem insAll_map2 (l h:List (Nat×α)):(insAll l h).map (fun e=>(e.1,f e.2))=insAll (l.map fun e=>(e.1,f e.2)) (h.map fun e=>(e.1,f e.2)):=by
  induction l with
  | nil=>rfl
  | cons e r ih=>
    obtain ⟨a,x⟩:=e
    simp only [insAll,List.map_cons,ins_map2,ih]
end
theorem getS (sl:List (Nat×TV)) (k:Nat):get (erS sl) k=(get sl k).map TV.er:=get_map2 TV.er sl k
theorem getO (h:THp) (k:Nat):get (erO h) k=(get h k).map TOb.er:=get_map2 TOb.er h k
theorem insS (sl:List (Nat×TV)) (k:Nat) (x:TV):erS (ins k x sl)=ins k x.er (erS sl):=ins_map2 TV.er sl k x
theorem insO (h:THp) (k:Nat) (x:TOb):erO (ins k x h)=ins k x.er (erO h):=ins_map2 TOb.er h k x
theorem keepS (sl:List (Nat×TV)) (ks:List Nat):keepOnly ks (erS sl)=erS (keepOnly ks sl):=keepOnly_map2 TV.er sl ks
theorem keepO (h:THp) (ks:List Nat):keepOnly ks (erO h)=erO (keepOnly ks h):=keepOnly_map2 TOb.er h ks
theorem domO (h:THp):dom (erO h)=dom h:=dom_map2 TOb.er h
def tmerge (T:List Nat) (h ob:THp):THp:=insAll h (ob.filter fun e=>!has T e.1)
theorem mergeO (T:List Nat) (h ob:THp):erO (tmerge T h ob)=merge T (erO h) (erO ob):=by
  unfold tmerge merge
  rw [show erO (insAll h (ob.filter fun e=>!has T e.1))=insAll (erO h) (erO (ob.filter fun e=>!has T e.1)) from insAll_map2 TOb.er _ _]
  congr 1
  unfold erO
  rw [List.filter_map]
  rfl
inductive Tree (α:Type):Type 1 where
  | ret (a:α)
  | no
  | cond (b:Bool) (s t:Tree α)
  | chk (p:Prop) [d:Decidable p] (t:Tree α)
  | bind {β:Type} (o:Option β) (k:β→Tree α)
  | opt {β:Type} (o:Option β) (s:Tree α) (k:β→Tree α)
  | sum {β δ:Type} (x:β⊕δ) (f:β→Tree α) (g:δ→Tree α)
def Tree.Has {α:Type}:Tree α→α→Prop
  | .ret a,z=>a=z
  | .no,_=>False
  | .cond b s t,z=>(b=true∧s.Has z)∨(b=false∧t.Has z)
  | @Tree.chk _ p _ t,z=>p∧t.Has z
  | .bind o k,z=>∃ x,o=some x∧(k x).Has z
  | .opt o s k,z=>(o=none∧s.Has z)∨∃ x,o=some x∧(k x).Has z
  | .sum x f g,z=>(∃ a,x=.inl a∧(f a).Has z)∨∃ b,x=.inr b∧(g b).Has z
def Tree.map {α γ:Type} (g:α→γ):Tree α→Tree γ
  | .ret a=>.ret (g a)
  | .no=>.no
  | .cond b s t=>.cond b (s.map g) (t.map g)
  | @Tree.chk _ p d t=>@Tree.chk _ p d (t.map g)
  | .bind o k=>.bind o fun x=>(k x).map g
  | .opt o s k=>.opt o (s.map g) fun x=>(k x).map g
  | .sum x f h=>.sum x (fun a=>(f a).map g) fun b=>(h b).map g
def Tree.run {α R:Type} (n:α→Option R):Tree α→Option R
  | .ret a=>n a
  | .no=>none
  | .cond b s t=>_root_.cond b (s.run n) (t.run n)
  | @Tree.chk _ p d t=>@Rx.chk _ p d (t.run n)
  | .bind o k=>o.bind fun x=>(k x).run n
  | .opt o s k=>optcase o (s.run n) fun x=>(k x).run n
  | .sum x f g=>match x with
    | .inl a=>(f a).run n
    | .inr b=>(g b).run n
theorem Tree.has_map {α γ:Type} {g:α→γ}:∀ {t:Tree α} {z:α},t.Has z→(t.map g).Has (g z)
  | .ret a,z,h=>by simp only [Tree.Has] at h; subst h; rfl
  | .no,_,h=>h.elim
  | .cond b s t,z,h=>Or.imp (fun h=>⟨h.1,has_map h.2⟩) (fun h=>⟨h.1,has_map h.2⟩) h
  | @Tree.chk _ p d t,z,h=>⟨h.1,has_map h.2⟩
  | .bind o k,z,⟨x,h1,h2⟩=>⟨x,h1,has_map h2⟩
  | .opt o s k,z,h=>Or.imp (fun h=>⟨h.1,has_map h.2⟩) (fun ⟨x,h1,h2⟩=>⟨x,h1,has_map h2⟩) h
  | .sum x f k,z,h=>Or.imp (fun ⟨x,h1,h2⟩=>⟨x,h1,has_map h2⟩) (fun ⟨x,h1,h2⟩=>⟨x,h1,has_map h2⟩) h
theorem Tree.run_has {α R:Type} {n:α→Option R}:∀ {t:Tree α} {z:R},t.run n=some z→∃ a,t.Has a∧n a=some z
  | .ret a,z,h=>⟨a,rfl,h⟩
  | .no,_,h=>by simp [Tree.run] at h
  | .cond b s t,z,h=>by
    simp only [Tree.run] at h
    rcases cond_some h with ⟨hb,h⟩ | ⟨hb,h⟩
    · obtain ⟨a,h1,h2⟩:=run_has h; exact ⟨a,.inl ⟨hb,h1⟩,h2⟩
    · obtain ⟨a,h1,h2⟩:=run_has h; exact ⟨a,.inr ⟨hb,h1⟩,h2⟩
  | @Tree.chk _ p d t,z,h=>by
    simp only [Tree.run] at h
    obtain ⟨hp,h⟩:=chk_some h
    obtain ⟨a,h1,h2⟩:=run_has h; exact ⟨a,⟨hp,h1⟩,h2⟩
  | .bind o k,z,h=>by
    simp only [Tree.run] at h
    obtain ⟨x,hx,h⟩:=bind_some h
    obtain ⟨a,h1,h2⟩:=run_has h; exact ⟨a,⟨x,hx,h1⟩,h2⟩
  | .opt o s k,z,h=>by
    simp only [Tree.run] at h
    rcases optcase_some h with ⟨ho,h⟩ | ⟨x,hx,h⟩
    · obtain ⟨a,h1,h2⟩:=run_has h; exact ⟨a,.inl ⟨ho,h1⟩,h2⟩
    · obtain ⟨a,h1,h2⟩:=run_has h; exact ⟨a,.inr ⟨x,hx,h1⟩,h2⟩
  | .sum x f g,z,h=>by
    cases x with
    | inl b=>obtain ⟨a,h1,h2⟩:=run_has (t:=f b) h; exact ⟨a,.inl ⟨b,rfl,h1⟩,h2⟩
    | inr b=>obtain ⟨a,h1,h2⟩:=run_has (t:=g b) h; exact ⟨a,.inr ⟨b,rfl,h1⟩,h2⟩
structure Rs (γ:Type):Type 1 where
  Y:Type
  o:Option Y
  out:Y→γ
end Go.Rx
end
noncomputable section
namespace Go.Rx
variable {α β γ:Type} [CT]
theorem All.app:∀ {ps qs:List Prop},All ps→All qs→All (ps++qs)
  | [],_,_,h=>h
  | [p],qs,h,k=>All.cons h k
  | p::q::ps,qs,h,k=>All.cons h.1 (All.app (ps:=q::ps) h.2 k)
def OkG (r:R β) (er:γ→β) (κ:γ→Tree α) (z:α):Prop:=∃ x ps,r=some (er x,ps)∧All ps∧(κ x).Has z
abbrev Ok (r:R AV) (κ:TV→Tree α) (z:α):Prop:=OkG r TV.er κ z
theorem OkG.pure {er:γ→β} {κ:γ→Tree α} {z:α} {x:γ} {y:β} (h:(κ x).Has z) (he:y=er x):OkG (pure0 y) er κ z:=⟨x,[],by rw [he]; rfl,trivial,h⟩
theorem OkG.owe {er:γ→β} {κ:γ→Tree α} {z:α} {x:γ} {y:β} {p:Prop} (h:(κ x).Has z) (hp:p) (he:y=er x):OkG (owe p y) er κ z:=⟨x,[p],by rw [he]; rfl,hp,h⟩
theorem OkG.need {er:γ→β} {κ:γ→Tree α} {z:α} {r:R β} {b:Bool} (hb:b=true) (h:OkG r er κ z):OkG (need b r) er κ z:=by subst hb; exact h
theorem OkG.with {δ:Type} {er:γ→β} {z:α} {r:R β} {β':Type} {f:β→R β'} {er':δ→β'} {κ:δ→Tree α} {κ':γ→Tree α} (h:OkG r er κ' z) (hf:∀ x,(κ' x).Has z→OkG (f (er x)) er' κ z):OkG (r.with f) er' κ z:=by
  obtain ⟨x,ps,rfl,hp,h⟩:=h
  obtain ⟨y,qs,he,hq,h⟩:=hf x h
  exact ⟨y,ps++qs,by simp only [R.with,he],hp.app hq,h⟩
def grd (b:Bool) (t:Tree α):Tree α:=match b with
  | true=>t
  | false=>.no
theorem grd_has {b:Bool} {t:Tree α} {z:α} (h:(grd b t).Has z):b=true∧t.Has z:=by
  cases b
  · exact h.elim
  · exact ⟨rfl,h⟩
def tvs:(ts:List Ty)→Els ts→List TV
  | [],_=>[]
  | t::ts,x=>.tv t (hd ts x)::tvs ts (tl ts x)
theorem tvs_er:∀ (ts:List Ty) (x:Els ts),(tvs ts x).map TV.er=(toPVs ts x).map AV.pv
  | [],_=>rfl
  | t::ts,x=>by simp only [tvs,toPVs,List.map_cons,TV.er,tvs_er ts]
def tcomps:TV→Option (List TV)
  | .tv (.ag ts) x=>some (tvs ts x)
  | .ag xs=>some xs
  | _=>none
def TV.isPure:TV→Option ((t:Ty)×El t)
  | .tv t x=>some ⟨t,x⟩
  | .bc x=>some ⟨.b,x⟩
  | .ic k x=>some ⟨.i k,x⟩
  | _=>none
theorem isPure_er {x:TV} {t:Ty} {y:El t} (h:x.isPure=some ⟨t,y⟩):x.er=.pv (toPV t y):=by
  cases x<;>simp only [TV.isPure,Option.some.injEq,reduceCtorEq] at h
  · cases h; rfl
  · cases h; rfl
  · cases h; rfl
def asEls:List TV→Option ((ts:List Ty)×Els ts)
  | []=>some ⟨[],()⟩
  | x::xs=>match x.isPure,asEls xs with
    | some ⟨t,y⟩,some ⟨ts,ys⟩=>some ⟨t::ts,mkE ts y ys⟩
    | _,_=>none
theorem asEls_some:∀ {xs:List TV} {ts:List Ty} {ys:Els ts},asEls xs=some ⟨ts,ys⟩→AV.asPVs (TV.ers xs)=some (toPVs ts ys)
  | [],ts,ys,h=>by
    simp only [asEls,Option.some.injEq] at h
    cases h; rfl
  | x::xs,ts,ys,h=>by
    simp only [asEls] at h
    split at h
    · rename_i t y ts' ys' h1 h2
      simp only [Option.some.injEq] at h
      cases h
      simp only [TV.ers,isPure_er h1,AV.asPVs,asEls_some h2,Option.map_some,toPVs,hd_mk,tl_mk]
    · simp at h
theorem asEls_none:∀ {xs:List TV},asEls xs=none→AV.asPVs (TV.ers xs)=none
  | [],h=>by simp [asEls] at h
  | x::xs,h=>by
    simp only [asEls] at h
    split at h
    · simp at h
    · rename_i hno
      cases x<;>simp only [TV.ers,TV.er,AV.asPVs]
      all_goals
        cases hx:asEls xs with
        | none=>rw [asEls_none hx]; rfl
        | some r=>obtain ⟨ts,ys⟩:=r; exact (hno _ _ _ _ rfl hx).elim
def TV.mk (xs:List TV):TV:=match asEls xs with
  | some ⟨ts,x⟩=>.tv (.ag ts) x
  | none=>.ag xs
theorem mk_er (xs:List TV):(TV.mk xs).er=AV.mk (TV.ers xs):=by
  unfold TV.mk AV.mk
  cases h:asEls xs with
  | none=>rw [asEls_none h]; rfl
  | some r=>obtain ⟨ts,x⟩:=r; rw [asEls_some h]; rfl
def tat:List Nat→TV→Option TV
  | [],x=>some x
  | k::r,x=>match tcomps x with
    | some xs=>match xs[k]? with
      | some y=>tat r y
      | none=>none
    | none=>match r,x with
      | [],.tv (.ba _) v=>some (.tv (.i .u8) (((Vector.toList v).getD k 0).toNat:Int))
      | [],.tv (.wa _) v=>some (.tv (.i .u32) (((Vector.toList v).getD k 0).toNat:Int))
      | _,_=>none
theorem comps_er {x:TV} {xs:List TV} (h:tcomps x=some xs):(∃ ys,x.er=.pv (.ag ys)∧ys.map AV.pv=xs.map TV.er)∨x.er=.ag (TV.ers xs):=by
  cases x<;>simp only [tcomps,reduceCtorEq] at h
  · rename_i t y
    cases t<;>simp only [Option.some.injEq,reduceCtorEq] at h
    subst h
    exact .inl ⟨_,rfl,(tvs_er _ _).symm⟩
  · cases h; exact .inr rfl
theorem at_er:∀ {p:List Nat} {x y:TV},tat p x=some y→AV.at p x.er=some y.er
  | [],x,y,h=>by
    simp only [tat,Option.some.injEq] at h
    subst h
    rfl
  | k::r,x,y,h=>by
    simp only [tat] at h
    split at h
    · rename_i xs hc
      split at h
      · rename_i w hw
        have ih:=at_er h
        rcases comps_er hc with ⟨ys,he,hy⟩ | he
        · have h1:(ys.map AV.pv)[k]?=some w.er:=by rw [hy,List.getElem?_map,hw]; rfl
          rw [List.getElem?_map] at h1
          cases hk:ys[k]? with
          | none=>rw [hk] at h1; simp at h1
          | some u=>
            rw [hk] at h1
            simp only [Option.map_some,Option.some.injEq] at h1
            rw [he]
            simp only [AV.at,hk,h1]
            exact ih
        · rw [he]
          have h1:(TV.ers xs)[k]?=some w.er:=by rw [ers_map,List.getElem?_map,hw]; rfl
          simp only [AV.at,h1]
          exact ih
      · simp at h
    · split at h<;>first | (simp at h; done) | skip
      all_goals
        simp only [Option.some.injEq] at h
        subst h
        rfl
def tint:TV→Option (IntKind×Int)
  | .tv (.i k) n=>some (k,n)
  | .ic k n=>some (k,n)
  | _=>none
theorem tint_er {x:TV} {k:IntKind} {n:Int} (h:tint x=some (k,n)):x.er=.pv (.i k n):=by
  cases x<;>simp only [tint,reduceCtorEq] at h
  · rename_i t y
    cases t<;>simp only [Option.some.injEq,reduceCtorEq] at h
    cases h; rfl
  · cases h; rfl
def isC:TV→Bool
  | .ic _ _=>true
  | _=>false
def tstr:TV→Option (List UInt8)
  | .tv .s x=>some x
  | _=>none
theorem tstr_er {x:TV} {s:List UInt8} (h:tstr x=some s):x.er=.pv (.s s):=by
  cases x<;>simp only [tstr,reduceCtorEq] at h
  rename_i t y
  cases t<;>simp only [Option.some.injEq,reduceCtorEq] at h
  cases h; rfl
def tboo:TV→Option Bool
  | .tv .b x=>some x
  | .bc x=>some x
  | _=>none
theorem tboo_er {x:TV} {s:Bool} (h:tboo x=some s):x.er=.pv (.b s):=by
  cases x<;>simp only [tboo,reduceCtorEq] at h
  · rename_i t y
    cases t<;>simp only [Option.some.injEq,reduceCtorEq] at h
    cases h; rfl
  · cases h; rfl
def wrapK (k:IntKind) (e:Int) (κ:TV→Tree α):Tree α:=match k with
  | .i64=>.chk (in64 e) (κ (.tv (.i .i64) e))
  | k=>κ (.tv (.i k) (k.wrap e))
theorem wrapK_ok {k:IntKind} {e:Int} {κ:TV→Tree α} {z:α} (h:(wrapK k e κ).Has z):∃ tv:TV,tv.er=.pv (.i k (k.wrap e))∧(κ tv).Has z:=by
  unfold wrapK at h
  split at h
  · exact ⟨_,by rw [wrap64 h.1]; rfl,h.2⟩
  · exact ⟨_,rfl,h⟩
def foldK (c:Bool) (k:IntKind) (e:Int) (κ:TV→Tree α):Tree α:=match c,k with
  | true,.i64=>match decide (in64 e) with
    | true=>κ (.ic .i64 e)
    | false=>wrapK .i64 e κ
  | _,k=>wrapK k e κ
theorem foldK_ok {c:Bool} {k:IntKind} {e:Int} {κ:TV→Tree α} {z:α} (h:(foldK c k e κ).Has z):∃ tv:TV,tv.er=.pv (.i k (k.wrap e))∧(κ tv).Has z:=by
  unfold foldK at h
  split at h
  · split at h
    · rename_i hd
      exact ⟨_,by rw [wrap64 (of_decide_eq_true hd)]; rfl,h⟩
    · exact wrapK_ok h
  · exact wrapK_ok h
def boolK (c b:Bool) (κ:TV→Tree α):Tree α:=match c with
  | true=>κ (.bc b)
  | false=>κ (.tv .b b)
theorem boolK_ok {c b:Bool} {κ:TV→Tree α} {z:α} (h:(boolK c b κ).Has z):∃ tv:TV,tv.er=.pv (.b b)∧(κ tv).Has z:=by
  cases c<;>exact ⟨_,rfl,h⟩
def tintBin (c:Bool) (op:BinOp) (k:IntKind) (a b:Int) (κ:TV→Tree α):Tree α:=match op with
  | .add=>foldK c k (a + b) κ
  | .sub=>foldK c k (a - b) κ
  | .mul=>foldK c k (a * b) κ
  | .quo=>.chk (b≠0) (wrapK k (a.tdiv b) κ)
  | .rem=>.chk (b≠0) (κ (.tv (.i k) (a.tmod b)))
  | .and=>κ (.tv (.i k) (k.wrap (BitVec.ofInt k.bits a &&& BitVec.ofInt k.bits b).toNat))
  | .or=>κ (.tv (.i k) (k.wrap (BitVec.ofInt k.bits a ||| BitVec.ofInt k.bits b).toNat))
  | .xor=>κ (.tv (.i k) (k.wrap (BitVec.ofInt k.bits a ^^^ BitVec.ofInt k.bits b).toNat))
  | .andNot=>κ (.tv (.i k) (k.wrap (BitVec.ofInt k.bits a &&& ~~~BitVec.ofInt k.bits b).toNat))
  | .eql=>boolK c (decide (a=b)) κ
  | .neq=>boolK c (!decide (a=b)) κ
  | .lss=>boolK c (decide (a < b)) κ
  | .leq=>boolK c (decide (a≤b)) κ
  | .gtr=>boolK c (decide (b < a)) κ
  | .geq=>boolK c (decide (b≤a)) κ
  | _=>.no
theorem OkP_pure {r:R PV} {κ:TV→Tree α} {z:α} {y:PV} {ps:List Prop} (hr:r=some (y,ps)) (hp:All ps) (h:∃ tv:TV,tv.er=.pv y∧(κ tv).Has z):Ok (rPV r) κ z:=by
  obtain ⟨tv,he,h⟩:=h
  exact ⟨tv,ps,by rw [hr,he]; rfl,hp,h⟩
theorem tintBin_ok {c:Bool} {op:BinOp} {k:IntKind} {a b:Int} {κ:TV→Tree α} {z:α} (h:(tintBin c op k a b κ).Has z):Ok (rPV (intBin op k a b)) κ z:=by
  cases op<;>simp only [tintBin] at h<;>first
    | exact OkP_pure rfl trivial (foldK_ok h)
    | exact OkP_pure rfl trivial (boolK_ok h)
    | exact OkP_pure rfl h.1 (wrapK_ok h.2)
    | exact OkP_pure rfl h.1 ⟨_,rfl,h.2⟩
    | exact OkP_pure rfl trivial ⟨_,rfl,h⟩
    | exact h.elim
def tshift (op:BinOp) (k:IntKind) (a b:Int) (κ:TV→Tree α):Tree α:=match op with
  | .shl=>.chk (0≤b) (κ (.tv (.i k) (k.wrap (a * 2 ^ min b.toNat k.bits))))
  | .shr=>.chk (0≤b) (κ (.tv (.i k) (a.fdiv (2 ^ min b.toNat k.bits))))
  | _=>.no
theorem tshift_ok {op:BinOp} {k:IntKind} {a b:Int} {κ:TV→Tree α} {z:α} (h:(tshift op k a b κ).Has z):Ok (rPV (shiftBin op k a b)) κ z:=by
  cases op<;>simp only [tshift] at h<;>first
    | exact OkP_pure rfl h.1 ⟨_,rfl,h.2⟩
    | exact h.elim
def tstrBin (op:BinOp) (a b:List UInt8) (κ:TV→Tree α):Tree α:=match op with
  | .add=>.chk (strOK (a.length + b.length)) (κ (.tv .s (a++b)))
  | .eql=>κ (.tv .b (decide (a=b)))
  | .neq=>κ (.tv .b (!decide (a=b)))
  | .lss=>κ (.tv .b (Op.bytesLess a b))
  | .leq=>κ (.tv .b (Op.bytesLess a b||decide (a=b)))
  | .gtr=>κ (.tv .b (!(Op.bytesLess a b||decide (a=b))))
  | .geq=>κ (.tv .b (!Op.bytesLess a b))
  | _=>.no
theorem tstrBin_ok {op:BinOp} {a b:List UInt8} {κ:TV→Tree α} {z:α} (h:(tstrBin op a b κ).Has z):Ok (rPV (strBin op a b)) κ z:=by
  cases op<;>simp only [tstrBin] at h<;>first
    | exact OkP_pure rfl trivial ⟨_,rfl,h⟩
    | exact OkP_pure rfl h.1 ⟨_,rfl,h.2⟩
    | exact h.elim
def teqA (P:Program) (t:TypeId) (x y:TV) (κ:TV→Tree α):Tree α:=match kindOf P t,x,y with
  | some (.slice _),.tv (.sl _ _) xs,.nils=>.chk (List.isEmpty xs=false) (κ (.bc false))
  | some (.slice _),.tv .bl xs,.nils=>.chk (List.isEmpty xs=false) (κ (.bc false))
  | some (.slice _),.v _ n,.nils=>.chk (n≠0) (κ (.bc false))
  | some (.slice _),.nils,.nils=>κ (.bc true)
  | some (.ptr _),.nilp,.nilp=>κ (.bc true)
  | some (.ptr _),.p _ _ _,.nilp=>κ (.bc false)
  | some (.ptr _),.pa _ _ _ _,.nilp=>κ (.bc false)
  | some (.ptr _),.pe _ _ _ _ _ _,.nilp=>κ (.bc false)
  | some (.ptr _),.ro _ _,.nilp=>κ (.bc false)
  | some .func,.nilf,.nilf=>κ (.bc true)
  | some .func,.fn _ _ _,.nilf=>κ (.bc false)
  | some (.map _ _),.nilm,.nilm=>κ (.bc true)
  | some (.map _ _),.m _,.nilm=>κ (.bc false)
  | some .iface,.iface _ _,.nili=>κ (.bc false)
  | some (.slice _),.es k,.nils=>κ (.bc (Nat.beq k 1))
  | _,x,y=>match x.isPure,y.isPure with
    | some ⟨t1,x1⟩,some ⟨t2,y2⟩=>match cast? t2 t1 y2 with
      | some y1=>grd (fitT P t x.er&&fitT P t y.er&&eqT P 30 t&&!(P.eqGuardType P.depth t)&&eqK t1) (κ (.tv .b (eqE t1 x1 y1)))
      | none=>.no
    | _,_=>.no
theorem ne_of_isEmpty {α:Type} {xs:List α} (h:xs.isEmpty=false):xs≠[]:=by intro e; subst e; simp at h
theorem eqA_pv {P:Program} {t:TypeId} {x y:PV} {b:Bool} (hb:(fitT P t (.pv x)&&fitT P t (.pv y)&&eqT P 30 t&&!(P.eqGuardType P.depth t))=true) (he:PV.eqb x y=some b):eqA P t (.pv x) (.pv y)=some (b,[]):=by
  cases hk:kindOf P t with
  | none=>simp only [eqA,hk,hb,he]; rfl
  | some k=>cases k<;>(simp only [eqA,hk,hb,he]; rfl)
theorem teq_fin {P:Program} {t:TypeId} {x y:AV} {tv:TV} {b:Bool} {κ:TV→Tree α} {z:α} (hb:tboo tv=some b) (he:eqA P t x y=some (b,[])) (h:(κ tv).Has z):∃ tv b ps,tboo tv=some b∧eqA P t x y=some (b,ps)∧All ps∧(κ tv).Has z:=⟨tv,b,[],hb,he,trivial,h⟩
theorem teqA_ok {P:Program} {t:TypeId} {x y:TV} {κ:TV→Tree α} {z:α} (h:(teqA P t x y κ).Has z):∃ tv b ps,tboo tv=some b∧eqA P t x.er y.er=some (b,ps)∧All ps∧(κ tv).Has z:=by
  unfold teqA at h
  split at h
  case h_16=>
    split at h
    · rename_i h1 h2
      split at h
      · rename_i hc
        obtain ⟨hb,h⟩:=grd_has h
        simp only [Bool.and_eq_true] at hb
        have e1:=isPure_er h1
        have e2:=isPure_er h2
        rw [cast?_pv hc] at e2
        refine teq_fin rfl ?_ h
        rw [e1,e2] at hb ⊢
        exact eqA_pv (by simp only [Bool.and_eq_true]; exact hb.1) (eqb_ok _ _ _ hb.2)
      · exact h.elim
    · exact h.elim
  case h_1=>
    rename_i hk
    exact ⟨_,false,[_],rfl,by simp only [TV.er,toPV,eqA,hk]; rfl,map_ne (ne_of_isEmpty h.1),h.2⟩
  case h_2=>
    rename_i hk
    exact ⟨_,false,[_],rfl,by simp only [TV.er,toPV,eqA,hk]; rfl,ne_of_isEmpty h.1,h.2⟩
  case h_3=>
    rename_i hk
    exact ⟨_,false,[_],rfl,by simp only [TV.er,toPV,eqA,hk]; rfl,h.1,h.2⟩
  all_goals
    rename_i hk
    first
      | exact teq_fin (tv:=.bc false) rfl (by simp only [TV.er,toPV,eqA,hk]; rfl) h
      | exact teq_fin (tv:=.bc true) rfl (by simp only [TV.er,toPV,eqA,hk]; rfl) h
      | exact teq_fin (tv:=.bc (Nat.beq _ 1)) rfl (by simp only [TV.er,toPV,eqA,hk]; rfl) h
def tnot:TV→TV
  | .bc b=>.bc (!b)
  | .tv .b x=>.tv .b (!x)
  | x=>x
theorem tnot_er {x:TV} {b:Bool} (h:tboo x=some b):(tnot x).er=.pv (.b (!b)):=by
  cases x<;>simp only [tboo,reduceCtorEq] at h
  · rename_i t y
    cases t<;>simp only [Option.some.injEq,reduceCtorEq] at h
    cases h; rfl
  · cases h; rfl
def tbin (P:Program) (op:BinOp) (t:TypeId) (x y:TV) (κ:TV→Tree α):Tree α:=match tint x,tint y with
  | some (k,a),some (j,b)=>match isShift op with
    | true=>tshift op k a b κ
    | false=>grd (kbeq k j) (tintBin (isC x&&isC y) op k a b κ)
  | _,_=>match tstr x,tstr y with
    | some a,some b=>tstrBin op a b κ
    | _,_=>match op with
      | .eql=>teqA P t x y κ
      | .neq=>teqA P t x y fun v=>κ (tnot v)
      | _=>.no
theorem eqA_not_int {P : Program} {t : TypeId} {x y : AV} (hx : ∀ k a j b, x = .pv (.i k a) → y = .pv (.i j b) → False) (hs : ∀ a b, x = .pv (.s a) → y = .pv (.s b) → False) (op : BinOp) : binA P op t x y = (match op with
    | .eql=>match eqA P t x y with
      | some (b,ps)=>some (.pv (.b b),ps)
      | none=>none
    | .neq=>match eqA P t x y with
      | some (b,ps)=>some (.pv (.b (!b)),ps)
      | none=>none
    | _=>none):=by
  unfold binA
  split
  · exact (hx _ _ _ _ rfl rfl).elim
  · exact (hs _ _ rfl rfl).elim
  · rfl
theorem tint_none {x:TV} (h:tint x=none):∀ k a,x.er≠.pv (.i k a):=by
  intro k a he
  cases x<;>simp only [TV.er,reduceCtorEq,AV.pv.injEq] at he
  · rename_i t y
    cases t<;>simp only [toPV,reduceCtorEq] at he
    simp [tint] at h
  · simp [tint] at h
theorem tstr_none {x:TV} (h:tstr x=none):∀ a,x.er≠.pv (.s a):=by
  intro a he
  cases x<;>simp only [TV.er,reduceCtorEq,AV.pv.injEq] at he
  · rename_i t y
    cases t<;>simp only [toPV,reduceCtorEq] at he
    simp [tstr] at h
theorem tbin_ok {P:Program} {op:BinOp} {t:TypeId} {x y:TV} {κ:TV→Tree α} {z:α} (h:(tbin P op t x y κ).Has z):Ok (binA P op t x.er y.er) κ z:=by
  unfold tbin at h
  split at h
  · rename_i k a j b h1 h2
    rw [tint_er h1,tint_er h2]
    unfold binA
    simp only
    split at h
    · rename_i hs; simp only [hs]; exact tshift_ok h
    · rename_i hs
      simp only [hs]
      obtain ⟨hk,h⟩:=grd_has h
      exact OkG.need (decide_eq_true (kbeq_eq hk)) (tintBin_ok h)
  · rename_i hno
    split at h
    · rename_i a b h1 h2
      rw [tstr_er h1,tstr_er h2]
      exact tstrBin_ok h
    · rename_i hno2
      rw [eqA_not_int (fun k a j b e1 e2=>by
        cases hx:tint x with
        | none=>exact tint_none hx _ _ e1
        | some p=>cases hy:tint y with
          | none=>exact tint_none hy _ _ e2
          | some q=>exact hno _ _ _ _ hx hy) (fun a b e1 e2=>by
        cases hx:tstr x with
        | none=>exact tstr_none hx _ e1
        | some p=>cases hy:tstr y with
          | none=>exact tstr_none hy _ e2
          | some q=>exact hno2 _ _ hx hy)]
      split at h
      · obtain ⟨tv,b,ps,h1,h2,h3,h4⟩:=teqA_ok h
        simp only [h2]
        exact ⟨tv,ps,by rw [tboo_er h1],h3,h4⟩
      · obtain ⟨tv,b,ps,h1,h2,h3,h4⟩:=teqA_ok h
        simp only [h2]
        exact ⟨tnot tv,ps,by rw [tnot_er h1],h3,h4⟩
      · exact h.elim
end Go.Rx
end
noncomputable section
namespace Go.Rx
variable {α β γ:Type} [CT]
def tun (op:UnOp) (x:TV) (κ:TV→Tree α):Tree α:=match op with
  | .not=>match tboo x with
    | some _=>κ (tnot x)
    | none=>.no
  | .neg=>match tint x with
    | some (k,n)=>foldK (isC x) k (0 - n) κ
    | none=>.no
  | .xor=>match tint x with
    | some (k,n)=>κ (.tv (.i k) (k.wrap (BitVec.ofInt k.bits (if k.signed then -1 else k.max) ^^^ BitVec.ofInt k.bits n).toNat))
    | none=>.no
  | _=>.no
theorem tun_ok {op:UnOp} {x:TV} {κ:TV→Tree α} {z:α} (h:(tun op x κ).Has z):Ok (unA op x.er) κ z:=by
  cases op<;>simp only [tun] at h
  case not=>
    split at h
    · rename_i b hb
      rw [tboo_er hb]
      exact OkG.pure h (tnot_er hb).symm
    · exact h.elim
  case neg=>
    split at h
    · rename_i k n hn
      rw [tint_er hn]
      obtain ⟨tv,he,h⟩:=foldK_ok h
      exact OkG.pure h he.symm
    · exact h.elim
  case xor=>
    split at h
    · rename_i k n hn
      rw [tint_er hn]
      exact OkP_pure rfl trivial ⟨_,rfl,h⟩
    · exact h.elim
  all_goals exact h.elim
def tconv (P:Program) (src dst:TypeId) (x:TV) (κ:TV→Tree α):Tree α:=match kindOf P src,kindOf P dst with
  | some (.int _),some (.int k)=>match tint x with
    | some (_,n)=>foldK (isC x) k n κ
    | none=>.no
  | some .str,some .str=>match tstr x with
    | some s=>κ (.tv .s s)
    | none=>.no
  | some .str,some (.slice e)=>match tstr x with
    | some s=>grd (isU8 P e) (.chk (lenOK s.length) (κ (.tv .bl s)))
    | none=>.no
  | some (.slice e),some .str=>match x with
    | .tv .bl s=>grd (isU8 P e) (κ (.tv .s s))
    | .nils=>grd (isU8 P e) (κ (.tv .s ([]:List UInt8)))
    | _=>.no
  | _,_=>.no
theorem tconv_ok {P:Program} {src dst:TypeId} {x:TV} {κ:TV→Tree α} {z:α} (h:(tconv P src dst x κ).Has z):Ok (convA P src dst x.er) κ z:=by
  unfold tconv at h
  split at h
  · rename_i k1 k2
    split at h
    · rename_i hn
      rw [tint_er hn]
      obtain ⟨tv,he,h⟩:=foldK_ok h
      simp only [convA,k1,k2]
      exact OkG.pure h he.symm
    · exact h.elim
  · rename_i k1 k2
    split at h
    · rename_i hn
      rw [tstr_er hn]
      simp only [convA,k1,k2]
      exact OkG.pure h rfl
    · exact h.elim
  · rename_i k1 k2
    split at h
    · rename_i hn
      obtain ⟨hb,h⟩:=grd_has h
      rw [tstr_er hn]
      simp only [convA,k1,k2]
      exact OkG.need hb (OkG.owe h.2 h.1 rfl)
    · exact h.elim
  · rename_i k1 k2
    split at h
    · obtain ⟨hb,h⟩:=grd_has h
      simp only [convA,k1,k2,TV.er,toPV]
      exact OkG.need hb (OkG.pure h rfl)
    · obtain ⟨hb,h⟩:=grd_has h
      simp only [convA,k1,k2,TV.er]
      exact OkG.need hb (OkG.pure h rfl)
    · exact h.elim
  · exact h.elim
def telem (t:Ty) (x:El t) (i:Int) (κ:(u:Ty)→El u→Tree α):Tree α:=match t,x with
  | .sl _ u,x=>.bind (getI (α:=El u) x i) fun y=>κ u y
  | .bl,x=>.bind (getI (α:=UInt8) x i) fun y=>κ (.i .u8) (y.toNat:Int)
  | .s,x=>.bind (getI (α:=UInt8) x i) fun y=>κ (.i .u8) (y.toNat:Int)
  | _,_=>.no
def seqPV:(t:Ty)→El t→PV
  | .s,x=>.bl x
  | t,x=>toPV t x
theorem getI_some {α:Type} {xs:List α} {i:Int} {y:α} (h:getI xs i=some y):0≤i∧xs[i.toNat]?=some y:=by
  unfold getI at h; split at h
  · exact ⟨by assumption,h⟩
  · simp at h
theorem map_get {β:Type} (f:β→PV) (xs:List β) (k:Nat) (y:β) (h:xs[k]?=some y):(xs.map f)[k]?=some (f y):=by rw [List.getElem?_map,h]; rfl
theorem map_u8 (xs:List UInt8) (k:Nat) (y:UInt8) (h:xs[k]?=some y):(xs[k]?).map u8=some (u8 y):=by rw [h]; rfl
theorem telem_ok {t:Ty} {x:El t} {i:Int} {κ:(u:Ty)→El u→Tree α} {z:α} (h:(telem t x i κ).Has z):OkG (elemAt none (seqPV t x) i) (fun y:(u:Ty)×El u=>toPV y.1 y.2) (fun y=>κ y.1 y.2) z:=by
  unfold telem at h
  split at h
  · rename_i sz u x
    obtain ⟨y,hy,h⟩:=h
    obtain ⟨h0,h1⟩:=getI_some hy
    have:(seqPV (.sl sz u) x).getI i.toNat=some (toPV u y):=by
      exact map_get (toPV u) _ _ _ h1
    simp only [elemAt,this]
    exact OkG.owe (x:=⟨u,y⟩) h h0 rfl
  · rename_i x
    obtain ⟨y,hy,h⟩:=h
    obtain ⟨h0,h1⟩:=getI_some hy
    have:(seqPV .bl x).getI i.toNat=some (u8 y):=by
      exact map_u8 _ _ _ h1
    simp only [elemAt,this]
    exact OkG.owe (x:=⟨.i .u8,_⟩) h h0 rfl
  · rename_i x
    obtain ⟨y,hy,h⟩:=h
    obtain ⟨h0,h1⟩:=getI_some hy
    have:(seqPV .s x).getI i.toNat=some (u8 y):=by
      exact map_u8 _ _ _ h1
    simp only [elemAt,this]
    exact OkG.owe (x:=⟨.i .u8,_⟩) h h0 rfl
  · exact h.elim
theorem OkG.rpv {r:R PV} {κ:(u:Ty)→El u→Tree α} {κ':TV→Tree α} {z:α} (h:OkG r (fun y:(u:Ty)×El u=>toPV y.1 y.2) (fun y=>κ y.1 y.2) z) (hk:∀ u y,κ u y=κ' (.tv u y)):Ok (rPV r) κ' z:=by
  obtain ⟨y,ps,rfl,hp,h⟩:=h
  exact ⟨.tv y.1 y.2,ps,rfl,hp,by rw [← hk]; exact h⟩
def tidx (i:Int) (n:Nat) (κ:Nat→Tree α):Tree α:=.chk (0≤i∧i < n) (κ i.toNat)
theorem tidx_ok {i:Int} {n:Nat} {κ:Nat→Tree α} {z:α} (h:(tidx i n κ).Has z):OkG (idx none i n) id κ z:=OkG.owe h.2 h.1 rfl
def tlo (lo:Option TV):Option Int:=match lo with
  | none=>some 0
  | some l=>(tint l).map (·.2)
def tbounds (lo hi:Option TV) (n:Nat) (κ:Nat→Option Nat→Tree α):Tree α:=match tlo lo,hi with
  | some l,none=>.chk (0≤l∧l≤(n:Int)) (κ l.toNat none)
  | some l,some h=>match tint h with
    | some (_,h)=>.chk (0≤l∧l≤h∧h≤(n:Int)) (κ l.toNat (some h.toNat))
    | none=>.no
  | _,_=>.no
theorem tint_asInt {x:TV} {k:IntKind} {n:Int} (h:tint x=some (k,n)):asInt x.er=some n:=by rw [tint_er h]; rfl
theorem bounds_eq {lo hi : Option TV} {n : Nat} {l h : Int} (h1 : tlo lo = some l) (h2 : (hi = none ∧ h = n) ∨ ∃ x k, hi = some x ∧ tint x = some (k, h)) :
    bounds none (lo.map TV.er) (hi.map TV.er) n=owe (0≤l∧l≤h∧h≤n) (l.toNat,h.toNat):=by
  cases lo with
  | none=>
    simp only [tlo,Option.some.injEq] at h1
    subst h1
    rcases h2 with ⟨rfl,rfl⟩ | ⟨x,k,rfl,hx⟩
    · rfl
    · simp only [bounds,Option.map_some,Option.map_none,tint_asInt hx]
  | some y=>
    simp only [tlo] at h1
    cases hy:tint y with
    | none=>rw [hy] at h1; simp at h1
    | some p=>
      obtain ⟨j,m⟩:=p
      rw [hy] at h1
      simp only [Option.map_some,Option.some.injEq] at h1
      subst h1
      rcases h2 with ⟨rfl,rfl⟩ | ⟨x,k,rfl,hx⟩
      · simp only [bounds,Option.map_some,Option.map_none,tint_asInt hy]
      · simp only [bounds,Option.map_some,tint_asInt hx,tint_asInt hy]
theorem tbounds_ok {lo hi : Option TV} {n : Nat} {κ : Nat → Option Nat → Tree α} {z : α} (h : (tbounds lo hi n κ).Has z) :
    OkG (bounds none (lo.map TV.er) (hi.map TV.er) n) (fun p:Nat×Option Nat=>(p.1,p.2.getD n)) (fun p=>κ p.1 p.2) z:=by
  unfold tbounds at h
  split at h
  · rename_i l hl
    rw [bounds_eq hl (.inl ⟨rfl,rfl⟩)]
    exact OkG.owe (x:=(l.toNat,none)) h.2 ⟨h.1.1,h.1.2,Int.le_refl _⟩ (by simp)
  · rename_i l hv hl
    split at h
    · rename_i k hh hk
      rw [bounds_eq hl (.inr ⟨_,_,rfl,hk⟩)]
      exact OkG.owe (x:=(l.toNat,some hh.toNat)) h.2 h.1 rfl
    · exact h.elim
  · exact h.elim
def subL {β:Type} (xs:List β) (l:Nat) (h:Option Nat):List β:=match h with
  | some h=>(xs.take h).drop l
  | none=>xs.drop l
theorem subL_eq {β:Type} (xs:List β) (l:Nat) (h:Option Nat):(xs.take (h.getD xs.length)).drop l=subL xs l h:=by
  cases h with
  | none=>simp [subL]
  | some h=>rfl
def tsub:(t:Ty)→El t→Nat→Option Nat→Option (El t)
  | .s,x,l,h=>some (subL (β:=UInt8) x l h)
  | .bl,x,l,h=>some (subL (β:=UInt8) x l h)
  | .sl _ t,x,l,h=>some (subL (β:=El t) x l h)
  | _,_,_,_=>none
def lenE:(t:Ty)→El t→Option Nat
  | .s,x=>some (List.length (α:=UInt8) x)
  | .bl,x=>some (List.length (α:=UInt8) x)
  | .sl _ t,x=>some (List.length (α:=El t) x)
  | _,_=>none
def tzero (P:Program):Nat→TypeId→Option TV
  | 0,_=>none
  | d + 1,t=>
    match kindOf P t with
    | some .bool=>some (.bc false)
    | some (.int k)=>some (.ic k 0)
    | some .str=>some (.tv .s ([]:List UInt8))
    | some (.ptr _)=>some .nilp
    | some (.slice _)=>some .nils
    | some (.map _ _)=>some .nilm
    | some .func=>some .nilf
    | some .iface=>some .nili
    | some (.bytes n)=>some (.tv (.ba n) (Vector.replicate n (0:UInt8)))
    | some (.words n)=>some (.tv (.wa n) (Vector.replicate n (0:UInt32)))
    | some (.arr n e)=>(tzero P d e).map fun z=>TV.mk (List.replicate n z)
    | some (.struct fs)=>(fs.mapM fun f=>tzero P d f.1).map TV.mk
    | _=>none
theorem mapM_er {P:Program} {d:Nat} (ih:∀ t x,tzero P d t=some x→zeroAV P d t=some x.er):∀ (fs:List (TypeId×Nat)) (xs:List TV),(fs.mapM fun f=>tzero P d f.1)=some xs→(fs.mapM fun f=>zeroAV P d f.1)=some (xs.map TV.er)
  | [],xs,h=>by
    simp only [List.mapM_nil,Option.pure_def,Option.some.injEq] at h
    subst h; rfl
  | f::fs,xs,h=>by
    simp only [List.mapM_cons,Option.pure_def,Option.bind_eq_bind] at h ⊢
    cases h1:tzero P d f.1 with
    | none=>rw [h1] at h; simp at h
    | some y=>
      rw [h1] at h
      simp only [Option.bind_some] at h
      cases h2:(fs.mapM fun f=>tzero P d f.1) with
      | none=>rw [h2] at h; simp at h
      | some ys=>
        rw [h2] at h
        simp only [Option.bind_some,Option.some.injEq] at h
        subst h
        rw [ih _ _ h1,mapM_er ih fs ys h2]
        rfl
theorem tzero_ok {P:Program}:∀ (d:Nat) (t:TypeId) (x:TV),tzero P d t=some x→zeroAV P d t=some x.er
  | 0,_,_,h=>by simp [tzero] at h
  | d + 1,t,x,h=>by
    unfold tzero at h
    unfold zeroAV
    split at h<;>first
      | (rename_i hk; simp only [Option.some.injEq] at h; subst h; simp only [hk]; rfl)
      | skip
    · rename_i n e hk
      simp only [hk]
      cases h1:tzero P d e with
      | none=>rw [h1] at h; simp at h
      | some z=>
        rw [h1] at h
        simp only [Option.map_some,Option.some.injEq] at h
        subst h
        rw [tzero_ok d e z h1,mk_er,ers_map]
        simp
    · rename_i fs hk
      simp only [hk]
      cases h1:(fs.mapM fun f=>tzero P d f.1) with
      | none=>rw [h1] at h; simp at h
      | some zs=>
        rw [h1] at h
        simp only [Option.map_some,Option.some.injEq] at h
        subst h
        rw [mapM_er (tzero_ok d) fs zs h1,mk_er,ers_map]
        rfl
    · simp at h
def tzeroOf (P:Program) (t:TypeId):Option TV:=match zeroOf P t,tzero P 20 t with
  | some _,some z=>some z
  | _,_=>none
theorem tzeroOf_ok {P:Program} {t:TypeId} {x:TV} (h:tzeroOf P t=some x):zeroOf P t=some x.er:=by
  unfold tzeroOf at h
  split at h
  · rename_i a b h1 h2
    simp only [Option.some.injEq] at h
    subst h
    have:=tzero_ok _ _ _ h2
    unfold zeroOf at h1 ⊢
    rw [this] at h1 ⊢
    simp only at h1 ⊢
    split at h1
    · rename_i hc; rw [if_pos hc]
    · simp at h1
  · simp at h
def inB (n:Int):Prop:=0≤n∧n < 256
instance (n:Int):Decidable (inB n):=by unfold inB; infer_instance
def inW (n:Int):Prop:=0≤n∧n < 4294967296
instance (n:Int):Decidable (inW n):=by unfold inW; infer_instance
def chkB (n:Int) (κ:UInt8→Tree α):Tree α:=.chk (inB n) (κ (UInt8.ofNat n.toNat))
def chkW (n:Int) (κ:UInt32→Tree α):Tree α:=.chk (inW n) (κ (UInt32.ofNat n.toNat))
def tbyte (x:TV) (κ:UInt8→Tree α):Tree α:=match x with
  | .tv (.i .u8) n=>chkB n κ
  | .ic .u8 n=>match decide (inB n) with
    | true=>κ (UInt8.ofNat n.toNat)
    | false=>.no
  | _=>.no
theorem tbyte_ok {x:TV} {κ:UInt8→Tree α} {z:α} (h:(tbyte x κ).Has z):∃ y,x.er=.pv y∧OkG (asByte none y) id κ z:=by
  unfold tbyte at h
  split at h
  · exact ⟨_,rfl,OkG.owe h.2 h.1 rfl⟩
  · split at h
    · rename_i hd
      exact ⟨_,rfl,OkG.owe h (of_decide_eq_true hd) rfl⟩
    · exact h.elim
  · exact h.elim
def tword (x:TV) (κ:UInt32→Tree α):Tree α:=match x with
  | .tv (.i .u32) n=>chkW n κ
  | .ic .u32 n=>match decide (inW n) with
    | true=>κ (UInt32.ofNat n.toNat)
    | false=>.no
  | _=>.no
theorem tword_ok {x:TV} {κ:UInt32→Tree α} {z:α} (h:(tword x κ).Has z):∃ y,x.er=.pv y∧OkG (asWord none y) id κ z:=by
  unfold tword at h
  split at h
  · exact ⟨_,rfl,OkG.owe h.2 h.1 rfl⟩
  · split at h
    · rename_i hd
      exact ⟨_,rfl,OkG.owe h (of_decide_eq_true hd) rfl⟩
    · exact h.elim
  · exact h.elim
def tsetAt:List Nat→TV→TV→(TV→Tree α)→Tree α
  | [],_,y,κ=>κ y
  | k::r,x,y,κ=>match tcomps x with
    | some xs=>match xs[k]? with
      | some w=>tsetAt r w y fun w'=>κ (TV.mk (xs.set k w'))
      | none=>.no
    | none=>match r,x with
      | [],.tv (.ba n) v=>tbyte y fun c=>.chk (k < n) (κ (.tv (.ba n) (Vector.setIfInBounds v k c)))
      | [],.tv (.wa n) v=>tword y fun c=>.chk (k < n) (κ (.tv (.wa n) (Vector.setIfInBounds v k c)))
      | _,_=>.no
theorem tsetAt_ok:∀ {p:List Nat} {x y:TV} {κ:TV→Tree α} {z:α},(tsetAt p x y κ).Has z→Ok (setAt none p x.er y.er) κ z
  | [],x,y,κ,z,h=>OkG.pure h rfl
  | k::r,x,y,κ,z,h=>by
    simp only [tsetAt] at h
    split at h
    · rename_i xs hc
      split at h
      · rename_i w hw
        have ih:=tsetAt_ok h
        rcases comps_er hc with ⟨ys,he,hy⟩ | he
        · have h1:(ys.map AV.pv)[k]?=some w.er:=by rw [hy,List.getElem?_map,hw]; rfl
          rw [List.getElem?_map] at h1
          cases hk:ys[k]? with
          | none=>rw [hk] at h1; simp at h1
          | some u=>
            rw [hk] at h1
            simp only [Option.map_some,Option.some.injEq] at h1
            rw [he]
            simp only [setAt,hk,h1]
            refine OkG.with ih fun x' hx'=>OkG.pure (x:=TV.mk (xs.set k x')) hx' ?_
            rw [mk_er,ers_map,List.map_set,hy]
        · rw [he]
          have h1:(TV.ers xs)[k]?=some w.er:=by rw [ers_map,List.getElem?_map,hw]; rfl
          simp only [setAt,h1]
          refine OkG.with ih fun x' hx'=>OkG.pure (x:=TV.mk (xs.set k x')) hx' ?_
          rw [mk_er,ers_map,ers_map,List.map_set]
      · exact h.elim
    · split at h
      · obtain ⟨w,hw,h⟩:=tbyte_ok h
        rw [hw]
        exact OkG.with h fun c hc=>OkG.owe hc.2 hc.1 rfl
      · obtain ⟨w,hw,h⟩:=tword_ok h
        rw [hw]
        exact OkG.with h fun c hc=>OkG.owe hc.2 hc.1 rfl
      · exact h.elim
def tsetParts (P:Program) (t:TypeId) (z:TV):List (Nat×TV)→(TV→Tree α)→Tree α
  | [],κ=>κ z
  | (i,x)::r,κ=>match tat [i] z with
    | some y=>grd (y.er.size == x.er.size) (tsetAt [i] z x fun z'=>grd (fitT P t z'.er) (tsetParts P t z' r κ))
    | none=>.no
theorem tsetParts_ok {P:Program} {t:TypeId}:∀ {r:List (Nat×TV)} {z:TV} {κ:TV→Tree α} {a:α},(tsetParts P t z r κ).Has a→Ok (setParts P t none z.er (r.map er2)) κ a
  | [],z,κ,a,h=>OkG.pure h rfl
  | (i,x)::r,z,κ,a,h=>by
    simp only [tsetParts] at h
    split at h
    · rename_i y hy
      obtain ⟨hb,h⟩:=grd_has h
      simp only [List.map_cons,er2,setParts,at_er hy]
      refine OkG.need hb (OkG.with (tsetAt_ok h) fun z' hz'=>?_)
      obtain ⟨hb,h⟩:=grd_has hz'
      exact OkG.need hb (tsetParts_ok h)
    · exact h.elim
end Go.Rx
end
noncomputable section
namespace Go.Rx
variable {α β γ:Type} [CT]
def tyOf (P:Program):Nat→TypeId→Option Ty
  | 0,_=>none
  | d + 1,t=>match kindOf P t with
    | some .bool=>some .b
    | some (.int k)=>some (.i k)
    | some .str=>some .s
    | some (.bytes n)=>some (.ba n)
    | some (.words n)=>some (.wa n)
    | some (.slice e)=>match isU8 P e with
      | true=>some .bl
      | false=>(tyOf P d e).map (.sl (szOf P e))
    | some (.struct fs)=>(fs.mapM fun f=>tyOf P d f.1).map .ag
    | some (.arr n e)=>(tyOf P d e).map fun t=>.ag (List.replicate n t)
    | _=>none
def tbytes:List TV→(List UInt8→Tree α)→Tree α
  | [],κ=>κ []
  | x::xs,κ=>tbyte x fun c=>tbytes xs fun cs=>κ (c::cs)
theorem tbytes_ok:∀ {xs:List TV} {κ:List UInt8→Tree α} {z:α},(tbytes xs κ).Has z→∃ ys,AV.asPVs (TV.ers xs)=some ys∧OkG (asBytes none ys) id κ z
  | [],κ,z,h=>⟨[],rfl,OkG.pure h rfl⟩
  | x::xs,κ,z,h=>by
    obtain ⟨y,hy,h⟩:=tbyte_ok h
    obtain ⟨c,ps,h1,h2,h3⟩:=h
    obtain ⟨ys,hys,h4⟩:=tbytes_ok h3
    refine ⟨y::ys,by simp only [TV.ers,hy,AV.asPVs,hys,Option.map_some],?_⟩
    simp only [asBytes]
    exact OkG.with (κ':=fun c=>tbytes xs fun cs=>κ (c::cs)) ⟨c,ps,h1,h2,h3⟩ fun c' hc=>by
      obtain ⟨ys',hys',h4⟩:=tbytes_ok hc
      rw [hys] at hys'
      simp only [Option.some.injEq] at hys'
      subst hys'
      exact OkG.with h4 fun cs hcs=>OkG.pure hcs rfl
def tcasts (t:Ty):List TV→Option (List (El t))
  | []=>some []
  | x::xs=>match x.isPure,tcasts t xs with
    | some ⟨u,y⟩,some ys=>(cast? u t y).map (·::ys)
    | _,_=>none
theorem tcasts_ok {t:Ty}:∀ {xs:List TV} {ys:List (El t)},tcasts t xs=some ys→AV.asPVs (TV.ers xs)=some (ys.map (toPV t))
  | [],ys,h=>by
    simp only [tcasts,Option.some.injEq] at h
    subst h; rfl
  | x::xs,ys,h=>by
    simp only [tcasts] at h
    split at h
    · rename_i u y ys' h1 h2
      cases hc:cast? u t y with
      | none=>rw [hc] at h; simp at h
      | some y'=>
        rw [hc] at h
        simp only [Option.map_some,Option.some.injEq] at h
        subst h
        simp only [TV.ers,isPure_er h1,AV.asPVs,tcasts_ok h2,Option.map_some,List.map_cons,cast?_pv hc]
    · simp at h
def tseqOf (P:Program) (e:TypeId) (xs:List TV) (κ:(t:Ty)→El t→Tree α):Tree α:=match isU8 P e with
  | true=>grd (szOf P e == 1) (tbytes xs fun cs=>κ .bl cs)
  | false=>match tyOf P 20 e with
    | some t=>match tcasts t xs with
      | some ys=>grd (((AV.asPVs (TV.ers xs)).getD []).all fun x=>x.size == szOf P e&&fit P 30 e (.pv x)) (κ (.sl (szOf P e) t) ys)
      | none=>.no
    | none=>.no
theorem tseqOf_ok {P : Program} {e : TypeId} {xs : List TV} {κ : (t : Ty) → El t → Tree α} {z : α} (h : (tseqOf P e xs κ).Has z) :
    ∃ ys,AV.asPVs (TV.ers xs)=some ys∧OkG (seqOf P none e ys) (fun y:(u:Ty)×El u=>toPV y.1 y.2) (fun y=>κ y.1 y.2) z:=by
  unfold tseqOf at h
  split at h
  · rename_i h8
    obtain ⟨hb,h⟩:=grd_has h
    obtain ⟨ys,hys,h⟩:=tbytes_ok h
    refine ⟨ys,hys,?_⟩
    unfold seqOf
    rw [h8]
    exact OkG.need hb (OkG.with h fun cs hcs=>OkG.pure (x:=⟨.bl,cs⟩) hcs rfl)
  · rename_i h8
    split at h
    · split at h
      · rename_i t _ _ ys hys
        obtain ⟨hb,h⟩:=grd_has h
        have:=tcasts_ok hys
        refine ⟨_,this,?_⟩
        rw [this] at hb
        unfold seqOf
        rw [h8]
        exact OkG.need hb (OkG.pure (x:=⟨.sl _ t,ys⟩) h rfl)
      · exact h.elim
    · exact h.elim
def tidxOf (x:TV) (n:Nat) (κ:Nat→Tree α):Tree α:=match tint x with
  | some (_,i)=>tidx i n κ
  | none=>.no
def tindex (P:Program) (t:TypeId) (x:TV) (i:TV) (κ:TV→Tree α):Tree α:=match kindOf P t,tint i with
  | some .str,some (_,i)=>match x with
    | .tv .s bs=>telem .s bs i fun u y=>κ (.tv u y)
    | _=>.no
  | some (.arr n _),some (_,i)=>grd (fitT P t x.er) (tidx i n fun k=>match tat [k] x with
    | some y=>κ y
    | none=>.no)
  | some (.bytes n),some (_,i)=>match x with
    | .tv (.ba m) bs=>grd (n == m) (tidx i n fun k=>κ (.tv (.i .u8) (((Vector.toList bs).getD k 0).toNat:Int)))
    | _=>.no
  | some (.words n),some (_,i)=>match x with
    | .tv (.wa m) bs=>grd (n == m) (tidx i n fun k=>κ (.tv (.i .u32) (((Vector.toList bs).getD k 0).toNat:Int)))
    | _=>.no
  | _,_=>.no
theorem tindex_ok {P:Program} {t:TypeId} {x i:TV} {κ:TV→Tree α} {z:α} (h:(tindex P t x i κ).Has z) {mk:Bool} {val:Operand→AV} {a b:Operand} (ha:val a=x.er) (hb:val b=i.er):Ok (pureOp P mk none val (.index t a b)) κ z:=by
  unfold tindex at h
  simp only [pureOp,ha,hb]
  split at h
  · rename_i hk hi
    simp only [hk,tint_asInt hi]
    split at h
    · exact (telem_ok h).rpv fun _ _=>rfl
    · exact h.elim
  · rename_i hk hi
    simp only [hk,tint_asInt hi]
    obtain ⟨hf,h⟩:=grd_has h
    refine OkG.need hf (OkG.with (tidx_ok h) fun k hk=>?_)
    split at hk
    · rename_i y hy
      simp only [id,at_er hy]
      exact OkG.pure hk rfl
    · exact hk.elim
  · rename_i hk hi
    split at h
    · obtain ⟨hf,h⟩:=grd_has h
      simp only [hk,tint_asInt hi,TV.er,toPV]
      exact OkG.need hf (OkG.with (tidx_ok h) fun k hk=>OkG.pure hk rfl)
    · exact h.elim
  · rename_i hk hi
    split at h
    · obtain ⟨hf,h⟩:=grd_has h
      simp only [hk,tint_asInt hi,TV.er,toPV]
      exact OkG.need hf (OkG.with (tidx_ok h) fun k hk=>OkG.pure hk rfl)
    · exact h.elim
  · exact h.elim
def tfieldAddr (P:Program) (t:TypeId) (x:TV) (f:Nat) (κ:TV→Tree α):Tree α:=match fieldOf P t f with
  | some (u,o)=>grd (!(szOf P u == 0)) (match x with
    | .p l path off=>κ (.p l (path++[f]) (off + o))
    | .pe l n sz k path off=>κ (.pe l n sz k (path++[f]) (off + o))
    | .ro ty y=>grd (fitT P t (.pv (toPV ty y))) (match tat [f] (.tv ty y) with
      | some (.tv u w)=>κ (.ro u w)
      | _=>.no)
    | _=>.no)
  | none=>.no
theorem tfieldAddr_ok {P:Program} {t:TypeId} {x:TV} {f:Nat} {κ:TV→Tree α} {z:α} (h:(tfieldAddr P t x f κ).Has z) {mk:Bool} {val:Operand→AV} {a:Operand} (ha:val a=x.er):Ok (pureOp P mk none val (.fieldAddr t a f)) κ z:=by
  unfold tfieldAddr at h
  simp only [pureOp,ha]
  split at h
  · rename_i u o hk
    obtain ⟨hf,h⟩:=grd_has h
    split at h
    · simp only [hk,TV.er]
      exact OkG.need hf (OkG.pure h rfl)
    · simp only [hk,TV.er]
      refine OkG.need hf (OkG.pure h ?_)
      simp only [TV.er,List.cons_append,Nat.add_assoc]
    · obtain ⟨hg,h⟩:=grd_has h
      simp only [hk,TV.er]
      refine OkG.need (by rw [hf,hg]; rfl) ?_
      split at h
      · rename_i u w hat
        have:=at_er hat
        simp only [TV.er] at this
        simp only [this]
        exact OkG.pure h rfl
      · exact h.elim
    · exact h.elim
  · exact h.elim
def tindexAddr (P:Program) (t:TypeId) (x i:TV) (κ:TV→Tree α):Tree α:=match kindOf P t,tint i with
  | some (.slice e),some (_,i)=>match x with
    | .tv (.sl sz u) xs=>telem (.sl sz u) xs i fun v y=>grd ((toPV v y).size == szOf P e) (κ (.ro v y))
    | .tv .bl xs=>telem .bl xs i fun v y=>grd ((toPV v y).size == szOf P e) (κ (.ro v y))
    | .v l n=>tidx i n fun k=>κ (.pe l n (szOf P e) k [] 0)
    | _=>.no
  | some (.arr n e),some (_,i)=>match x with
    | .p l path off=>tidx i n fun k=>κ (.p l (path++[k]) (off + k * szOf P e))
    | _=>.no
  | some (.bytes n),some (_,i)=>match x with
    | .p l path off=>tidx i n fun k=>κ (.pa l path off k)
    | .ro (.ba m) bs=>grd (n == m) (tidx i n fun k=>κ (.ro (.i .u8) (((Vector.toList bs).getD k 0).toNat:Int)))
    | _=>.no
  | some (.words n),some (_,i)=>match x with
    | .p l path off=>tidx i n fun k=>κ (.pa l path off k)
    | .ro (.wa m) bs=>grd (n == m) (tidx i n fun k=>κ (.ro (.i .u32) (((Vector.toList bs).getD k 0).toNat:Int)))
    | _=>.no
  | _,_=>.no
theorem tindexAddr_ok {P:Program} {t:TypeId} {x i:TV} {κ:TV→Tree α} {z:α} (h:(tindexAddr P t x i κ).Has z) {mk:Bool} {val:Operand→AV} {a b:Operand} (ha:val a=x.er) (hb:val b=i.er):Ok (pureOp P mk none val (.indexAddr t a b)) κ z:=by
  unfold tindexAddr at h
  simp only [pureOp,ha,hb]
  split at h
  · rename_i hk hi
    split at h
    · simp only [hk,tint_asInt hi,TV.er]
      refine OkG.with (telem_ok h) fun y hy=>?_
      obtain ⟨hf,hy⟩:=grd_has hy
      exact OkG.need hf (OkG.pure hy rfl)
    · simp only [hk,tint_asInt hi,TV.er]
      refine OkG.with (telem_ok h) fun y hy=>?_
      obtain ⟨hf,hy⟩:=grd_has hy
      exact OkG.need hf (OkG.pure hy rfl)
    · simp only [hk,tint_asInt hi,TV.er]
      exact OkG.with (tidx_ok h) fun k hk=>OkG.pure hk rfl
    · exact h.elim
  · rename_i hk hi
    split at h
    · simp only [hk,tint_asInt hi,TV.er]
      exact OkG.with (tidx_ok h) fun k hk=>OkG.pure hk rfl
    · exact h.elim
  · rename_i hk hi
    split at h
    · simp only [hk,tint_asInt hi,TV.er]
      exact OkG.with (tidx_ok h) fun k hk=>OkG.pure hk rfl
    · obtain ⟨hf,h⟩:=grd_has h
      simp only [hk,tint_asInt hi,TV.er,toPV]
      exact OkG.need hf (OkG.with (tidx_ok h) fun k hk=>OkG.pure hk rfl)
    · exact h.elim
  · rename_i hk hi
    split at h
    · simp only [hk,tint_asInt hi,TV.er]
      exact OkG.with (tidx_ok h) fun k hk=>OkG.pure hk rfl
    · obtain ⟨hf,h⟩:=grd_has h
      simp only [hk,tint_asInt hi,TV.er,toPV]
      exact OkG.need hf (OkG.with (tidx_ok h) fun k hk=>OkG.pure hk rfl)
    · exact h.elim
  · exact h.elim
def tsliceP (P:Program) (t:TypeId) (x:TV) (lo hi mx:Option TV) (κ:TV→Tree α):Tree α:=match mx with
  | none=>match kindOf P t,x with
    | some .str,.tv .s bs=>tbounds lo hi (List.length (α:=UInt8) bs) fun l h=>κ (.tv .s (subL (β:=UInt8) bs l h))
    | some (.slice _),.tv .bl bs=>grd (fitT P t (.pv (.bl bs))) (tbounds lo hi (List.length (α:=UInt8) bs) fun l h=>κ (.tv .bl (subL (β:=UInt8) bs l h)))
    | some (.slice _),.tv (.sl sz u) xs=>grd (fitT P t (.pv (toPV (.sl sz u) xs))) (tbounds lo hi (List.length (α:=El u) xs) fun l h=>κ (.tv (.sl sz u) (subL (β:=El u) xs l h)))
    | some (.slice _),.nils=>tbounds lo hi 0 fun _ _=>κ .nils
    | some (.bytes n),.ro (.ba m) bs=>grd (n == m&&lo.isNone&&hi.isNone) (κ (.tv .bl (Vector.toList bs)))
    | _,_=>.no
  | some mx=>match kindOf P t,x,hi,tint mx with
    | some (.slice _),.tv .bl bs,some hi,some (_,m)=>grd (fitT P t (.pv (.bl bs))) (tbounds lo (some hi) (List.length (α:=UInt8) bs) fun l h=>.chk ((h.getD 0:Int)≤m∧m≤(List.length (α:=UInt8) bs:Int)) (κ (.tv .bl (subL (β:=UInt8) bs l h))))
    | some (.slice _),.tv (.sl sz u) xs,some hi,some (_,m)=>grd (fitT P t (.pv (toPV (.sl sz u) xs))) (tbounds lo (some hi) (List.length (α:=El u) xs) fun l h=>.chk ((h.getD 0:Int)≤m∧m≤(List.length (α:=El u) xs:Int)) (κ (.tv (.sl sz u) (subL (β:=El u) xs l h))))
    | _,_,_,_=>.no
theorem sub_bl (bs:List UInt8) (l:Nat) (h:Option Nat):(PV.bl bs).sub l (h.getD bs.length)=.bl (subL bs l h):=by
  simp only [PV.sub,subL_eq]
theorem sub_sl {u:Ty} (sz:Nat) (xs:List (El u)) (l:Nat) (h:Option Nat):(PV.l sz (xs.map (toPV u))).sub l (h.getD xs.length)=.l sz ((subL xs l h).map (toPV u)):=by
  simp only [PV.sub,← subL_eq,List.map_drop,List.map_take]
theorem len_sl {u:Ty} (sz:Nat) (xs:List (El u)):(PV.l sz (xs.map (toPV u))).len=xs.length:=by simp only [PV.len,List.length_map]
theorem tbounds_some {lo : Option TV} {hi : TV} {n : Nat} {κ : Nat → Option Nat → Tree α} {z : α} (h : (tbounds lo (some hi) n κ).Has z) :
    OkG (bounds none (lo.map TV.er) (some hi.er) n) (fun p:Nat×Nat=>(p.1,p.2)) (fun p=>κ p.1 (some p.2)) z:=by
  unfold tbounds at h
  split at h
  · rename_i heq; cases heq
  · rename_i l hv hl heq
    cases heq
    split at h
    · rename_i k hh hk
      have:=bounds_eq (n:=n) hl (.inr ⟨hi,k,rfl,hk⟩)
      simp only [Option.map_some] at this
      rw [this]
      exact OkG.owe (x:=(l.toNat,hh.toNat)) h.2 h.1 rfl
    · exact h.elim
  · exact h.elim
theorem str_sub (bs:List UInt8) (l:Nat) (h:Option Nat):AV.pv (.s ((bs.take (h.getD bs.length)).drop l))=(TV.tv .s (subL bs l h)).er:=by rw [subL_eq]; rfl
theorem slice2_aux {u : Ty} {sz : Nat} {xs : List (El u)} {lo hi : Option TV} {κ : TV → Tree α} {z : α} (h : (tbounds lo hi xs.length fun l h => κ (.tv (.sl sz u) (subL xs l h))).Has z) :
    Ok ((bounds none (lo.map TV.er) (hi.map TV.er) (PV.l sz (xs.map (toPV u))).len).with fun x=>pure0 (AV.pv ((PV.l sz (xs.map (toPV u))).sub x.1 x.2))) κ z:=by
  rw [len_sl]
  refine OkG.with (tbounds_ok h) fun p hp=>OkG.pure hp ?_
  simp only [TV.er,toPV]; congr 1
  exact sub_sl _ _ _ _
theorem slice3_aux {u : Ty} {sz : Nat} {xs : List (El u)} {lo : Option TV} {hi : TV} {m : Int} {κ : TV → Tree α} {z : α} (h : (tbounds lo (some hi) xs.length fun l h => .chk ((h.getD 0 : Int) ≤ m ∧ m ≤ (xs.length : Int)) (κ (.tv (.sl sz u) (subL xs l h)))).Has z) :
    Ok ((bounds none (lo.map TV.er) (some hi.er) (PV.l sz (xs.map (toPV u))).len).with fun x=>owe ((x.2:Int)≤m∧m≤((PV.l sz (xs.map (toPV u))).len:Int)) (AV.pv ((PV.l sz (xs.map (toPV u))).sub x.1 x.2))) κ z:=by
  rw [len_sl]
  refine OkG.with (tbounds_some h) fun p hp=>OkG.owe hp.2 hp.1 ?_
  simp only [TV.er,toPV]; congr 1
  exact sub_sl _ _ _ (some _)
theorem tsliceP_ok {P : Program} {t : TypeId} {x : TV} {lo hi mx : Option TV} {κ : TV → Tree α} {z : α} (h : (tsliceP P t x lo hi mx κ).Has z) {mk : Bool} {val : Operand → AV} {a : Operand} {lo' hi' mx' : Option Operand}
    (ha:val a=x.er) (hlo:lo'.map val=lo.map TV.er) (hhi:hi'.map val=hi.map TV.er) (hmx:mx'.map val=mx.map TV.er):Ok (pureOp P mk none val (.slice t a lo' hi' mx')) κ z:=by
  unfold tsliceP at h
  split at h
  · cases mx' with
    | some m=>simp at hmx
    | none=>
      simp only [pureOp,ha,hlo,hhi]
      split at h
      · rename_i hk
        simp only [hk,TV.er,toPV]
        exact OkG.with (tbounds_ok h) fun p hp=>OkG.pure hp (str_sub _ _ _)
      · rename_i hk
        obtain ⟨hf,h⟩:=grd_has h
        simp only [hk,TV.er,toPV]
        exact OkG.need (by rw [hf]; rfl) (OkG.with (tbounds_ok h) fun p hp=>OkG.pure hp (by simp only [TV.er,toPV]; congr 1; exact sub_bl _ _ _))
      · rename_i hk
        obtain ⟨hf,h⟩:=grd_has h
        simp only [hk,TV.er,toPV]
        refine OkG.need (by simp only [toPV] at hf; rw [hf]; rfl) ?_
        exact slice2_aux h
      · rename_i hk
        simp only [hk,TV.er]
        exact OkG.with (tbounds_ok h) fun p hp=>OkG.pure hp rfl
      · rename_i hk
        obtain ⟨hc,h⟩:=grd_has h
        simp only [hk,TV.er,toPV]
        refine OkG.need ?_ (OkG.pure h rfl)
        have e1:lo'.isNone=lo.isNone:=by have:=congrArg Option.isNone hlo; simpa using this
        have e2:hi'.isNone=hi.isNone:=by have:=congrArg Option.isNone hhi; simpa using this
        simp only [Option.isNone_map,e1,e2]; exact hc
      · exact h.elim
  · cases mx' with
    | none=>simp at hmx
    | some m=>
      simp only [Option.map_some,Option.some.injEq] at hmx
      split at h
      · rename_i hk hm
        cases hi' with
        | none=>simp at hhi
        | some hi'=>
        simp only [Option.map_some,Option.some.injEq] at hhi
        obtain ⟨hf,h⟩:=grd_has h
        simp only [pureOp,ha,hlo,hhi,hmx,hk,TV.er,toPV,tint_asInt hm]
        refine OkG.need (by rw [hf]; rfl) (OkG.with (tbounds_some h) fun p hp=>OkG.owe hp.2 hp.1 ?_)
        simp only [TV.er,toPV]; congr 1
      · rename_i hk hm
        cases hi' with
        | none=>simp at hhi
        | some hi'=>
        simp only [Option.map_some,Option.some.injEq] at hhi
        obtain ⟨hf,h⟩:=grd_has h
        simp only [pureOp,ha,hlo,hhi,hmx,hk,TV.er,toPV,tint_asInt hm]
        refine OkG.need (by simp only [toPV] at hf; rw [hf]; rfl) ?_
        exact slice3_aux h
      · exact h.elim
def ofOT (x:Option TV) (κ:TV→Tree α):Tree α:=match x with
  | some y=>κ y
  | none=>.no
theorem solid_er (xs:List TV) (f:Operand→AV):True:=trivial
def tlenP (P:Program) (t:TypeId) (x:TV) (κ:TV→Tree α):Tree α:=match kindOf P t,x with
  | some .str,.tv .s bs=>κ (.tv (.i .i64) ((List.length (α:=UInt8) bs:Nat):Int))
  | some (.slice _),.tv (.sl _ u) xs=>κ (.tv (.i .i64) ((List.length (α:=El u) xs:Nat):Int))
  | some (.slice _),.tv .bl xs=>κ (.tv (.i .i64) ((List.length (α:=UInt8) xs:Nat):Int))
  | some (.slice _),.v _ n=>κ (.tv (.i .i64) ((n:Nat):Int))
  | some (.slice _),.nils=>κ (.ic .i64 0)
  | some (.slice _),.es _=>κ (.ic .i64 0)
  | some (.map _ _),.nilm=>κ (.ic .i64 0)
  | _,_=>.no
theorem map_len {u:Ty} (xs:List (El u)):AV.pv (.i .i64 ((xs.map (toPV u)).length:Nat))=(TV.tv (.i .i64) ((xs.length:Nat):Int)).er:=by rw [List.length_map]; rfl
def tmin2 (f:Int→Int→Int) (x y:TV) (κ:TV→Tree α):Tree α:=match tint x,tint y with
  | some (.i64,a),some (.i64,b)=>match isC x&&isC y with
    | true=>κ (.ic .i64 (f a b))
    | false=>κ (.tv (.i .i64) (f a b))
  | _,_=>.no
theorem tmin2_ok {f:Int→Int→Int} {x y:TV} {κ:TV→Tree α} {z:α} (h:(tmin2 f x y κ).Has z):∃ a b,x.er=.pv (.i .i64 a)∧y.er=.pv (.i .i64 b)∧Ok (pure0 (AV.pv (.i .i64 (f a b)))) κ z:=by
  unfold tmin2 at h
  split at h
  · rename_i h1 h2
    refine ⟨_,_,tint_er h1,tint_er h2,?_⟩
    split at h
    · exact OkG.pure h rfl
    · exact OkG.pure h rfl
  · exact h.elim
def ifn (p:Prop) [Decidable p] (a b:Int):Int:=if p then a else b
def tpureOp (P:Program) (mkVec:Bool) (val:Operand→TV):Op→(TV→Tree α)→Tree α
  | .move x,κ=>κ (val x)
  | .assign x,κ=>κ (val x)
  | .pick c a b,κ=>match val c with
    | .bc x=>κ (match x with | true=>val a | false=>val b)
    | .tv .b x=>.cond x (κ (val a)) (κ (val b))
    | _=>.no
  | .binOp op t x y _,κ=>tbin P op t (val x) (val y) κ
  | .unOp op _ x,κ=>tun op (val x) κ
  | .convert s d x,κ=>tconv P s d (val x) κ
  | .nilCheck x,κ=>match val x with
    | .p a b c=>κ (.p a b c)
    | .pa a b c d=>κ (.pa a b c d)
    | .pe a b c d e f=>κ (.pe a b c d e f)
    | .ro t x=>κ (.ro t x)
    | .fn (.func f) a b=>κ (.fn (.func f) a b)
    | _=>.no
  | .makeInterface t x,κ=>match kindOf P t with
    | some .iface=>.no
    | some _=>grd (fitT P t (val x).er) (κ (.iface t (val x)))
    | none=>.no
  | .makeFunc f a b,κ=>match f with
    | .func k=>grd ((a.toList.map fun x=>(val x).er).all AV.solid&&(b.toList.map fun x=>(val x).er).all AV.solid) (κ (.fn (.func k) (a.toList.map val) (b.toList.map val)))
    | _=>.no
  | .extract x i,κ=>match val x with
    | .tup xs=>ofOT xs[i]? κ
    | _=>.no
  | .build t parts,κ=>match tzeroOf P t with
    | some z=>grd z.er.isAgg (tsetParts P t z (parts.toList.map fun q=>(q.1,val q.2)) κ)
    | none=>.no
  | .buildSlice t n parts,κ=>match kindOf P t with
    | some (.slice e)=>grd (!mkVec&&dense 0 parts.toList&&n == parts.size&&n * szOf P e≤16777216&&zeroKnown P e) (tseqOf P e (parts.toList.map fun q=>val q.2) fun u y=>κ (.tv u y))
    | _=>.no
  | .field t x f,κ=>match fieldOf P t f with
    | some _=>grd (fitT P t (val x).er) (ofOT (tat [f] (val x)) κ)
    | none=>.no
  | .index t x i,κ=>tindex P t (val x) (val i) κ
  | .fieldAddr t x f,κ=>tfieldAddr P t (val x) f κ
  | .indexAddr t x i,κ=>tindexAddr P t (val x) (val i) κ
  | .slice t x lo hi mx,κ=>tsliceP P t (val x) (lo.map val) (hi.map val) (mx.map val) κ
  | .sliceToArrayPointer t x,κ=>match kindOf P t,val x with
    | some (.bytes n),.tv .bl bs=>.chk (n≤List.length (α:=UInt8) bs∧n≠0) (κ (.ro (.ba n) (toBa n bs)))
    | _,_=>.no
  | .typeAssert x _ t commaOk,κ=>match kindOf P t,val x with
    | some .iface,_=>.no
    | some _,.iface u y=>match decide (u=t) with
      | true=>κ (match commaOk with | true=>.tup [y,.bc true] | false=>y)
      | false=>match commaOk,tzeroOf P t with
        | true,some z=>κ (.tup [z,.bc false])
        | _,_=>.no
    | some _,.nili=>match commaOk,tzeroOf P t with
      | true,some z=>κ (.tup [z,.bc false])
      | _,_=>.no
    | _,_=>.no
  | .call c,κ=>match c.callee with
    | .builtin .len=>match c.argTypes.toList,c.args.toList with
      | [t],[x]=>tlenP P t (val x) κ
      | _,_=>.no
    | .builtin .min=>match c.args.toList with
      | [x,y]=>tmin2 (fun a b=>if b < a then b else a) (val x) (val y) κ
      | _=>.no
    | .builtin .max=>match c.args.toList with
      | [x,y]=>tmin2 (fun a b=>if a < b then b else a) (val x) (val y) κ
      | _=>.no
    | _=>.no
  | _,_=>.no
end Go.Rx
end
noncomputable section
namespace Go.Rx
variable {α β γ:Type} [CT]
def erV (val:Operand→TV) (x:Operand):AV:=(val x).er
theorem tlenP_ok {P:Program} {t:TypeId} {x:TV} {κ:TV→Tree α} {z:α} (h:(tlenP P t x κ).Has z) {c:Call} {mk:Bool} {val:Operand→AV} {a:Operand} (hc:c.callee=.builtin .len) (ht:c.argTypes.toList=[t]) (ha:c.args.toList=[a]) (hx:val a=x.er):Ok (pureOp P mk none val (.call c)) κ z:=by
  unfold tlenP at h
  simp only [pureOp,hc,ht,ha,hx,List.map_cons,List.map_nil]
  split at h
  · rename_i hk; simp only [hk,TV.er,toPV]; exact OkG.pure h rfl
  · rename_i hk; simp only [hk,TV.er,toPV]; exact OkG.pure h (map_len _)
  · rename_i hk; simp only [hk,TV.er,toPV]; exact OkG.pure h rfl
  · rename_i hk; simp only [hk,TV.er]; exact OkG.pure h rfl
  · rename_i hk; simp only [hk,TV.er]; exact OkG.pure h rfl
  · rename_i hk; simp only [hk,TV.er]; exact OkG.pure h rfl
  · rename_i hk; simp only [hk,TV.er]; exact OkG.pure h rfl
  · exact h.elim
theorem parts_er (val:Operand→TV) (l:List (Nat×Operand)):(l.map fun q=>(q.1,val q.2)).map er2=l.map fun q=>(q.1,erV val q.2):=by
  rw [List.map_map]; rfl
theorem ers_map2 {β:Type} (f:β→TV) (l:List β):TV.ers (l.map f)=l.map fun x=>(f x).er:=by rw [ers_map,List.map_map]; rfl
theorem tpureOp_ok {P:Program} {mk:Bool} {val:Operand→TV} {κ:TV→Tree α} {z:α}:∀ {o:Op},(tpureOp P mk val o κ).Has z→Ok (pureOp P mk none (erV val) o) κ z:=by
  intro o h
  cases o<;>simp only [tpureOp] at h<;>try (exact h.elim)
  case move x=>exact OkG.pure h rfl
  case assign x=>exact OkG.pure h rfl
  case binOp=>exact tbin_ok h
  case unOp=>exact tun_ok h
  case convert=>exact tconv_ok h
  case index=>exact tindex_ok h rfl rfl
  case fieldAddr=>exact tfieldAddr_ok h rfl
  case indexAddr=>exact tindexAddr_ok h rfl rfl
  case slice=>exact tsliceP_ok h rfl (by rw [Option.map_map]; rfl) (by rw [Option.map_map]; rfl) (by rw [Option.map_map]; rfl)
  case pick c a b=>
    have key:∀ x:Bool,(val c).er=.pv (.b x)→((κ (match x with | true=>val a | false=>val b)).Has z)→Ok (pureOp P mk none (erV val) (.pick c a b)) κ z:=by
      intro x hx hh
      simp only [pureOp,erV,hx]
      split
      · rename_i e1 e2
        cases x
        · exact OkG.pure hh e2.symm
        · exact OkG.pure hh e1.symm
      · cases x
        · exact OkG.pure hh rfl
        · exact OkG.pure hh rfl
    split at h
    · rename_i x hx; exact key x (by rw [hx]; rfl) h
    · rename_i x hx
      rcases h with ⟨hb,h⟩ | ⟨hb,h⟩
      · exact key true (by rw [hx]; simp only [TV.er,toPV]; rw [hb]) h
      · exact key false (by rw [hx]; simp only [TV.er,toPV]; rw [hb]) h
    · exact h.elim
  case nilCheck x=>
    split at h
    all_goals first
      | (exact h.elim)
      | (rename_i hx; simp only [pureOp,erV,hx,TV.er]; exact OkG.pure h rfl)
  case makeInterface t x=>
    split at h
    · exact h.elim
    · rename_i k hk hno
      obtain ⟨hf,h⟩:=grd_has h
      simp only [pureOp,hno]
      exact OkG.need hf (OkG.pure h rfl)
    · exact h.elim
  case makeFunc f a b=>
    split at h
    · obtain ⟨hf,h⟩:=grd_has h
      simp only [pureOp]
      refine OkG.need hf (OkG.pure h ?_)
      simp only [TV.er,ers_map2]
      rfl
    · exact h.elim
  case extract x i=>
    split at h
    · rename_i xs hx
      simp only [pureOp,erV,hx,TV.er]
      unfold ofOT at h
      split at h
      · rename_i y hy
        rw [ers_map,List.getElem?_map,hy]
        exact OkG.pure h rfl
      · exact h.elim
    · exact h.elim
  case build t parts=>
    split at h
    · rename_i w hw
      obtain ⟨hf,h⟩:=grd_has h
      simp only [pureOp,tzeroOf_ok hw]
      have:=tsetParts_ok h
      rw [parts_er] at this
      exact OkG.need hf this
    · exact h.elim
  case buildSlice t n parts=>
    split at h
    · rename_i e hk
      obtain ⟨hf,h⟩:=grd_has h
      simp only [pureOp,hk]
      refine OkG.need hf ?_
      obtain ⟨ys,h1,h2⟩:=tseqOf_ok h
      rw [ers_map2] at h1
      have h1:AV.asPVs (parts.toList.map fun q=>erV val q.2)=some ys:=h1
      rw [h1]
      exact h2.rpv fun _ _=>rfl
    · exact h.elim
  case field t x f=>
    split at h
    · rename_i k hk
      obtain ⟨hf,h⟩:=grd_has h
      simp only [pureOp,hk]
      refine OkG.need hf ?_
      unfold ofOT at h
      split at h
      · rename_i y hy
        have:=at_er hy
        simp only [erV,this]
        exact OkG.pure h rfl
      · exact h.elim
    · exact h.elim
  case sliceToArrayPointer t x=>
    split at h
    · rename_i n bs hk hx
      simp only [pureOp,hk,erV,hx,TV.er,toPV]
      exact OkG.owe h.2 h.1 rfl
    · exact h.elim
  case typeAssert x _ t ok=>
    split at h
    · exact h.elim
    · rename_i k u y hk hno hx
      split at h
      · rename_i hd
        simp only [pureOp,erV,hx,TV.er,hno,hd]
        refine OkG.pure h ?_
        cases ok<;>rfl
      · rename_i hd
        split at h
        · rename_i w hw
          simp only [pureOp,erV,hx,TV.er,hno,hd,tzeroOf_ok hw]
          exact OkG.pure h rfl
        · exact h.elim
    · rename_i k hk hno hx
      split at h
      · rename_i w hw
        simp only [pureOp,erV,hx,TV.er,hno,tzeroOf_ok hw]
        exact OkG.pure h rfl
      · exact h.elim
    · exact h.elim
  case call c=>
    split at h
    · rename_i hc
      split at h
      · rename_i h1 h2
        exact tlenP_ok h hc h1 h2 rfl
      · exact h.elim
    · rename_i hc
      split at h
      · rename_i h2
        obtain ⟨a,b,e1,e2,h⟩:=tmin2_ok h
        simp only [pureOp,hc,h2,List.map_cons,List.map_nil,erV,e1,e2]
        exact h
      · exact h.elim
    · rename_i hc
      split at h
      · rename_i h2
        obtain ⟨a,b,e1,e2,h⟩:=tmin2_ok h
        simp only [pureOp,hc,h2,List.map_cons,List.map_nil,erV,e1,e2]
        exact h
      · exact h.elim
    · exact h.elim
end Go.Rx
end
noncomputable section
namespace Go.Rx
variable {α β γ:Type} [CT]
theorem at_app_ba {k n:Nat} {v:Vector UInt8 n}:∀ {p:List Nat} {c:AV},AV.at p c=some (.pv (.ba n v))→AV.at (p++[k]) c=some (.pv (u8 (v.toList.getD k 0)))
  | [],c,h=>by
    simp only [AV.at,Option.some.injEq] at h
    subst h; rfl
  | j::r,c,h=>by
    cases c<;>first | (simp [AV.at] at h; done) | skip
    · rename_i x
      cases x<;>first | (cases r<;>simp [AV.at,u8,u32] at h; done) | skip
      rename_i xs
      simp only [List.cons_append,AV.at] at h ⊢
      cases hy:xs[j]? with
      | none=>simp only [hy,reduceCtorEq] at h
      | some y=>simp only [hy] at h ⊢; exact at_app_ba h
    · rename_i xs
      simp only [List.cons_append,AV.at] at h ⊢
      cases hy:xs[j]? with
      | none=>simp only [hy,reduceCtorEq] at h
      | some y=>simp only [hy] at h ⊢; exact at_app_ba h
theorem at_app_wa {k n:Nat} {v:Vector UInt32 n}:∀ {p:List Nat} {c:AV},AV.at p c=some (.pv (.wa n v))→AV.at (p++[k]) c=some (.pv (u32 (v.toList.getD k 0)))
  | [],c,h=>by
    simp only [AV.at,Option.some.injEq] at h
    subst h; rfl
  | j::r,c,h=>by
    cases c<;>first | (simp [AV.at] at h; done) | skip
    · rename_i x
      cases x<;>first | (cases r<;>simp [AV.at,u8,u32] at h; done) | skip
      rename_i xs
      simp only [List.cons_append,AV.at] at h ⊢
      cases hy:xs[j]? with
      | none=>simp only [hy,reduceCtorEq] at h
      | some y=>simp only [hy] at h ⊢; exact at_app_wa h
    · rename_i xs
      simp only [List.cons_append,AV.at] at h ⊢
      cases hy:xs[j]? with
      | none=>simp only [hy,reduceCtorEq] at h
      | some y=>simp only [hy] at h ⊢; exact at_app_wa h
def arrPV (x:AV):Option Nat:=match x with
  | .pv (.ba n _)=>some n
  | .pv (.wa n _)=>some n
  | _=>none
theorem offAt_app {k n:Nat} {a:AV} (ha:arrPV a=some n):∀ {p:List Nat} {c:AV} {o:Nat},AV.at p c=some a→AV.offAt p c=some o→AV.offAt (p++[k]) c=some (o + k)
  | [],c,o,h,ho=>by
    simp only [AV.at,Option.some.injEq] at h
    subst h
    simp only [AV.offAt,Option.some.injEq] at ho
    subst ho
    simp only [List.nil_append,Nat.zero_add]
    cases c<;>simp only [arrPV,reduceCtorEq] at ha
    rename_i x
    cases x<;>simp only [reduceCtorEq] at ha<;>rfl
  | j::r,c,o,h,ho=>by
    cases c<;>first | (simp [AV.at] at h; done) | skip
    · rename_i x
      cases x<;>first
        | (cases r
           · simp only [AV.at,Option.some.injEq] at h; subst h; simp [arrPV,u8,u32] at ha
           · simp [AV.at] at h
           done)
        | (simp [AV.at] at h; done)
        | skip
      rename_i xs
      simp only [List.cons_append,AV.at,AV.offAt] at h ho ⊢
      cases hy:xs[j]? with
      | none=>simp only [hy,reduceCtorEq] at h
      | some y=>
        simp only [hy] at h ho ⊢
        cases hq:AV.offAt r (.pv y) with
        | none=>rw [hq] at ho; simp at ho
        | some q=>
          rw [hq] at ho
          simp only [Option.map_some,Option.some.injEq] at ho
          rw [offAt_app ha h hq,← ho]
          simp only [Option.map_some,Nat.add_assoc]
    · rename_i xs
      simp only [List.cons_append,AV.at,AV.offAt] at h ho ⊢
      cases hy:xs[j]? with
      | none=>simp only [hy,reduceCtorEq] at h
      | some y=>
        simp only [hy] at h ho ⊢
        cases hq:AV.offAt r y with
        | none=>rw [hq] at ho; simp at ho
        | some q=>
          rw [hq] at ho
          simp only [Option.map_some,Option.some.injEq] at ho
          rw [offAt_app ha h hq,← ho]
          simp only [Option.map_some,Nat.add_assoc]
theorem inR_app {k n:Nat} {a:AV} (ha:arrPV a=some n) (hk:k < n):∀ {p:List Nat} {c:AV},AV.at p c=some a→All (AV.inR (p++[k]) c)
  | [],c,h=>by
    simp only [AV.at,Option.some.injEq] at h
    subst h
    cases c<;>simp only [arrPV,reduceCtorEq] at ha
    rename_i x
    cases x<;>simp only [reduceCtorEq,Option.some.injEq] at ha<;>(subst ha; exact hk)
  | j::r,c,h=>by
    cases c<;>first | (simp [AV.at] at h; done) | skip
    · rename_i x
      cases x<;>first
        | (cases r
           · simp only [AV.at,Option.some.injEq] at h; subst h; simp [arrPV,u8,u32] at ha
           · simp [AV.at] at h
           done)
        | (simp [AV.at] at h; done)
        | skip
      rename_i xs
      simp only [List.cons_append,AV.at,AV.inR] at h ⊢
      cases hy:xs[j]? with
      | none=>simp only [hy,reduceCtorEq] at h
      | some y=>simp only [hy] at h ⊢; exact inR_app ha hk h
    · rename_i xs
      simp only [List.cons_append,AV.at,AV.inR] at h ⊢
      cases hy:xs[j]? with
      | none=>simp only [hy,reduceCtorEq] at h
      | some y=>simp only [hy] at h ⊢; exact inR_app ha hk h
def noArr (ps:List Prop):Bool:=match ps with
  | []=>true
  | _=>false
theorem noArr_all {ps:List Prop} (h:noArr ps=true):ps=[]:=by cases ps<;>first | rfl | (simp [noArr] at h)
def tpartAt (P:Program) (t:TypeId) (path:List Nat) (off:Nat) (c:TV) (κ:TV→Tree α):Tree α:=match AV.offAt path c.er,tat path c with
  | some o,some x=>grd (o == off&&fitT P t x.er&&noArr (AV.inR path c.er)) (κ x)
  | _,_=>.no
theorem tpartAt_ok {P:Program} {t:TypeId} {path:List Nat} {off:Nat} {c:TV} {κ:TV→Tree α} {z:α} (h:(tpartAt P t path off c κ).Has z):Ok (partAt P t path off c.er) κ z:=by
  unfold tpartAt at h
  split at h
  · rename_i o x h1 h2
    obtain ⟨hb,h⟩:=grd_has h
    simp only [Bool.and_eq_true] at hb
    unfold partAt
    rw [h1,at_er h2,noArr_all hb.2]
    exact OkG.need (by simp only [Bool.and_eq_true]; exact hb.1) ⟨x,[],rfl,trivial,h⟩
  · exact h.elim
def tpartArr (P:Program) (t:TypeId) (path:List Nat) (off k:Nat) (c:TV) (κ:TV→Tree α):Tree α:=match AV.offAt path c.er,tat path c with
  | some o,some (.tv (.ba n) v)=>grd (o == off&&fitT P t (.pv (.i .u8 0))) (.chk (k < n) (κ (.tv (.i .u8) (((Vector.toList v).getD k 0).toNat:Int))))
  | some o,some (.tv (.wa n) v)=>grd (o == off&&fitT P t (.pv (.i .u32 0))) (.chk (k < n) (κ (.tv (.i .u32) (((Vector.toList v).getD k 0).toNat:Int))))
  | _,_=>.no
theorem fit_int1 {P:Program} {t:TypeId} {k:IntKind} {a b:Int}:∀ d,fit P d t (.pv (.i k a))=fit P d t (.pv (.i k b))
  | 0=>rfl
  | d + 1=>by
    cases hk:kindOf P t with
    | none=>simp only [fit,hk]
    | some q=>cases q<;>simp only [fit,hk]
theorem fit_int {P:Program} {t:TypeId} {k:IntKind} {a b:Int} (h:fitT P t (.pv (.i k a))=true):fitT P t (.pv (.i k b))=true:=by
  unfold fitT at h ⊢
  rw [fit_int1 (b:=a)]
  exact h
theorem tpartArr_ok {P:Program} {t:TypeId} {path:List Nat} {off k:Nat} {c:TV} {κ:TV→Tree α} {z:α} (h:(tpartArr P t path off k c κ).Has z):Ok (partAt P t (path++[k]) (off + k) c.er) κ z:=by
  unfold tpartArr at h
  split at h
  · rename_i o n v h1 h2
    obtain ⟨hb,h⟩:=grd_has h
    simp only [Bool.and_eq_true] at hb
    have ha:=at_er h2
    simp only [TV.er,toPV] at ha
    unfold partAt
    rw [offAt_app rfl ha h1,at_app_ba ha]
    refine OkG.need ?_ ⟨_,_,rfl,inR_app rfl h.1 ha,h.2⟩
    simp only [Bool.and_eq_true]
    exact ⟨by rw [eq_of_beq hb.1]; exact beq_self_eq_true _,fit_int hb.2⟩
  · rename_i o n v h1 h2
    obtain ⟨hb,h⟩:=grd_has h
    simp only [Bool.and_eq_true] at hb
    have ha:=at_er h2
    simp only [TV.er,toPV] at ha
    unfold partAt
    rw [offAt_app rfl ha h1,at_app_wa ha]
    refine OkG.need ?_ ⟨_,_,rfl,inR_app rfl h.1 ha,h.2⟩
    simp only [Bool.and_eq_true]
    exact ⟨by rw [eq_of_beq hb.1]; exact beq_self_eq_true _,fit_int hb.2⟩
  · exact h.elim
def getV {β:Type} (xs:List β) (n k:Nat):Option β:=if xs.length=n then xs[k]? else none
theorem getV_some {β:Type} {xs:List β} {n k:Nat} {y:β} (h:getV xs n k=some y):xs.length=n∧xs[k]?=some y:=by
  unfold getV at h
  split at h
  · exact ⟨by assumption,h⟩
  · simp at h
def tvec (t:Ty) (x:El t) (n k:Nat) (κ:(u:Ty)→El u→Tree α):Tree α:=match t,x with
  | .sl _ u,x=>.bind (getV (β:=El u) x n k) fun y=>κ u y
  | .bl,x=>.bind (getV (β:=UInt8) x n k) fun y=>κ (.i .u8) (y.toNat:Int)
  | _,_=>.no
theorem tvec_ok {t:Ty} {x:El t} {n k:Nat} {κ:(u:Ty)→El u→Tree α} {z:α} (h:(tvec t x n k κ).Has z):(toPV t x).len=n∧OkG (elemAt none (toPV t x) (k:Int)) (fun y:(u:Ty)×El u=>toPV y.1 y.2) (fun y=>κ y.1 y.2) z:=by
  unfold tvec at h
  split at h
  · rename_i sz u x
    obtain ⟨y,hy,h⟩:=h
    obtain ⟨h0,h1⟩:=getV_some hy
    refine ⟨(len_sl _ _).trans h0,?_⟩
    have:(toPV (.sl sz u) x).getI ((k:Int).toNat)=some (toPV u y):=by
      rw [Int.toNat_natCast]
      exact map_get (toPV u) _ _ _ h1
    simp only [elemAt,this]
    exact OkG.owe (x:=⟨u,y⟩) h (Int.natCast_nonneg _) rfl
  · rename_i x
    obtain ⟨y,hy,h⟩:=h
    obtain ⟨h0,h1⟩:=getV_some hy
    refine ⟨h0,?_⟩
    have:(toPV .bl x).getI ((k:Int).toNat)=some (u8 y):=by
      rw [Int.toNat_natCast]
      exact map_u8 _ _ _ h1
    simp only [elemAt,this]
    exact OkG.owe (x:=⟨.i .u8,_⟩) h (Int.natCast_nonneg _) rfl
  · exact h.elim
def tload (P:Program) (t:TypeId) (a:TV) (h:THp) (κ:TV→Tree α):Tree α:=match a with
  | .ro u x=>grd (fitT P t (.pv (toPV u x))) (κ (.tv u x))
  | .p l path off=>match get h l with
    | some (.cell _ c)=>tpartAt P t path off c κ
    | _=>.no
  | .pa l path off k=>match get h l with
    | some (.cell _ c)=>tpartArr P t path off k c κ
    | _=>.no
  | .pe l n sz k path off=>match get h l with
    | some (.vec _ sz' ty x)=>grd (sz == sz') (tvec ty x n k fun u y=>match AV.offAt path (.pv (toPV u y)),tat path (.tv u y) with
      | some o,some (.tv v w)=>grd (o == off&&noArr (AV.inR path (.pv (toPV u y)))&&fitT P t (.pv (toPV v w))) (κ (.tv v w))
      | _,_=>.no)
    | _=>.no
  | _=>.no
theorem tload_ok {P:Program} {t:TypeId} {a:TV} {h:THp} {κ:TV→Tree α} {z:α} (hh:(tload P t a h κ).Has z) {val:Operand→AV} {x:Operand} (hx:val x=a.er):Ok (readOp P none val (erO h) (.load t x)) κ z:=by
  unfold tload at hh
  split at hh
  · obtain ⟨hb,hh⟩:=grd_has hh
    simp only [readOp,hx,TV.er]
    exact OkG.need hb (OkG.pure hh rfl)
  · split at hh
    · rename_i hg
      simp only [readOp,hx,TV.er,getO,hg,Option.map_some,TOb.er]
      exact tpartAt_ok hh
    · exact hh.elim
  · split at hh
    · rename_i hg
      simp only [readOp,hx,TV.er,getO,hg,Option.map_some,TOb.er]
      exact tpartArr_ok hh
    · exact hh.elim
  · rename_i l n sz k path off
    split at hh
    · rename_i sz' ty y hg
      obtain ⟨hb,hk⟩:=grd_has hh
      have hb:=eq_of_beq hb
      subst hb
      obtain ⟨hl,hh⟩:=tvec_ok hk
      simp only [readOp,hx,TV.er,getO,hg,Option.map_some,TOb.er,vecAt]
      refine OkG.with (er:=fun p:(u:Ty)×El u=>toPV p.1 p.2) (κ':=fun p=>grd (fitT P t (.pv (toPV p.1 p.2))) (κ (.tv p.1 p.2))) (OkG.with hh fun e he=>?_) fun p hp=>?_
      · skip
        split at he
        · rename_i o v w h1 h2
          obtain ⟨hb,he⟩:=grd_has he
          simp only [Bool.and_eq_true] at hb
          have ha:=at_er h2
          simp only [TV.er] at ha
          simp only [h1,ha,noArr_all hb.1.2]
          exact ⟨⟨v,w⟩,[_],rfl,by rw [eq_of_beq hb.1.1]; exact rfl,by show (grd (fitT P t (.pv (toPV v w))) (κ (.tv v w))).Has z; rw [hb.2]; exact he⟩
        · exact he.elim
      · obtain ⟨hb,hp⟩:=grd_has hp
        exact OkG.need hb (OkG.owe hp hl rfl)
    · exact hh.elim
  · exact hh.elim
def fnd {β:Type} (t:Ty) (k:El t) (es:List (El t×β×Nat)):Option (β×Nat):=@findM (El t) β (decE t) k es
def putE {β:Type} (t:Ty) (k:El t) (x:β) (c:Nat) (es:List (El t×β×Nat)):Nat×List (El t×β×Nat):=@putM (El t) β (decE t) k x c es
def delE {β:Type} (t:Ty) (k:El t) (es:List (El t×β×Nat)):List (El t×β×Nat):=@delM (El t) β (decE t) k es
mutual
theorem alike_ok:∀ (t:Ty) (x y:El t),eqK t=true→PV.alike (toPV t x) (toPV t y)=true
  | .b,_,_,_=>rfl
  | .i k,_,_,_=>by simp [toPV,PV.alike]
  | .s,_,_,_=>rfl
  | .ba n,_,_,_=>by simp only [toPV,PV.alike]; exact Nat.beq_refl n
  | .wa n,_,_,_=>by simp only [toPV,PV.alike]; exact Nat.beq_refl n
  | .ag ts,x,y,h=>by simp only [toPV,PV.alike]; exact alikes_ok ts x y h
  | .sl _ _,_,_,h=>by simp [eqK] at h
  | .bl,_,_,h=>by simp [eqK] at h
  | .nat,_,_,h=>by simp [eqK] at h
theorem alikes_ok:∀ (ts:List Ty) (x y:Els ts),eqKs ts=true→PV.alikes (toPVs ts x) (toPVs ts y)=true
  | [],_,_,_=>rfl
  | t::ts,x,y,h=>by
    simp only [eqKs,Bool.and_eq_true] at h
    simp only [toPVs,PV.alikes,alike_ok t _ _ h.1,alikes_ok ts _ _ h.2]
end
theorem key_ok {t:Ty} (h:eqK t=true):@KeyOK (El t) (decE t) (toPV t):=fun a b=>by
  unfold keyEq
  rw [alike_ok t a b h]
  simp only
  rw [eqb_ok t a b h]
  congr 1
  cases he:eqE t a b with
  | true=>exact (@decide_eq_true _ (decE t a b) ((eqE_iff t a b).1 he)).symm
  | false=>exact (@decide_eq_false _ (decE t a b) (fun e=>by rw [(eqE_iff t a b).2 e] at he; cases he)).symm
theorem fnd_none {kt vt:Ty} (h:eqK kt=true) {k:El kt} {es:List (El kt×El vt×Nat)} (hf:fnd kt k es=none):mapFind (toPV kt k) (erM es)=some none:=@findM_none _ _ (decE kt) _ _ (key_ok h) _ _ hf
theorem fnd_some {kt vt:Ty} (h:eqK kt=true) {k:El kt} {es:List (El kt×El vt×Nat)} {e:El vt×Nat} (hf:fnd kt k es=some e):mapFind (toPV kt k) (erM es)=some (some (.pv (toPV vt e.1),e.2)):=@findM_some _ _ (decE kt) _ _ (key_ok h) _ _ _ hf
theorem put_er {kt vt:Ty} (h:eqK kt=true) (k:El kt) (x:El vt) (c:Nat) (es:List (El kt×El vt×Nat)):mapPut (toPV kt k) (.pv (toPV vt x)) c (erM es)=some ((putE kt k x c es).1,erM (putE kt k x c es).2):=@putM_ok _ _ (decE kt) (toPV kt) (fun x=>AV.pv (toPV vt x)) (key_ok h) k x c es
theorem del_er {kt vt:Ty} (h:eqK kt=true) (k:El kt) (es:List (El kt×El vt×Nat)):mapDel (toPV kt k) (erM es)=some (erM (delE kt k es)):=@delM_ok _ _ (decE kt) (toPV kt) (fun x=>AV.pv (toPV vt x)) (key_ok h) k es
theorem atM_er {kt vt:Ty} {born:Int} {x:El vt} {es es':List (El kt×El vt×Nat)} (h:atM born x es=some es'):mapAt born (.pv (toPV vt x)) (erM es)=some (erM es'):=@atM_ok _ _ (toPV kt) (fun x=>AV.pv (toPV vt x)) _ _ _ _ h
def asTy (t:Ty) (x:TV):Option (El t):=match x.isPure with
  | some ⟨u,y⟩=>cast? u t y
  | none=>none
theorem asTy_er {t:Ty} {x:TV} {y:El t} (h:asTy t x=some y):x.er=.pv (toPV t y):=by
  unfold asTy at h
  split at h
  · rename_i h1; rw [isPure_er h1,cast?_pv h]
  · simp at h
def tlookup (P:Program) (t:TypeId) (m k:TV) (commaOk:Bool) (h:THp) (κ:TV→Tree α):Tree α:=match kindOf P t,m with
  | some (.map kt e),.m l=>match get h l with
    | some (.map _ ky vt es)=>match asTy ky k,tzeroOf P e with
      | some x, some z => grd (fitT P kt (.pv (toPV ky x)) && eqT P 30 kt && eqK ky) (.opt (fnd ky x es)
          (κ (match commaOk with | true=>.tup [z,.bc false] | false=>z))
          fun v=>κ (match commaOk with | true=>.tup [.tv vt v.1,.bc true] | false=>.tv vt v.1))
      | _,_=>.no
    | _=>.no
  | _,_=>.no
theorem tlookup_ok {P:Program} {t:TypeId} {m k:TV} {ok:Bool} {h:THp} {κ:TV→Tree α} {z:α} (hh:(tlookup P t m k ok h κ).Has z) {val:Operand→AV} {a b:Operand} (ha:val a=m.er) (hb:val b=k.er):Ok (readOp P none val (erO h) (.lookup t a b ok)) κ z:=by
  unfold tlookup at hh
  split at hh
  · rename_i kt e l hk
    split at hh
    · rename_i ky vt es hg
      split at hh
      · rename_i x w h1 h2
        obtain ⟨hc,hh⟩:=grd_has hh
        simp only [Bool.and_eq_true] at hc
        simp only [readOp,ha,hb,hk,TV.er,asTy_er h1,getO,hg,Option.map_some,TOb.er]
        refine OkG.need (by simp only [Bool.and_eq_true]; exact hc.1) ?_
        rcases hh with ⟨hf,hh⟩ | ⟨v,hf,hh⟩
        · simp only [findO,fnd_none hc.2 hf,ofO,pure0,R.with,tzeroOf_ok h2]
          refine ⟨_,[],?_,trivial,hh⟩
          cases ok<;>rfl
        · simp only [findO,fnd_some hc.2 hf,ofO,pure0,R.with]
          cases ok
          · exact ⟨_,[],rfl,trivial,hh⟩
          · exact ⟨_,[],rfl,trivial,hh⟩
      · exact hh.elim
    · exact hh.elim
  · exact hh.elim
def treadOp (P:Program) (val:Operand→TV) (h:THp):Op→(TV→Tree α)→Tree α
  | .load t a,κ=>tload P t (val a) h κ
  | .lookup t m k ok,κ=>tlookup P t (val m) (val k) ok h κ
  | .call c,κ=>match c.callee with
    | .builtin .len=>match c.argTypes.toList,c.args.toList with
      | [t],[x]=>match kindOf P t,val x with
        | some (.map _ _),.m l=>match get h l with
          | some (.map _ kt vt es)=>κ (.tv (.i .i64) ((List.length (α:=El kt×El vt×Nat) es:Nat):Int))
          | _=>.no
        | _,_=>.no
      | _,_=>.no
    | _=>.no
  | _,_=>.no
theorem len_erM {kt vt:Ty} (es:List (El kt×El vt×Nat)):(erM es).length=es.length:=by unfold erM encM; rw [List.length_map]
theorem treadOp_ok {P:Program} {mk:Bool} {an:Option Ans} {val:Operand→TV} {h:THp} {κ:TV→Tree α} {z:α}:∀ {o:Op},(treadOp P val h o κ).Has z→pureOp P mk none (erV val) o=none∧Ok (readOp P none (erV val) (erO h) o) κ z:=by
  intro o hh
  cases o<;>simp only [treadOp] at hh<;>try (exact hh.elim)
  case load=>exact ⟨rfl,tload_ok hh rfl⟩
  case lookup=>exact ⟨rfl,tlookup_ok hh rfl rfl⟩
  case call c=>
    split at hh
    · rename_i hc
      split at hh
      · rename_i h1 h2
        split at hh
        · rename_i hk hx
          split at hh
          · rename_i hg
            simp only [pureOp,readOp,hc,h1,h2,List.map_cons,List.map_nil,hk,erV,hx,TV.er,getO,hg,Option.map_some,TOb.er,true_and]
            exact OkG.pure hh (by rw [len_erM]; rfl)
          · exact hh.elim
        · exact hh.elim
      · exact hh.elim
    · exact hh.elim
end Go.Rx
end
noncomputable section
namespace Go.Rx
variable {α β γ:Type} [CT]
def erW (x:TV×THp):Out×Ob:=(.ret x.1.er,erO x.2)
abbrev OkW (r:R (Out×Ob)) (κ:TV→THp→Tree α) (z:α):Prop:=OkG r erW (fun x=>κ x.1 x.2) z
theorem OkW.mk {r:R (Out×Ob)} {κ:TV→THp→Tree α} {z:α} {a:TV} {b:THp} {ps:List Prop} (h:(κ a b).Has z) (e:r=some (erW (a,b),ps)) (hp:All ps):OkW r κ z:=⟨(a,b),ps,e,hp,h⟩
theorem OkW.pure2 {κ:TV→THp→Tree α} {z:α} {a:TV} {b:THp} {y:Out×Ob} (h:(κ a b).Has z) (e:y=erW (a,b)):OkW (pure0 y) κ z:=OkG.pure (x:=(a,b)) h e
def tnewObj (d:Option Tmp) (lvl:Nat) (h:THp) (o:TOb) (r:Nat→TV) (κ:TV→THp→Tree α):Tree α:=match d with
  | some d=>match get h (nm lvl d 0) with
    | none=>κ (r (nm lvl d 0)) (ins (nm lvl d 0) o h)
    | some _=>.no
  | none=>.no
theorem tnewObj_ok {d:Option Tmp} {lvl:Nat} {h:THp} {o:TOb} {r:Nat→TV} {κ:TV→THp→Tree α} {z:α} {r':Nat→AV} {o':AObj} (hh:(tnewObj d lvl h o r κ).Has z) (hr:∀ l,r' l=(r l).er) (ho:o'=o.er):OkW (newObj d lvl (erO h) o' r') κ z:=by
  unfold tnewObj at hh
  split at hh
  · rename_i d'
    split at hh
    · rename_i hg
      simp only [newObj,getO,hg,Option.map_none]
      exact OkG.pure (x:=(r (nm lvl d' 0),ins (nm lvl d' 0) o h)) hh (by simp only [erW,hr,ho,insO])
    · exact hh.elim
  · exact hh.elim
def tdone (l:Nat) (o:TOb) (h:THp) (κ:TV→THp→Tree α):Tree α:=κ (.tup []) (ins l o h)
theorem tdone_ok {l:Nat} {o:TOb} {h:THp} {κ:TV→THp→Tree α} {z:α} {o':AObj} (hh:(tdone l o h κ).Has z) (ho:o'=o.er):OkW (done l o' (erO h)) κ z:=
  OkG.pure (x:=(TV.tup [],ins l o h)) hh (by simp only [erW,ho,insO]; rfl)
abbrev TSn (γ:Type):=γ×List Nat×List (Nat×Nat)
def tsnap (h:THp):TV→Option (TSn TV)
  | .v l n=>match get h l with
    | some (.vec _ _ t x)=>match lenE t x with
      | some m=>some (.tv t x,[l],[(m,n)])
      | none=>none
    | _=>none
  | .ag _=>none
  | x=>match x.isPure with
    | some ⟨t,y⟩=>some (.tv t y,[],[])
    | none=>none
theorem lenE_len {t:Ty} {x:El t} {m:Nat} (h:lenE t x=some m) (hs:t≠.s):(toPV t x).len=m:=by
  unfold lenE at h
  split at h
  · exact (hs rfl).elim
  · simp only [Option.some.injEq] at h; exact h
  · simp only [Option.some.injEq] at h; rw [← h]; exact len_sl _ _
  · simp at h
def lensOK (ps:List (Nat×Nat)):List Prop:=ps.map fun p=>p.1=p.2
mutual
def tpureT (P:Program) (h:THp):Nat→TypeId→TV→Option (TSn TV)
  | 0,_,_=>none
  | d + 1,t,x=>match x with
    | .nils=>match kindOf P t with
      | some (.slice e)=>match isU8 P e with
        | true=>some (.tv .bl ([]:List UInt8),[],[])
        | false=>match tyOf P 20 e with
          | some u=>some (.tv (.sl (szOf P e) u) ([]:List (El u)),[],[])
          | none=>none
      | _=>none
    | .v l n=>match get h l with
      | some (.vec _ _ .bl x)=>some (.tv .bl x,[l],[(List.length (α:=UInt8) x,n)])
      | some (.vec _ _ (.sl sz u) x)=>some (.tv (.sl sz u) x,[l],[(List.length (α:=El u) x,n)])
      | _=>none
    | .ag xs=>match kindOf P t with
      | some (.struct fs)=>match tpureTs P h d (fs.map (·.1)) xs with
        | some (ys,a,ps)=>some (TV.mk ys,a,ps)
        | none=>none
      | _=>some (.ag xs,[],[])
    | x=>some (x,[],[])
def tpureTs (P:Program) (h:THp):Nat→List TypeId→List TV→Option (TSn (List TV))
  | 0,_,_=>none
  | d + 1,t::ts,x::xs=>match tpureT P h d t x,tpureTs P h d ts xs with
    | some (y,a,ps),some (ys,b,qs)=>some (y::ys,a++b,ps++qs)
    | _,_=>none
  | _ + 1,[],[]=>some ([],[],[])
  | _ + 1,_,_=>none
end
def LensOK (ps:List (Nat×Nat)):Prop:=∀ p∈ps,p.1=p.2
theorem LensOK.app {ps qs:List (Nat×Nat)} (h:LensOK (ps++qs)):LensOK ps∧LensOK qs:=⟨fun p hp=>h p (by simp [hp]),fun p hp=>h p (by simp [hp])⟩
theorem emptyT_er {P : Program} {e : TypeId} {x : TV} (h : (match isU8 P e with
        | true=>some ((TV.tv .bl ([]:List UInt8),([]:List Nat),([]:List (Nat×Nat))))
        | false=>match tyOf P 20 e with
          | some u=>some (.tv (.sl (szOf P e) u) ([]:List (El u)),[],[])
          | none=>none)=some (x,[],[])):x.er=.pv (emptySeq P e):=by
  unfold emptySeq
  split at h
  · rename_i h8
    simp only [Option.some.injEq,Prod.mk.injEq,and_true] at h
    subst h
    rw [h8]; rfl
  · rename_i h8
    split at h
    · simp only [Option.some.injEq,Prod.mk.injEq,and_true] at h
      subst h
      rw [h8]; rfl
    · simp at h
mutual
theorem tpureT_ok {P:Program} {h:THp}:∀ (d:Nat) (t:TypeId) (x y:TV) (a:List Nat) (ps:List (Nat×Nat)),tpureT P h d t x=some (y,a,ps)→LensOK ps→∃ qs,pureT P (erO h) d t x.er=some (y.er,a,qs)∧All qs
  | 0,_,_,_,_,_,hs,_=>by simp [tpureT] at hs
  | d + 1,t,x,y,a,ps,hs,hl=>by
    cases x<;>simp only [tpureT] at hs
    case nils=>
      split at hs
      · rename_i e hk
        have key:∀ {w:TV},(match isU8 P e with
          | true=>some ((TV.tv .bl ([]:List UInt8),([]:List Nat),([]:List (Nat×Nat))))
          | false=>match tyOf P 20 e with
            | some u=>some (.tv (.sl (szOf P e) u) ([]:List (El u)),[],[])
            | none=>none)=some (y,a,ps)→a=[]∧ps=[]:=by
          intro w h
          split at h
          · simp only [Option.some.injEq,Prod.mk.injEq] at h; exact ⟨h.2.1.symm,h.2.2.symm⟩
          · split at h
            · simp only [Option.some.injEq,Prod.mk.injEq] at h; exact ⟨h.2.1.symm,h.2.2.symm⟩
            · simp at h
        obtain ⟨rfl,rfl⟩:=key (w:=.undef) hs
        exact ⟨[],by simp only [TV.er,pureT,hk,emptyT_er hs],trivial⟩
      · simp at hs
    case v l n=>
      split at hs
      · rename_i fz sz x hg
        simp only [Option.some.injEq,Prod.mk.injEq] at hs
        obtain ⟨rfl,rfl,rfl⟩:=hs
        have:=hl _ (List.mem_singleton.2 rfl)
        exact ⟨[_],by simp only [TV.er,pureT,snap,getO,hg,Option.map_some,TOb.er]; rfl,this⟩
      · rename_i fz sz sz' u x hg
        simp only [Option.some.injEq,Prod.mk.injEq] at hs
        obtain ⟨rfl,rfl,rfl⟩:=hs
        have:=hl _ (List.mem_singleton.2 rfl)
        exact ⟨[_],by simp only [TV.er,pureT,snap,getO,hg,Option.map_some,TOb.er]; rfl,(len_sl _ _).trans this⟩
      · simp at hs
    case ag xs=>
      split at hs
      · rename_i fs hk
        split at hs
        · rename_i ys b qs h1
          simp only [Option.some.injEq,Prod.mk.injEq] at hs
          obtain ⟨rfl,rfl,rfl⟩:=hs
          obtain ⟨rs,h2,h3⟩:=tpureTs_ok d _ _ _ _ _ h1 hl
          exact ⟨rs,by simp only [TV.er,pureT,hk,h2,mk_er],h3⟩
        · simp at hs
      · rename_i hno
        simp only [Option.some.injEq,Prod.mk.injEq] at hs
        obtain ⟨rfl,rfl,rfl⟩:=hs
        refine ⟨[],?_,trivial⟩
        simp only [TV.er,pureT]
    all_goals
      simp only [Option.some.injEq,Prod.mk.injEq] at hs
      obtain ⟨rfl,rfl,rfl⟩:=hs
      exact ⟨[],by simp only [TV.er,pureT],trivial⟩
theorem tpureTs_ok {P:Program} {h:THp}:∀ (d:Nat) (ts:List TypeId) (xs ys:List TV) (a:List Nat) (ps:List (Nat×Nat)),tpureTs P h d ts xs=some (ys,a,ps)→LensOK ps→∃ qs,pureTs P (erO h) d ts (TV.ers xs)=some (TV.ers ys,a,qs)∧All qs
  | 0,_,_,_,_,_,hs,_=>by simp [tpureTs] at hs
  | d + 1,[],[],ys,a,ps,hs,hl=>by
    simp only [tpureTs,Option.some.injEq,Prod.mk.injEq] at hs
    obtain ⟨rfl,rfl,rfl⟩:=hs
    exact ⟨[],rfl,trivial⟩
  | d + 1,t::ts,x::xs,ys,a,ps,hs,hl=>by
    simp only [tpureTs] at hs
    split at hs
    · rename_i y a1 ps1 ys1 b1 qs1 h1 h2
      simp only [Option.some.injEq,Prod.mk.injEq] at hs
      obtain ⟨rfl,rfl,rfl⟩:=hs
      obtain ⟨hl1,hl2⟩:=hl.app
      obtain ⟨r1,e1,g1⟩:=tpureT_ok d t x y a1 ps1 h1 hl1
      obtain ⟨r2,e2,g2⟩:=tpureTs_ok d ts xs ys1 b1 qs1 h2 hl2
      exact ⟨r1++r2,by simp only [TV.ers,pureTs,e1,e2],g1.app g2⟩
    · simp at hs
  | d + 1,[],_::_,_,_,_,hs,_=>by simp [tpureTs] at hs
  | d + 1,_::_,[],_,_,_,hs,_=>by simp [tpureTs] at hs
end
def tfzObj:TOb→TOb
  | .vec _ sz t x=>.vec true sz t x
  | o=>o
def tfreeze:List Nat→THp→THp
  | [],h=>h
  | l::r,h=>match get h l with
    | some o=>tfreeze r (ins l (tfzObj o) h)
    | none=>tfreeze r h
theorem fzObj_er (o:TOb):(tfzObj o).er=fzObj o.er:=by cases o<;>rfl
theorem freezeO:∀ (fz:List Nat) (h:THp),erO (tfreeze fz h)=freeze fz (erO h)
  | [],h=>rfl
  | l::r,h=>by
    simp only [tfreeze,freeze,getO]
    cases hg:get h l with
    | none=>simp only [Option.map_none]; exact freezeO r h
    | some o=>simp only [Option.map_some]; rw [freezeO r,insO,fzObj_er]
def chkLens:List (Nat×Nat)→Tree α→Tree α
  | [],t=>t
  | p::ps,t=>.chk (p.1=p.2) (chkLens ps t)
theorem chkLens_ok:∀ {ps:List (Nat×Nat)} {t:Tree α} {z:α},(chkLens ps t).Has z→LensOK ps∧t.Has z
  | [],t,z,h=>⟨fun _ hp=>by simp at hp,h⟩
  | p::ps,t,z,h=>by
    obtain ⟨h1,h2⟩:=chkLens_ok h.2
    exact ⟨fun q hq=>by
      rcases List.mem_cons.1 hq with rfl | hq
      · exact h.1
      · exact h1 q hq,h2⟩
end Go.Rx
end
noncomputable section
namespace Go.Rx
variable {α β γ:Type} [CT]
def tpureAll (P:Program) (h:THp) (e:TypeId) (vals:List TV) (κ:TV→THp→Tree α):Tree α:=match closedB (AV.namesL (TV.ers vals)) (erO h)&&(TV.ers vals).all AV.solid with
  | true=>match tpureTs P h 30 (vals.map fun _=>e) vals with
    | some (rs,fz,ps)=>chkLens ps (tseqOf P e rs fun u y=>κ (.tv u y) (tfreeze fz h))
    | none=>.no
  | false=>.no
theorem tpureAll_ok {P : Program} {h : THp} {e : TypeId} {vals : List TV} {κ : TV → THp → Tree α} {z : α} (hh : (tpureAll P h e vals κ).Has z) :
    ∃ x h' ps,pureAll P none (erO h) e (TV.ers vals)=some ((x,erO h'),ps)∧All ps∧∃ tv:TV,tv.er=.pv x∧(κ tv h').Has z:=by
  unfold tpureAll at hh
  split at hh
  · rename_i hc
    split at hh
    · rename_i rs fz ps h1
      obtain ⟨hl,hh⟩:=chkLens_ok hh
      obtain ⟨qs,h2,h3⟩:=tpureTs_ok _ _ _ _ _ _ h1 hl
      obtain ⟨ys,h4,⟨y,ps',h5,h6,h7⟩⟩:=tseqOf_ok hh
      refine ⟨_,_,_,?_,h3.app h6,.tv y.1 y.2,rfl,h7⟩
      unfold pureAll
      rw [hc]
      have:(TV.ers vals).map (fun _=>e)=vals.map fun _=>e:=by rw [ers_map,List.map_map]; rfl
      simp only [this,h2,h4,h5,freezeO]
    · exact hh.elim
  · exact hh.elim
def tbuildVec (P:Program) (t:TypeId) (n:Nat) (parts:List (Nat×Operand)) (sz:Nat) (lvl:Nat) (d:Option Tmp) (vals:List TV) (h:THp) (κ:TV→THp→Tree α):Tree α:=match kindOf P t with
  | some (.slice e)=>grd (dense 0 parts&&n == sz&&n * szOf P e≤16777216&&zeroKnown P e) (match asEls vals with
    | some _=>grd (Nat.blt 0 (szOf P e)) (tseqOf P e vals fun u y=>tnewObj d lvl h (.vec false (szOf P e) u y) (fun l=>.v l n) κ)
    | none=>tpureAll P h e vals κ)
  | _=>.no
theorem tbuildVec_ok {P : Program} {t : TypeId} {n : Nat} {parts : Array (Nat × Operand)} {lvl : Nat} {d : Option Tmp} {val : Operand → TV} {h : THp} {κ : TV → THp → Tree α} {z : α}
    (hh:(tbuildVec P t n parts.toList parts.size lvl d (parts.toList.map fun q=>val q.2) h κ).Has z):OkW (writeOp P lvl d none (erV val) (erO h) (.buildSlice t n parts)) κ z:=by
  unfold tbuildVec at hh
  split at hh
  · rename_i e hk
    obtain ⟨hc,hh⟩:=grd_has hh
    simp only [writeOp,hk]
    refine OkG.need hc ?_
    have hv:(parts.toList.map fun q=>erV val q.2)=TV.ers (parts.toList.map fun q=>val q.2):=by rw [ers_map2]; rfl
    rw [hv]
    split at hh
    · rename_i r h1
      obtain ⟨ts,ys⟩:=r
      obtain ⟨hc2,hh⟩:=grd_has hh
      obtain ⟨ys',h4,h5⟩:=tseqOf_ok hh
      rw [h4]
      exact OkG.need hc2 (OkG.with h5 fun x hx=>tnewObj_ok hx (fun _=>rfl) rfl)
    · rename_i h1
      rw [asEls_none h1]
      obtain ⟨x,h',ps,h2,h3,tv,h4,h5⟩:=tpureAll_ok hh
      simp only [h2]
      exact ⟨(tv,h'),ps,by simp only [erW,h4],h3,h5⟩
  · exact hh.elim
def mkOK (n c:Int) (b:Nat):Prop:=n=c∧0≤n∧n.toNat * b≤maxBytes
instance (n c:Int) (b:Nat):Decidable (mkOK n c b):=by unfold mkOK; infer_instance
def tmakeSlice (P:Program) (t:TypeId) (n c:TV) (lvl:Nat) (d:Option Tmp) (h:THp) (κ:TV→THp→Tree α):Tree α:=match kindOf P t,tint n,tint c with
  | some (.slice e),some (.i64,n),some (.i64,c)=>match (tzeroOf P e).bind TV.isPure with
    | some ⟨u, y⟩ => grd (Nat.blt 0 (szOf P e) && Nat.blt 0 (bytesOf P e) && emptyOK P e) (.chk (mkOK n c (bytesOf P e))
        (match isU8 P e with
          | true=>tnewObj d lvl h (.vec false (szOf P e) .bl (List.replicate n.toNat (0:UInt8))) (fun l=>.v l (List.replicate n.toNat (0:UInt8)).length) κ
          | false=>tnewObj d lvl h (.vec false (szOf P e) (.sl (szOf P e) u) (List.replicate n.toNat y)) (fun l=>.v l (List.replicate n.toNat y).length) κ))
    | none=>.no
  | _,_,_=>.no
theorem tmakeSlice_ok {P : Program} {t : TypeId} {n c : TV} {lvl : Nat} {d : Option Tmp} {h : THp} {κ : TV → THp → Tree α} {z : α} (hh : (tmakeSlice P t n c lvl d h κ).Has z) {val : Operand → AV} {a b : Operand} (ha : val a = n.er) (hb : val b = c.er) :
    ∃ an,OkW (writeOp P lvl d an val (erO h) (.makeSlice t a b)) κ z:=by
  unfold tmakeSlice at hh
  split at hh
  · rename_i e n' c' hk h1 h2
    split at hh
    · rename_i u y h3
      cases hz:tzeroOf P e with
      | none=>rw [hz] at h3; simp at h3
      | some w=>
        rw [hz] at h3
        simp only [Option.bind_some] at h3
        obtain ⟨hc,hh⟩:=grd_has hh
        obtain ⟨hm,hh⟩:=hh
        refine ⟨some (.nat n'.toNat),?_⟩
        have hzz:=tzeroOf_ok hz
        rw [isPure_er h3] at hzz
        simp only [writeOp,ha,hb,tint_er h1,tint_er h2,hk,hzz]
        refine OkG.need hc (OkG.with (κ':=fun _:Unit=>_) (er:=id) (OkG.owe (x:=()) (z:=z) hh ⟨by have:=hm.2.1; omega,by have:=hm.2.1; have:=hm.1; omega,hm.2.2⟩ rfl) fun _ hx=>?_)
        split at hx
        · rename_i h8
          simp only [h8]
          exact tnewObj_ok hx (fun _=>by rw [List.length_replicate]; rfl) rfl
        · rename_i h8
          simp only [h8]
          exact tnewObj_ok hx (fun _=>by rw [List.length_replicate]; rfl) (by simp only [TOb.er,toPV]; rw [List.map_replicate])
    · exact hh.elim
  · exact hh.elim
theorem tsetAt_inR:∀ {p:List Nat} {x y:TV} {κ:TV→Tree α} {z:α},(tsetAt p x y κ).Has z→All (AV.inR p x.er)
  | [],x,y,κ,z,h=>trivial
  | k::r,x,y,κ,z,h=>by
    simp only [tsetAt] at h
    split at h
    · rename_i xs hc
      split at h
      · rename_i w hw
        have ih:=tsetAt_inR h
        rcases comps_er hc with ⟨ys,he,hy⟩ | he
        · have h1:(ys.map AV.pv)[k]?=some w.er:=by rw [hy,List.getElem?_map,hw]; rfl
          rw [List.getElem?_map] at h1
          cases hk:ys[k]? with
          | none=>rw [hk] at h1; simp at h1
          | some u=>
            rw [hk] at h1
            simp only [Option.map_some,Option.some.injEq] at h1
            rw [he]
            simp only [AV.inR,hk,h1]
            exact ih
        · rw [he]
          have h1:(TV.ers xs)[k]?=some w.er:=by rw [ers_map,List.getElem?_map,hw]; rfl
          simp only [AV.inR,h1]
          exact ih
      · exact h.elim
    · split at h
      · obtain ⟨w,hw,c,ps,h1,h2,h3⟩:=tbyte_ok h
        exact h3.1
      · obtain ⟨w,hw,c,ps,h1,h2,h3⟩:=tword_ok h
        exact h3.1
      · exact h.elim
theorem oweAll_with {δ:Type} {ps:List Prop} {f:Unit→R δ} {er:γ→δ} {κ:γ→Tree α} {z:α} (hp:All ps) (h:OkG (f ()) er κ z):OkG ((oweAll ps).with f) er κ z:=by
  obtain ⟨x,qs,h1,h2,h3⟩:=h
  exact ⟨x,ps++qs,by simp only [oweAll,R.with,h1],hp.app h2,h3⟩
def vecOK (m n k:Nat):Prop:=m=n∧k < n
instance (m n k:Nat):Decidable (vecOK m n k):=by unfold vecOK; infer_instance
def tstoreVec (t:Ty) (x:El t) (n k:Nat) (path:List Nat) (off:Nat) (y:TV) (κ:El t→Tree α):Tree α:=match t,x with
  | .bl,x=>match path with
    | []=>grd (off == 0) (.chk (vecOK (List.length (α:=UInt8) x) n k) (tbyte y fun c=>κ (List.set (α:=UInt8) x k c)))
    | _=>.no
  | .sl sz u,x=>match path with
    | []=>match asTy u y with
      | some w=>grd (off == 0&&(toPV u w).size == sz) (.chk (vecOK (List.length (α:=El u) x) n k) (κ (List.set (α:=El u) x k w)))
      | none=>.no
    | f::r=>.bind (getV (β:=El u) x n k) fun e=>match AV.offAt (f::r) (.pv (toPV u e)),tat (f::r) (.tv u e) with
      | some o,some w=>grd (o == off&&w.er.size == y.er.size&&noArr (AV.inR (f::r) (.pv (toPV u e)))&&y.isPure.isSome) (tsetAt (f::r) (.tv u e) y fun e'=>match asTy u e' with
        | some w'=>grd ((toPV u w').size == sz) (κ (List.set (α:=El u) x k w'))
        | none=>.no)
      | _,_=>.no
  | _,_=>.no
def tstore (P:Program) (t:TypeId) (a x:TV) (h:THp) (κ:TV→THp→Tree α):Tree α:=match a with
  | .p l path off=>match get h l with
    | some (.cell false c)=>match AV.offAt path c.er,tat path c with
      | some o,some y=>grd (o == off&&fitT P t x.er&&y.er.size == x.er.size) (tsetAt path c x fun c'=>tdone l (.cell false c') h κ)
      | _,_=>.no
    | _=>.no
  | .pa l path off k=>match get h l with
    | some (.cell false c)=>match AV.offAt path c.er,(tat path c).bind fun x=>arrPV x.er,AV.at (path++[k]) c.er with
      | some o,some _,some y=>grd (o == off&&fitT P t x.er&&y.size == x.er.size) (tsetAt (path++[k]) c x fun c'=>tdone l (.cell false c') h κ)
      | _,_,_=>.no
    | _=>.no
  | .pe l n sz k path off=>match get h l with
    | some (.vec false sz' u y)=>grd (sz == sz'&&fitT P t x.er&&(path.isEmpty == false||x.er.size == sz)) (tstoreVec u y n k path off x fun y'=>tdone l (.vec false sz u y') h κ)
    | _=>.no
  | _=>.no
theorem set_map {u:Ty} (xs:List (El u)) (k:Nat) (w:El u):(xs.map (toPV u)).set k (toPV u w)=(xs.set k w).map (toPV u):=by rw [List.map_set]
theorem tstore_ok {P:Program} {t:TypeId} {a x:TV} {h:THp} {κ:TV→THp→Tree α} {z:α} (hh:(tstore P t a x h κ).Has z) {lvl:Nat} {d:Option Tmp} {val:Operand→AV} {a' x':Operand} (ha:val a'=a.er) (hx:val x'=x.er):OkW (writeOp P lvl d none val (erO h) (.store t a' x')) κ z:=by
  unfold tstore at hh
  split at hh
  · rename_i l path off
    split at hh
    · rename_i c hg
      split at hh
      · rename_i o y h1 h2
        obtain ⟨hc,hh⟩:=grd_has hh
        simp only [writeOp,ha,hx,TV.er,getO,hg,Option.map_some,TOb.er,h1,at_er h2]
        exact OkG.need hc (oweAll_with (tsetAt_inR hh) (OkG.with (tsetAt_ok hh) fun c' hc'=>tdone_ok hc' rfl))
      · exact hh.elim
    · exact hh.elim
  · rename_i l path off k
    split at hh
    · rename_i c hg
      split at hh
      · rename_i o n y h1 h2 h3
        obtain ⟨hc,hh⟩:=grd_has hh
        cases hq:tat path c with
        | none=>rw [hq] at h2; simp at h2
        | some q=>
          rw [hq] at h2
          simp only [Option.bind_some] at h2
          have:=offAt_app (k:=k) h2 (at_er hq) h1
          simp only [writeOp,ha,hx,TV.er,getO,hg,Option.map_some,TOb.er,this,h3]
          simp only [Bool.and_eq_true] at hc
          refine OkG.need ?_ (oweAll_with (tsetAt_inR hh) (OkG.with (tsetAt_ok hh) fun c' hc'=>tdone_ok hc' rfl))
          simp only [Bool.and_eq_true]
          exact ⟨⟨by rw [eq_of_beq hc.1.1]; exact beq_self_eq_true _,hc.1.2⟩,hc.2⟩
      · exact hh.elim
    · exact hh.elim
  · rename_i l n sz k path off
    split at hh
    · rename_i sz' u y hg
      obtain ⟨hc,hs⟩:=grd_has hh
      simp only [Bool.and_eq_true,Bool.or_eq_true] at hc
      have hsz:=eq_of_beq hc.1.1
      subst hsz
      unfold tstoreVec at hs
      split at hs
      · rename_i y
        split at hs
        · obtain ⟨ho,hs⟩:=grd_has hs
          have ho:=eq_of_beq ho
          subst ho
          obtain ⟨hv,hs⟩:=hs
          obtain ⟨w,hw,hs⟩:=tbyte_ok hs
          simp only [writeOp,ha,hx,TV.er,getO,hg,Option.map_some,TOb.er,hw,toPV]
          rw [hw] at hc
          refine OkG.need (by simp only [Bool.and_eq_true]; exact ⟨hc.1.2,hc.2.resolve_left (by simp)⟩) (oweAll_with (ps:=[_,_,_]) ⟨hv.1,hv.2,rfl⟩ ?_)
          simp only [setSeq]
          exact OkG.with (OkG.with hs fun c hc=>OkG.pure (x:=List.set (α:=UInt8) y k c) (er:=fun c=>PV.bl c) (κ:=fun c=>tdone l (.vec false sz .bl c) h κ) hc rfl) fun c hc=>tdone_ok hc rfl
        · exact hs.elim
      · rename_i szz uu y
        split at hs
        · split at hs
          · rename_i w hw
            obtain ⟨ho,hs2⟩:=grd_has hs
            simp only [Bool.and_eq_true] at ho
            have ho1:=eq_of_beq ho.1
            clear hs hh
            subst ho1
            obtain ⟨hv,hs⟩:=hs2
            simp only [writeOp,ha,hx,TV.er,getO,hg,Option.map_some,TOb.er,asTy_er hw,toPV]
            rw [asTy_er hw] at hc
            refine OkG.need (by simp only [Bool.and_eq_true]; exact ⟨hc.1.2,hc.2.resolve_left (by simp)⟩) (oweAll_with (ps:=[_,_,_]) ⟨(len_sl _ _).trans hv.1,hv.2,rfl⟩ ?_)
            simp only [setSeq]
            refine OkG.with (OkG.need ho.2 (OkG.pure (x:=List.set (α:=El uu) y k w) (er:=fun c=>PV.l szz (List.map (toPV uu) c)) (κ:=fun c=>tdone l (.vec false sz (.sl szz uu) c) h κ) hs ?_)) fun c hc=>tdone_ok hc rfl
            exact congrArg _ (set_map _ _ _)
          · exact hs.elim
        · rename_i f r
          obtain ⟨e,he,hs⟩:=hs
          obtain ⟨hv1,hv2⟩:=getV_some he
          dsimp only at hs
          split at hs
          · rename_i o w h1 h2
            obtain ⟨ho,hs2⟩:=grd_has hs
            simp only [Bool.and_eq_true] at ho
            have ho1:=eq_of_beq ho.1.1.1
            clear hs hh
            subst ho1
            have hs:=hs2
            clear hs2
            cases hp:x.isPure with
            | none=>rw [hp] at ho; simp at ho
            | some q=>
            obtain ⟨ux,vx⟩:=q
            have hxe:=isPure_er hp
            have h2':=at_er h2
            simp only [TV.er] at h2'
            have hel:(toPV (.sl szz uu) y).getI ((k:Int).toNat)=some (toPV uu e):=by
              rw [Int.toNat_natCast]
              exact map_get (toPV uu) _ _ _ hv2
            rw [hxe] at hc
            simp only [toPV] at hel
            simp only [writeOp,ha,hx,TV.er,getO,hg,Option.map_some,TOb.er,hxe,toPV,elemAt,hel,h1,h2']
            refine OkG.with (κ':=fun _:Unit=>_) (er:=fun _=>toPV uu e) (OkG.owe (x:=()) (z:=z) hs (Int.natCast_nonneg _) rfl) fun _ hs=>?_
            simp only [h1,h2']
            rw [hxe] at ho
            refine OkG.need (by simp only [Bool.and_eq_true]; exact ⟨hc.1.2,ho.1.1.2⟩) (oweAll_with (ps:=[_,_]) ⟨(len_sl _ _).trans hv1,trivial⟩ ?_)
            have hin:=tsetAt_inR hs
            simp only [TV.er] at hin
            refine oweAll_with hin ?_
            have:=tsetAt_ok hs
            simp only [TV.er,hxe] at this
            refine OkG.with this fun c' hc'=>?_
            split at hc'
            · rename_i w' hw'
              obtain ⟨hz,hc'⟩:=grd_has hc'
              rw [asTy_er hw']
              simp only [setSeq]
              refine OkG.with (OkG.need hz (OkG.pure (x:=List.set (α:=El uu) y k w') (er:=fun c=>PV.l szz (List.map (toPV uu) c)) (κ:=fun c=>tdone l (.vec false sz (.sl szz uu) c) h κ) hc' ?_)) fun c hc=>tdone_ok hc rfl
              exact congrArg _ (set_map _ _ _)
            · exact hc'.elim
          · exact hs.elim
      · exact hs.elim
    · exact hh.elim
  · exact hh.elim
end Go.Rx
end
noncomputable section
namespace Go.Rx
variable {α β γ:Type} [CT]
theorem OkG.withp {δ ε:Type} {er:γ→ε} {κ:γ→Tree α} {z:α} {x:δ} {f:δ→R ε} (h:OkG (f x) er κ z):OkG ((pure0 x).with f) er κ z:=by
  obtain ⟨y,ps,h1,h2,h3⟩:=h
  exact ⟨y,ps,by simp only [pure0,R.with,h1,List.nil_append],h2,h3⟩
def tmapPut (P:Program) (t:TypeId) (m k x:TV) (h:THp) (κ:TV→THp→Tree α):Tree α:=match kindOf P t,m with
  | some (.map kt e),.m l=>match get h l with
    | some (.map c ky vt es)=>match asTy ky k,asTy vt x with
      | some k',some y=>grd (fitT P kt (.pv (toPV ky k'))&&eqT P 30 kt&&fitT P e x.er&&eqK ky) (tdone l (.map (putE ky k' y c es).1 ky vt (putE ky k' y c es).2) h κ)
      | _,_=>.no
    | _=>.no
  | _,_=>.no
theorem tmapPut_ok {P : Program} {t : TypeId} {m k x : TV} {h : THp} {κ : TV → THp → Tree α} {z : α} (hh : (tmapPut P t m k x h κ).Has z) {lvl : Nat} {d : Option Tmp} {val : Operand → AV} {a b c : Operand} (ha : val a = m.er) (hb : val b = k.er) (hx : val c = x.er) :
    OkW (writeOp P lvl d none val (erO h) (.mapUpdate t a b c)) κ z∧OkW (writeOp P lvl d none val (erO h) (.insert t a b c)) κ z:=by
  unfold tmapPut at hh
  split at hh
  · rename_i kt e l hk
    split at hh
    · rename_i c ky vt es hg
      split at hh
      · rename_i k' y h1 h2
        obtain ⟨hc,hh⟩:=grd_has hh
        simp only [Bool.and_eq_true] at hc
        have hb':(fitT P kt (.pv (toPV ky k'))&&eqT P 30 kt&&fitT P e (.pv (toPV vt y))&&true)=true:=by
          have:=hc.1.2; rw [asTy_er h2] at this
          simp only [Bool.and_eq_true,and_true]; exact ⟨hc.1.1,this⟩
        simp only [writeOp,ha,hb,hx,hk,TV.er,asTy_er h1,asTy_er h2,getO,hg,Option.map_some,TOb.er,AV.isPV,putO,put_er hc.2,ofO]
        exact ⟨OkG.need hb' (OkG.withp (tdone_ok hh rfl)),OkG.need hb' (OkG.withp (tdone_ok hh rfl))⟩
      · exact hh.elim
    · exact hh.elim
  · exact hh.elim
def tmapEntry (P:Program) (t:TypeId) (m k:TV) (h:THp) (κ:TV→THp→Tree α):Tree α:=match kindOf P t,m with
  | some (.map kt e),.m l=>match get h l with
    | some (.map c ky vt es)=>match asTy ky k,(tzeroOf P e).bind (asTy vt) with
      | some k', some w => grd (fitT P kt (.pv (toPV ky k')) && eqT P 30 kt && eqK ky) (.opt (fnd ky k' es)
          (κ (.tup [.tv vt w,.tv (.i .i64) ((c:Nat):Int)]) (ins l (.map (putE ky k' w c es).1 ky vt (putE ky k' w c es).2) h))
          fun v=>κ (.tup [.tv vt v.1,.tv (.i .i64) ((v.2:Nat):Int)]) (ins l (.map (putE ky k' v.1 c es).1 ky vt (putE ky k' v.1 c es).2) h))
      | _,_=>.no
    | _=>.no
  | _,_=>.no
theorem tmapEntry_ok {P : Program} {t : TypeId} {m k : TV} {h : THp} {κ : TV → THp → Tree α} {z : α} (hh : (tmapEntry P t m k h κ).Has z) {lvl : Nat} {d : Option Tmp} {val : Operand → AV} {a b : Operand} (ha : val a = m.er) (hb : val b = k.er) :
    OkW (writeOp P lvl d none val (erO h) (.mapEntry t a b)) κ z:=by
  unfold tmapEntry at hh
  split at hh
  · rename_i kt e l hk
    split at hh
    · rename_i c ky vt es hg
      split at hh
      · rename_i k' w h1 h2
        cases hz:tzeroOf P e with
        | none=>rw [hz] at h2; simp at h2
        | some zz=>
        rw [hz] at h2
        simp only [Option.bind_some] at h2
        have hz':=tzeroOf_ok hz
        rw [asTy_er h2] at hz'
        obtain ⟨hc,hh⟩:=grd_has hh
        simp only [Bool.and_eq_true] at hc
        have hb':(fitT P kt (.pv (toPV ky k'))&&eqT P 30 kt)=true:=by simp only [Bool.and_eq_true]; exact hc.1
        simp only [writeOp,ha,hb,hk,TV.er,asTy_er h1,getO,hg,Option.map_some,TOb.er]
        refine OkG.need hb' ?_
        rcases hh with ⟨hf,hh⟩ | ⟨v,hf,hh⟩
        · simp only [findO,fnd_none hc.2 hf,ofO,pure0,R.with,hz',AV.isPV,need,putO,put_er hc.2]
          exact OkW.mk (ps:=[]) hh (by simp only [erW,insO]; rfl) trivial
        · simp only [findO,fnd_some hc.2 hf,ofO,pure0,R.with,AV.isPV,need,putO,put_er hc.2]
          exact OkW.mk (ps:=[]) hh (by simp only [erW,insO]; rfl) trivial
      · exact hh.elim
    · exact hh.elim
  · exact hh.elim
def tentryStore (P:Program) (t:TypeId) (m s x:TV) (h:THp) (κ:TV→THp→Tree α):Tree α:=match kindOf P t,m with
  | some (.map _ e),.m l=>match get h l with
    | some (.map c ky vt es)=>match tint s,asTy vt x with
      | some (_,born),some y=>grd (fitT P e x.er) (.bind (atM (κ:=El ky) (ν:=El vt) born y es) fun es'=>tdone l (.map c ky vt es') h κ)
      | _,_=>.no
    | _=>.no
  | _,_=>.no
theorem tentryStore_ok {P : Program} {t : TypeId} {m s x : TV} {h : THp} {κ : TV → THp → Tree α} {z : α} (hh : (tentryStore P t m s x h κ).Has z) {lvl : Nat} {d : Option Tmp} {val : Operand → AV} {a b c : Operand} (ha : val a = m.er) (hb : val b = s.er) (hx : val c = x.er) :
    OkW (writeOp P lvl d none val (erO h) (.entryStore t a b c)) κ z:=by
  unfold tentryStore at hh
  split at hh
  · rename_i kt e l hk
    split at hh
    · rename_i c ky vt es hg
      split at hh
      · rename_i k' born y h1 h2
        obtain ⟨hc,hh⟩:=grd_has hh
        obtain ⟨es',he,hh⟩:=hh
        rw [asTy_er h2] at hc
        simp only [writeOp,ha,hb,hx,hk,TV.er,tint_er h1,asTy_er h2,getO,hg,Option.map_some,TOb.er,AV.isPV,atO,atM_er he,ofO]
        exact OkG.need (by rw [hc]; rfl) (OkG.withp (tdone_ok hh rfl))
      · exact hh.elim
    · exact hh.elim
  · exact hh.elim
def tdelete (P:Program) (t:TypeId) (m k:TV) (h:THp) (κ:TV→THp→Tree α):Tree α:=match kindOf P t,m with
  | some (.map kt _),.m l=>match get h l with
    | some (.map c ky vt es)=>match asTy ky k with
      | some k'=>grd (fitT P kt (.pv (toPV ky k'))&&eqT P 30 kt&&eqK ky) (tdone l (.map c ky vt (delE ky k' es)) h κ)
      | none=>.no
    | _=>.no
  | _,_=>.no
def tsliceW (P:Program) (t:TypeId) (x:TV) (lo hi:Option TV) (h:THp) (κ:TV→THp→Tree α):Tree α:=match x with
  | .v l n=>match kindOf P t,get h l with
    | some (.slice e),some (.vec _ sz .bl s)=>grd (sz == szOf P e) (tbounds lo hi n fun a b=>.chk (List.length (α:=UInt8) s=n) (κ (.tv .bl (subL (β:=UInt8) s a b)) (ins l (.vec true sz .bl s) h)))
    | some (.slice e),some (.vec _ sz (.sl sz' u) s)=>grd (sz == szOf P e) (tbounds lo hi n fun a b=>.chk (List.length (α:=El u) s=n) (κ (.tv (.sl sz' u) (subL (β:=El u) s a b)) (ins l (.vec true sz (.sl sz' u) s) h)))
    | _,_=>.no
  | .p l path off=>match kindOf P t,get h l,lo,hi with
    | some (.bytes n),some (.cell _ c),none,none=>match AV.offAt path c.er,tat path c with
      | some o,some (.tv (.ba m) bs)=>grd (o == off&&m == n&&noArr (AV.inR path c.er)) (κ (.tv .bl (Vector.toList bs)) (ins l (.cell true c) h))
      | _,_=>.no
    | _,_,_,_=>.no
  | _=>.no
theorem tsliceW_ok {P : Program} {t : TypeId} {x : TV} {lo hi : Option TV} {h : THp} {κ : TV → THp → Tree α} {z : α} (hh : (tsliceW P t x lo hi h κ).Has z) {mk : Bool} {lvl : Nat} {d : Option Tmp} {val : Operand → AV} {a : Operand} {lo' hi' : Option Operand} (ha : val a = x.er) (hlo : lo'.map val = lo.map TV.er) (hhi : hi'.map val = hi.map TV.er) :
    pureOp P mk none val (.slice t a lo' hi' none)=none∧OkW (writeOp P lvl d none val (erO h) (.slice t a lo' hi' none)) κ z:=by
  unfold tsliceW at hh
  split at hh
  · rename_i l n
    split at hh
    · rename_i e fz sz s hk hg
      obtain ⟨hc,hh⟩:=grd_has hh
      refine ⟨by simp only [pureOp,ha,TV.er,hk],?_⟩
      simp only [writeOp,ha,hlo,hhi,hk,TV.er,getO,hg,Option.map_some,TOb.er,toPV]
      refine OkG.need hc (OkG.with (tbounds_ok hh) fun p hp=>OkG.with (er:=id) (κ':=fun _:Unit=>_) (OkG.owe (x:=()) (z:=z) hp.2 hp.1 rfl) fun _ hx=>OkG.pure (x:=(_,_)) hx ?_)
      have hl:=hp.1
      simp only [erW,TV.er,toPV,insO,TOb.er]
      congr 3
      rw [← hl]; exact sub_bl _ _ _
    · rename_i e fz sz sz' u s hk hg
      obtain ⟨hc,hh⟩:=grd_has hh
      refine ⟨by simp only [pureOp,ha,TV.er,hk],?_⟩
      simp only [writeOp,ha,hlo,hhi,hk,TV.er,getO,hg,Option.map_some,TOb.er,toPV]
      refine OkG.need hc (OkG.with (tbounds_ok hh) fun p hp=>OkG.with (er:=id) (κ':=fun _:Unit=>_) (OkG.owe (x:=()) (z:=z) hp.2 ((len_sl _ _).trans hp.1) rfl) fun _ hx=>OkG.pure (x:=(_,_)) hx ?_)
      have hl:=hp.1
      simp only [erW,TV.er,toPV,insO,TOb.er]
      congr 3
      rw [← hl]; exact sub_sl _ _ _ _
    · exact hh.elim
  · rename_i l path off
    split at hh
    · rename_i n ro c hk hg
      split at hh
      · rename_i o m bs h1 h2
        obtain ⟨hc,hh⟩:=grd_has hh
        simp only [Bool.and_eq_true] at hc
        have hlo':lo'=none:=by cases lo'<;>simp at hlo ⊢
        have hhi':hi'=none:=by cases hi'<;>simp at hhi ⊢
        subst hlo'; subst hhi'
        refine ⟨by simp only [pureOp,ha,TV.er,hk],?_⟩
        have h2':=at_er h2
        simp only [TV.er,toPV] at h2'
        simp only [writeOp,ha,hk,TV.er,getO,hg,Option.map_some,Option.map_none,TOb.er,h1,h2',noArr_all hc.2]
        exact OkG.need (by simp only [Bool.and_eq_true]; exact hc.1) (oweAll_with trivial (OkW.pure2 hh (by simp only [erW,TV.er,toPV,insO,TOb.er])))
      · exact hh.elim
    · exact hh.elim
  · exact hh.elim
end Go.Rx
end
noncomputable section
namespace Go.Rx
variable {α β γ:Type} [CT]
def ttail (h:THp):TV→Option (((t:Ty)×El t)×List (Nat×Nat))
  | .v l n=>match get h l with
    | some (.vec _ _ .bl x)=>some (⟨.bl,x⟩,[(List.length (α:=UInt8) x,n)])
    | some (.vec _ _ (.sl sz u) x)=>some (⟨.sl sz u,x⟩,[(List.length (α:=El u) x,n)])
    | _=>none
  | .tv .bl x=>some (⟨.bl,x⟩,[])
  | .tv .s x=>some (⟨.s,x⟩,[])
  | .tv (.sl sz u) x=>some (⟨.sl sz u,x⟩,[])
  | _=>none
theorem ttail_ok {h:THp} {x:TV} {t:Ty} {y:El t} {ps:List (Nat×Nat)} (hh:ttail h x=some (⟨t,y⟩,ps)) (hp:LensOK ps):(∃ qs,tailOf (erO h) x.er=some (toPV t y,qs)∧All qs)∧x.er≠.nils∧∀ k,x.er≠.es k:=by
  unfold ttail at hh
  split at hh
  · split at hh
    · rename_i hg
      simp only [Option.some.injEq,Prod.mk.injEq] at hh
      obtain ⟨h1,rfl⟩:=hh
      cases h1
      refine ⟨⟨[_],by simp only [tailOf,TV.er,getO,hg,Option.map_some,TOb.er]; rfl,hp _ (List.mem_singleton.2 rfl)⟩,by simp [TV.er],by simp [TV.er]⟩
    · rename_i hg
      simp only [Option.some.injEq,Prod.mk.injEq] at hh
      obtain ⟨h1,rfl⟩:=hh
      cases h1
      refine ⟨⟨[_],by simp only [tailOf,TV.er,getO,hg,Option.map_some,TOb.er]; rfl,(len_sl _ _).trans (hp _ (List.mem_singleton.2 rfl))⟩,by simp [TV.er],by simp [TV.er]⟩
    · simp at hh
  all_goals first
    | (simp at hh; done)
    | (simp only [Option.some.injEq, Prod.mk.injEq] at hh
       obtain ⟨h1,rfl⟩:=hh
       cases h1
       exact ⟨⟨[],rfl,trivial⟩,by simp [TV.er],by simp [TV.er]⟩)
def okStart (P:Program) (e:TypeId):Ty→Bool
  | .sl sz _=>!isU8 P e&&sz == szOf P e
  | _=>isU8 P e
def notS:Ty→Bool
  | .s=>false
  | _=>true
def tstart (t:Ty) (y:El t):Option (((u:Ty)×El u)×Nat):=match t,y with
  | .bl,y=>some (⟨.bl,y⟩,List.length (α:=UInt8) y)
  | .s,y=>some (⟨.bl,y⟩,List.length (α:=UInt8) y)
  | .sl sz u,y=>some (⟨.sl sz u,y⟩,List.length (α:=El u) y)
  | _,_=>none
theorem tstart_ok {P : Program} {e : TypeId} {t u : Ty} {y : El t} {s : El u} {m : Nat} (h : tstart t y = some (⟨u, s⟩, m)) (he : okStart P e u = true) :
    (emptySeq P e).app (toPV t y)=some (toPV u s)∧(toPV u s).len=m:=by
  unfold tstart at h
  split at h
  · simp only [Option.some.injEq,Prod.mk.injEq] at h
    obtain ⟨h1,rfl⟩:=h
    cases h1
    exact ⟨by simp only [okStart] at he; simp only [emptySeq,he]; rfl,rfl⟩
  · simp only [Option.some.injEq,Prod.mk.injEq] at h
    obtain ⟨h1,rfl⟩:=h
    cases h1
    exact ⟨by simp only [okStart] at he; simp only [emptySeq,he]; rfl,rfl⟩
  · simp only [Option.some.injEq,Prod.mk.injEq] at h
    obtain ⟨h1,rfl⟩:=h
    cases h1
    simp only [okStart,Bool.and_eq_true,Bool.not_eq_true'] at he
    refine ⟨?_,len_sl _ _⟩
    have h2:=eq_of_beq he.2
    subst h2
    simp only [emptySeq,he.1,toPV,PV.app,BEq.rfl,List.nil_append]
  · simp at h
def tapp (t:Ty) (x:El t) (u:Ty) (y:El u):Option (El t×Nat×Nat):=match t,x,u,y with
  | .bl,x,.bl,y=>some (List.append (α:=UInt8) x y,List.length (α:=UInt8) x,List.length (α:=UInt8) (List.append (α:=UInt8) x y))
  | .bl,x,.s,y=>some (List.append (α:=UInt8) x y,List.length (α:=UInt8) x,List.length (α:=UInt8) (List.append (α:=UInt8) x y))
  | .sl sz t,x,.sl sz' u,y=>match cast? (.sl sz' u) (.sl sz t) y with
    | some y'=>some (List.append (α:=El t) x y',List.length (α:=El t) x,List.length (α:=El t) (List.append (α:=El t) x y'))
    | none=>none
  | _,_,_,_=>none
theorem app_map {t:Ty} (sz:Nat) (x y:List (El t)):PV.app (.l sz (x.map (toPV t))) (.l sz (y.map (toPV t)))=some (.l sz ((List.append x y).map (toPV t))):=by
  simp only [PV.app,BEq.rfl,List.append_eq,List.map_append]
theorem tapp_ok {t u:Ty} {x s:El t} {y:El u} {m k:Nat} (h:tapp t x u y=some (s,m,k)):(toPV t x).app (toPV u y)=some (toPV t s)∧(toPV t x).len=m∧(toPV t s).len=k:=by
  unfold tapp at h
  split at h
  · simp only [Option.some.injEq,Prod.mk.injEq] at h
    obtain ⟨rfl,rfl,rfl⟩:=h
    exact ⟨rfl,rfl,rfl⟩
  · simp only [Option.some.injEq,Prod.mk.injEq] at h
    obtain ⟨rfl,rfl,rfl⟩:=h
    exact ⟨rfl,rfl,rfl⟩
  · split at h
    · rename_i y' hc
      simp only [Option.some.injEq,Prod.mk.injEq] at h
      obtain ⟨rfl,rfl,rfl⟩:=h
      exact ⟨(congrArg (PV.app _) (cast?_pv hc)).trans (app_map _ _ _),len_sl _ _,len_sl _ _⟩
    · simp at h
  · simp at h
def apOK (n b:Nat):Prop:=n * b≤maxBytes
instance (n b:Nat):Decidable (apOK n b):=by unfold apOK; infer_instance
def avOK (m n k b:Nat):Prop:=m=n∧k * b≤maxBytes
instance (m n k b:Nat):Decidable (avOK m n k b):=by unfold avOK; infer_instance
def isNilT:TV→Bool
  | .nils=>true
  | .es _=>true
  | _=>false
def tappend (P:Program) (ne:Bool) (t u:TypeId) (a x:TV) (lvl:Nat) (d:Option Tmp) (h:THp) (κ:TV→THp→Tree α):Tree α:=match kindOf P t,kindOf P u with
  | some (.slice e),some uk=>grd (uk.appends&&Nat.blt 0 (szOf P e)&&Nat.blt 0 (bytesOf P e)&&(zeroOf P e).isSome&&emptyOK P e) (match a with
    | .nils=>match isNilT x with
      | true=>κ .nils h
      | false=>match ttail h x with
        | some (⟨ty,y⟩,ps)=>match tstart ty y with
          | some (⟨v,s⟩,m)=>grd (okStart P e v) (chkLens ps (.chk (apOK m (bytesOf P e)) (tnewObj d lvl h (.vec false (szOf P e) v s) (fun l=>.v l m) κ)))
          | none=>.no
        | none=>.no
    | .v l n=>match get h l with
      | some (.vec fz sz v s)=>match isNilT x with
        | true=>match lenE v s with
          | some m=>grd (notS v) (.chk (m=n) (κ (.v l n) h))
          | none=>.no
        | false=>match ttail h x with
          | some (⟨ty,y⟩,ps)=>match tapp v s ty y with
            | some (s',m,k)=>grd (sz == szOf P e) (chkLens ps (.chk (avOK m n k (bytesOf P e)) (κ (.v l k) (ins l (.vec fz sz v s') h))))
            | none=>.no
          | none=>.no
      | _=>.no
    | _=>.no)
  | _,_=>.no
theorem isNilT_er {x:TV} (h:isNilT x=true):x.er=.nils∨∃ k,x.er=.es k:=by
  cases x<;>simp only [isNilT,reduceCtorEq] at h
  · exact .inl rfl
  · exact .inr ⟨_,rfl⟩
theorem capOK_le {n b:Nat} (h:capOK n b):n * b≤maxBytes:=h
theorem tappend_ok {P : Program} {ne : Bool} {t u : TypeId} {a x : TV} {lvl : Nat} {d : Option Tmp} {h : THp} {κ : TV → THp → Tree α} {z : α} (hh : (tappend P ne t u a x lvl d h κ).Has z) {c : Call} {val : Operand → AV} {a' x' : Operand}
    (hc:c.callee=.builtin .append) (ht:c.argTypes.toList=[t,u]) (hv:c.args.toList=[a',x']) (ha:val a'=a.er) (hx:val x'=x.er):∃ an,OkW (writeOp P lvl d an val (erO h) (.call c)) κ z:=by
  unfold tappend at hh
  split at hh
  · rename_i e uk hk1 hk2
    obtain ⟨hg,hh⟩:=grd_has hh
    split at hh
    · split at hh
      · rename_i hn
        refine ⟨none,?_⟩
        simp only [writeOp,hc,ht,hv,List.map_cons,List.map_nil,ha,hx,hk1,hk2,TV.er]
        refine OkG.need hg ?_
        rcases isNilT_er hn with he | ⟨k,he⟩<;>rw [he]<;>exact OkW.pure2 hh rfl
      · split at hh
        · rename_i ty y ps htl
          split at hh
          · rename_i v s m hst
            obtain ⟨hv2,hh⟩:=grd_has hh
            obtain ⟨hl,hh⟩:=chkLens_ok hh
            obtain ⟨⟨qs,hq1,hq2⟩,hnn,hne⟩:=ttail_ok htl hl
            obtain ⟨hs1,hs2⟩:=tstart_ok hst hv2
            have hnew:apOK m (bytesOf P e)→(tnewObj d lvl h (.vec false (szOf P e) v s) (fun l=>.v l m) κ).Has z→OkW (writeOp P lvl d none val (erO h) (.call c)) κ z:=by
              intro h1 h3
              simp only [writeOp,hc,ht,hv,List.map_cons,List.map_nil,ha,hx,hk1,hk2,TV.er]
              refine OkG.need hg ?_
              have H:OkW ((tailOf (erO h) x.er).with fun y=>(ofO ((emptySeq P e).app y)).with fun s=>(oweAll [s.len * bytesOf P e≤maxBytes]).with fun _=>newObj d lvl (erO h) (.vec false (szOf P e) s) fun l=>.v l s.len) κ z:=by
                rw [hq1]
                have hw:OkW ((ofO ((emptySeq P e).app (toPV ty y))).with fun s=>(oweAll [s.len * bytesOf P e≤maxBytes]).with fun _=>newObj d lvl (erO h) (.vec false (szOf P e) s) fun l=>.v l s.len) κ z:=by
                  rw [hs1]
                  refine OkG.withp (oweAll_with (ps:=[_]) (by rw [hs2]; exact h1) ?_)
                  exact tnewObj_ok h3 (fun _=>by rw [hs2]; rfl) rfl
                obtain ⟨w,ws,e1,e2,e3⟩:=hw
                exact ⟨w,qs++ws,by simp only [R.with] at e1 ⊢; rw [e1],hq2.app e2,e3⟩
              clear hx hq1 htl hst
              generalize x.er=xe at hnn hne H ⊢
              cases xe<;>first | exact (hnn rfl).elim | exact (hne _ rfl).elim | exact H
            exact ⟨none,hnew hh.1 hh.2⟩
          · exact hh.elim
        · exact hh.elim
    · rename_i l n _
      split at hh
      · rename_i fz sz v s hgl
        split at hh
        · rename_i hn
          split at hh
          · rename_i m hm
            obtain ⟨hvs,hh⟩:=grd_has hh
            have hlen:=lenE_len hm (fun e=>by subst e; simp [notS] at hvs)
            refine ⟨none,?_⟩
            simp only [writeOp,hc,ht,hv,List.map_cons,List.map_nil,ha,hx,hk1,hk2,TV.er,getO,hgl,Option.map_some,TOb.er]
            refine OkG.need hg ?_
            have:OkW ((owe ((toPV v s).len=n) ()).with fun _=>pure0 (Out.ret (AV.v l n),erO h)) κ z:=
              OkG.with (er:=id) (κ':=fun _:Unit=>_) (OkG.owe (x:=()) (z:=z) hh.2 (hlen.trans hh.1) rfl) fun _ hx=>OkG.pure (x:=(_,_)) hx rfl
            rcases isNilT_er hn with he | ⟨k,he⟩<;>rw [he]<;>exact this
          · exact hh.elim
        · split at hh
          · rename_i ty y ps htl
            split at hh
            · rename_i s' m k hap
              obtain ⟨hsz,hh⟩:=grd_has hh
              obtain ⟨hl,hh⟩:=chkLens_ok hh
              obtain ⟨⟨qs,hq1,hq2⟩,hnn,hne⟩:=ttail_ok htl hl
              obtain ⟨hs1,hs2,hs3⟩:=tapp_ok hap
              refine ⟨none,?_⟩
              simp only [writeOp,hc,ht,hv,List.map_cons,List.map_nil,ha,hx,hk1,hk2,TV.er,getO,hgl,Option.map_some,TOb.er]
              refine OkG.need hg ?_
              have H:OkW (need (sz == szOf P e) ((tailOf (erO h) x.er).with fun y=>(ofO ((toPV v s).app y)).with fun s'=>(oweAll [(toPV v s).len=n,s'.len * bytesOf P e≤maxBytes]).with fun _=>pure0 (Out.ret (AV.v l s'.len),ins l (.vec fz sz s') (erO h)))) κ z:=by
                rw [hq1]
                refine OkG.need hsz ?_
                have hw:OkW ((ofO ((toPV v s).app (toPV ty y))).with fun s'=>(oweAll [(toPV v s).len=n,s'.len * bytesOf P e≤maxBytes]).with fun _=>pure0 (Out.ret (AV.v l s'.len),ins l (.vec fz sz s') (erO h))) κ z:=by
                  rw [hs1]
                  refine OkG.withp (oweAll_with (ps:=[_,_]) ⟨hs2.trans hh.1.1,by rw [hs3]; exact hh.1.2⟩ ?_)
                  exact OkW.pure2 hh.2 (by simp only [erW,TV.er,insO,TOb.er,hs3])
                obtain ⟨w,ws,e1,e2,e3⟩:=hw
                exact ⟨w,qs++ws,by simp only [R.with] at e1 ⊢; rw [e1],hq2.app e2,e3⟩
              clear hx hq1 htl
              generalize x.er=xe at hnn hne H ⊢
              cases xe<;>first | exact (hnn rfl).elim | exact (hne _ rfl).elim | exact H
            · exact hh.elim
          · exact hh.elim
      · exact hh.elim
    · exact hh.elim
  · exact hh.elim
theorem tdelete_ok {P : Program} {t : TypeId} {m k : TV} {h : THp} {κ : TV → THp → Tree α} {z : α} (hh : (tdelete P t m k h κ).Has z) {lvl : Nat} {d : Option Tmp} {c : Call} {val : Operand → AV} {a b : Operand} {u : TypeId}
    (hc:c.callee=.builtin .delete) (ht:c.argTypes.toList=[t,u]) (hv:c.args.toList=[a,b]) (ha:val a=m.er) (hb:val b=k.er):OkW (writeOp P lvl d none val (erO h) (.call c)) κ z:=by
  unfold tdelete at hh
  split at hh
  · rename_i kt e l hk
    split at hh
    · rename_i c ky vt es hg
      split at hh
      · rename_i k' h1
        obtain ⟨hg2,hh⟩:=grd_has hh
        simp only [Bool.and_eq_true] at hg2
        simp only [writeOp,hc,ht,hv,List.map_cons,List.map_nil,ha,hb,asTy_er h1,hk,TV.er,getO,hg,Option.map_some,TOb.er,delO,del_er hg2.2,ofO]
        exact OkG.need (by simp only [Bool.and_eq_true]; exact hg2.1) (OkG.withp (tdone_ok hh rfl))
      · exact hh.elim
    · exact hh.elim
  · exact hh.elim
def twriteOp (P:Program) (ne:Bool) (lvl:Nat) (d:Option Tmp) (val:Operand→TV) (h:THp):Op→(TV→THp→Tree α)→Tree α
  | .alloc t,κ=>match tzeroOf P t with
    | some z=>tnewObj d lvl h (.cell false z) (fun l=>.p l [] 0) κ
    | none=>.no
  | .box t x,κ=>grd (fitT P t (val x).er) (tnewObj d lvl h (.cell false (val x)) (fun l=>.p l [] 0) κ)
  | .buildSlice t n parts,κ=>tbuildVec P t n parts.toList parts.size lvl d (parts.toList.map fun q=>val q.2) h κ
  | .makeMap t none,κ=>match kindOf P t with
    | some (.map k e)=>match tyOf P 20 k,tyOf P 20 e with
      | some kt,some vt=>tnewObj d lvl h (.map 0 kt vt []) (fun l=>.m l) κ
      | _,_=>.no
    | _=>.no
  | .makeSlice t n c,κ=>tmakeSlice P t (val n) (val c) lvl d h κ
  | .store t a x,κ=>tstore P t (val a) (val x) h κ
  | .mapUpdate t m k x,κ=>tmapPut P t (val m) (val k) (val x) h κ
  | .insert t m k x,κ=>tmapPut P t (val m) (val k) (val x) h κ
  | .mapEntry t m k,κ=>tmapEntry P t (val m) (val k) h κ
  | .entryStore t m s x,κ=>tentryStore P t (val m) (val s) (val x) h κ
  | .slice t x lo hi none,κ=>tsliceW P t (val x) (lo.map val) (hi.map val) h κ
  | .call c,κ=>match c.callee with
    | .builtin .append=>match c.argTypes.toList,c.args.toList with
      | [t,u],[a,x]=>tappend P ne t u (val a) (val x) lvl d h κ
      | _,_=>.no
    | .builtin .delete=>match c.argTypes.toList,c.args.toList with
      | [t,_],[m,k]=>tdelete P t (val m) (val k) h κ
      | _,_=>.no
    | _=>.no
  | _,_=>.no
end Go.Rx
end
noncomputable section
namespace Go.Rx
section a
variable {ob:Ob} {γ:Hm} {G:Gh} {w:World}
def setN (l:Nat):List Nat→AV→Option AV
  | [],.nils=>some (.v l 0)
  | k::p,.ag xs=>match xs[k]? with
    | some x=>(setN l p x).map fun y=>.ag (xs.set k y)
    | none=>none
  | _,_=>none
theorem RepCs_rep {y:AV}:∀ {xs:List AV} {cs:List Value} {k:Nat} {x:AV},xs[k]?=some x→(∀ c,RepC ob γ G w x c→RepC ob γ G w y c)→RepCs ob γ G w xs cs→RepCs ob γ G w (xs.set k y) cs
  | [],_,k,x,h,_,_=>by simp at h
  | a::xs,cs,0,x,h,hy,hr=>by
    simp only [List.getElem?_cons_zero,Option.some.injEq] at h
    subst h
    simp only [RepCs] at hr
    obtain ⟨c,d,e,h1,h2⟩:=hr
    simp only [List.set,RepCs]
    exact ⟨c,d,e,hy c h1,h2⟩
  | a::xs,cs,k + 1,x,h,hy,hr=>by
    simp only [List.getElem?_cons_succ] at h
    simp only [RepCs] at hr
    obtain ⟨c,d,e,h1,h2⟩:=hr
    simp only [List.set,RepCs]
    exact ⟨c,d,e,h1,RepCs_rep h hy h2⟩
theorem setN_ok {l:Nat} (hv:RepC ob γ G w (.v l 0) [.slice none 0 0]):∀ (p:List Nat) (x y:AV) (cs:List Value),setN l p x=some y→RepC ob γ G w x cs→RepC ob γ G w y cs
  | [],x,y,cs,h,hr=>by
    cases x<;>simp only [setN] at h<;>try (simp at h; done)
    simp only [Option.some.injEq] at h
    subst h
    simp only [RepC] at hr
    subst hr
    exact hv
  | k::p,x,y,cs,h,hr=>by
    cases x<;>simp only [setN] at h<;>try (simp at h; done)
    rename_i xs
    split at h
    · rename_i x hx
      cases hs:setN l p x with
      | none=>rw [hs] at h; simp at h
      | some z=>
        rw [hs] at h
        simp only [Option.map_some,Option.some.injEq] at h
        subst h
        simp only [RepC] at hr ⊢
        exact RepCs_rep hx (fun c hc=>setN_ok hv p x z c hs hc) hr
    · simp at h
def emptyP:PV→Option Nat
  | .l sz []=>match Nat.blt 0 sz with
    | true=>some sz
    | false=>none
  | .bl []=>some 1
  | _=>none
theorem emptyP_ok {x:PV} {sz:Nat} (h:emptyP x=some sz):0 < sz∧RepSeq G w sz x []∧x.len=0:=by
  unfold emptyP at h
  split at h
  · split at h
    · rename_i hb
      simp only [Option.some.injEq] at h
      subst h
      exact ⟨Nat.le_of_ble_eq_true hb,⟨rfl,rfl,by simp⟩,rfl⟩
    · simp at h
  · simp only [Option.some.injEq] at h
    subst h
    exact ⟨by omega,⟨rfl,rfl⟩,rfl⟩
  · simp at h
def Weak (σ σ':St):Prop:=σ'.rnd=σ.rnd∧∀ {h₀:Ob} {γ₀:Hm} {G₀:Gh} {w₀:World} (a:Act) (w:World),Fits h₀ γ₀ G₀ w₀ σ a w→Fits h₀ γ₀ G₀ w₀ σ' a w
theorem Weak.refl (σ:St):Weak σ σ:=⟨rfl,fun _ _ h=>h⟩
theorem Weak.trans {σ σ' σ'':St} (h:Weak σ σ') (k:Weak σ' σ''):Weak σ σ'':=⟨k.1.trans h.1,fun a w x=>k.2 a w (h.2 a w x)⟩
theorem weak_of {σ : St} {sl : Sl} {ob' : Ob} (h : ∀ (γ : Hm) (G : Gh) (w : World), HeapOK σ.ob γ G w → ∃ γ', HeapOK ob' γ' G w ∧ Trans σ.ob γ G w ob' γ' G w ∧
    ∀ (a:Act),(∀ t x,get σ.sl t=some x→∃ v,a.tmps[t]?=some v∧RepV σ.ob γ G w x v)→∀ t x,get sl t=some x→∃ v,a.tmps[t]?=some v∧RepV ob' γ' G w x v) :
    Weak σ { σ with sl:=sl,ob:=ob' }:=by
  refine ⟨rfl,?_⟩
  rintro h₀ γ₀ G₀ w₀ a w ⟨γ,G,S⟩
  obtain ⟨γ',h1,h2,h3⟩:=h γ G w S.heap
  refine ⟨γ',G,h1,h3 a S.slots,S.size,S.tr.then h2,S.keep,?_,fun d hd=>⟨dfr_kept h2 (S.dfr d hd).1,(S.dfr d hd).2⟩,S.dfk⟩
  rw [S.defers]
  exact dfr_map h2 fun d hd=>(S.dfr d hd).1
theorem dead_v {l sz:Nat} {x:PV} (hx:x.len=0) (hγ:(γ l).2=0) (hg:get ob l=some (.vec false sz x)):RepC ob γ G w (.v l 0) [.slice none 0 0]:=by
  simp only [RepC]
  exact ⟨none,0,rfl,Nat.le_refl _,.inl ⟨false,sz,x,hg,Nat.zero_le _,fun e=>absurd rfl e,fun _=>hγ.symm⟩⟩
theorem dead_new (H : HeapOK ob γ G w) {l sz : Nat} {x : PV} (hx : emptyP x = some sz) (hl : get ob l = none) :
    HeapOK (ins l (.vec false sz x) ob) (upd γ l (0,0)) G w∧Trans ob γ G w (ins l (.vec false sz x) ob) (upd γ l (0,0)) G w∧RepC (ins l (.vec false sz x) ob) (upd γ l (0,0)) G w (.v l 0) [.slice none 0 0]:=by
  obtain ⟨h1,h2,h3⟩:=emptyP_ok (G:=G) (w:=w) hx
  obtain ⟨h4,h5⟩:=dead_ok H l (fz:=false) (b:=0) h1 h2 (fun o ho=>by rw [hl] at ho; cases ho)
  exact ⟨h4,h5,dead_v h3 (by rw [upd_same]) (by rw [get_ins,if_pos rfl])⟩
theorem weak_slot {σ : St} {t l sz : Nat} {x : PV} (h1 : get σ.sl t = some .nils) (h2 : get σ.ob l = none) (hx : emptyP x = some sz) :
    Weak σ { σ with sl:=ins t (.v l 0) σ.sl,ob:=ins l (.vec false sz x) σ.ob }:=by
  refine weak_of fun γ G w H=>?_
  obtain ⟨g1,g2,g3⟩:=dead_new H hx h2
  refine ⟨_,g1,g2,fun a hs t' y hy=>?_⟩
  rw [get_ins] at hy
  split at hy
  · rename_i e
    subst e
    cases hy
    obtain ⟨v,e1,e2⟩:=hs t .nils h1
    refine ⟨v,e1,?_⟩
    rw [RepV_nils] at e2
    subst e2
    exact RepV_cell rfl g3
  · obtain ⟨v,e1,e2⟩:=hs t' y hy
    exact ⟨v,e1,RepV.step g2 _ _ e2⟩
theorem weak_cell {σ : St} {o l sz : Nat} {x : PV} {p : List Nat} {c c' : AV} (h1 : get σ.ob o = some (.cell false c)) (h2 : get σ.ob l = none) (hx : emptyP x = some sz) (hc : setN l p c = some c') :
    Weak σ { σ with ob:=ins o (.cell false c') (ins l (.vec false sz x) σ.ob) }:=by
  refine weak_of (sl:=σ.sl) fun γ G w H=>?_
  obtain ⟨g1,g2,g3⟩:=dead_new H hx h2
  have ho:get (ins l (.vec false sz x) σ.ob) o=some (.cell false c):=by
    rw [get_ins,if_neg (fun e=>by subst e; rw [h2] at h1; cases h1)]
    exact h1
  have h0:=g1.obj _ _ ho
  simp only [ObjOK] at h0
  obtain ⟨cs,k1,k2,k3⟩:=h0
  have k4:=setN_ok g3 p c c' cs hc k2
  have hT := turn_ok g1 ho (.cell false c') G w rfl (fun _ _ => rfl) (Keeps.refl _ _) (fun _ _ h h' => absurd h h') rfl (fun n hn => by
      obtain ⟨x,hx⟩:=RepC_names _ _ k4 n hn
      rw [get_ins]; split
      · exact ⟨_,rfl⟩
      · exact ⟨x,hx⟩) (fun T=>by
    simp only [ObjOK]
    exact ⟨cs,k1,RepC.step T _ _ k4,k3⟩)
  refine ⟨_,hT.1,g2.then hT.2,fun a hs t y hy=>?_⟩
  obtain ⟨v,e1,e2⟩:=hs t y hy
  exact ⟨v,e1,RepV.step hT.2 _ _ (RepV.step g2 _ _ e2)⟩
theorem weak_ro {σ:St} {t l:Nat} {ro:Bool} {x:PV} (h1:get σ.sl t=some (.p l [] 0)) (h2:get σ.ob l=some (.cell ro (.pv x))):Weak σ { σ with sl:=ins t (.ro x) σ.sl,ob:=ins l (.cell true (.pv x)) σ.ob }:=by
  refine ⟨rfl,?_⟩
  rintro h₀ γ₀ G₀ w₀ a w ⟨γ,G,S⟩
  have h0:=S.heap.obj _ _ h2
  simp only [ObjOK] at h0
  obtain ⟨cs,hblk,hr,hro⟩:=h0
  have hat:cellsAt w (γ l).1 0 cs:=block_cells hblk
  let G':Gh:=fun b i=>G b i∨(b=(γ l).1∧i < cs.length)
  have hk:Keeps G w G' w:=⟨fun _ _ h=>.inl h,fun _ _ _=>rfl⟩
  have hin:inG G' (γ l).1 0 cs.length:=fun j hj=>.inr ⟨rfl,by simpa using hj⟩
  obtain ⟨H,T⟩:=turn_ok S.heap h2 (.cell true (.pv x)) G' w rfl (fun _ _=>rfl) hk (fun b i h h'=>by
    rcases h with h | ⟨h,_⟩
    · exact absurd h h'
    · exact h) rfl (fun n hn=>by simp [AObj.names,AV.names] at hn) (fun T=>by
    simp only [ObjOK]
    exact ⟨cs,hblk,RepC.step T _ _ hr,hin⟩)
  refine ⟨γ,G',H,fun t' y hy=>?_,S.size,S.tr.then T,S.keep,S.defers,fun d hd=>?_,S.dfk⟩
  · simp only [get_ins] at hy
    split at hy
    · rename_i e
      subst e
      simp only [Option.some.injEq] at hy
      subst hy
      obtain ⟨v,e1,c,e2,e3⟩:=S.slots _ _ h1
      simp only [RepC] at e2
      refine ⟨v,e1,c,?_,e3⟩
      simp only [RepC]
      have hp:=RepC.step T _ _ hr
      simp only [RepC] at hp
      exact ⟨(γ l).1,0,cs,e2.1,hp,hat,hin⟩
    · obtain ⟨v,e1,e2⟩:=S.slots _ _ hy
      exact ⟨v,e1,RepV.step T _ _ e2⟩
  · obtain ⟨⟨b,hb⟩,h5⟩:=S.dfr d hd
    refine ⟨⟨b,?_⟩,h5⟩
    simp only [get_ins]
    rw [if_neg (fun e=>by subst e; rw [h2] at hb; simp at hb)]
    exact hb
theorem weak_keep (σ:St) (ks:List Nat):Weak σ { σ with sl:=keepOnly ks σ.sl }:=by
  refine weak_of (ob':=σ.ob) fun γ G w H=>⟨γ,H,Trans.refl H,fun a hs t x hx=>?_⟩
  rw [get_keepOnly] at hx
  split at hx
  · exact hs t x hx
  · simp at hx
end a
end Go.Rx
end
noncomputable section
namespace Go.Rx
section g
variable {P:Program} {h₀:Ob} {γ₀:Hm} {G₀:Gh} {w₀:World}
def shiftV {n:Nat} (v:Vector UInt32 n) (lo k:Nat):Vector UInt32 n:=Vector.ofFn fun i=>if lo≤i.val∧i.val < lo + k then v.toList.getD (i.val - lo) 0 else v.toList.getD i.val 0
theorem shift_list {n lo k:Nat} (v:Vector UInt32 n) (h:lo + k≤n):(shiftV v lo k).toList=v.toList.take lo++v.toList.take k++v.toList.drop (lo + k):=by
  have hv:v.toList.length=n:=by simp
  refine List.ext_getElem (by simp; omega) fun i h1 h2=>?_
  have hi:i < n:=by simpa using h1
  have e1:(shiftV v lo k).toList[i]=if lo≤i∧i < lo + k then v.toList.getD (i - lo) 0 else v.toList.getD i 0:=by
    have e0:v[i]?.getD 0=v[i]:=by simp [hi]
    simp [shiftV,Vector.toList,e0]
  rw [e1]
  by_cases c1:i < lo
  · rw [if_neg (by omega),List.getElem_append_left (by simp; omega),List.getElem_append_left (by simp; omega),List.getElem_take]
    simp [List.getD,List.getElem?_eq_getElem (show i < v.toList.length by omega)]
  · by_cases c2:i < lo + k
    · rw [if_pos ⟨by omega,c2⟩,List.getElem_append_left (by simp; omega),List.getElem_append_right (by simp; omega),List.getElem_take]
      have hl:(v.toList.take lo).length=lo:=by rw [List.length_take,hv]; omega
      simp only [hl]
      simp [List.getD,List.getElem?_eq_getElem (show i - lo < v.toList.length by omega)]
    · rw [if_neg (by omega),List.getElem_append_right (by simp; omega),List.getElem_drop]
      have hl:(v.toList.take lo++v.toList.take k).length=lo + k:=by rw [List.length_append,List.length_take,List.length_take,hv]; omega
      simp only [hl]
      have:lo + k + (i - (lo + k))=i:=by omega
      simp only [this]
      simp [List.getD,List.getElem?_eq_getElem (show i < v.toList.length by omega)]
def shA (d x:Nat) (t:TypeId) (lo:Nat) (ty:TypeId) (s:String):Oper:={ dst:=some d,op:=.slice t (.tmp x) (some (.const (.int .i64 lo))) none none,type:=ty,pos:=s,after:=#[],guard:=none }
def shB (d x:Nat) (t:TypeId) (hi:Nat) (ty:TypeId) (s:String):Oper:={ dst:=some d,op:=.slice t (.tmp x) none (some (.const (.int .i64 hi))) none,type:=ty,pos:=s,after:=#[],guard:=none }
def shC (d x y:Nat) (t u ty:TypeId) (s:String):Oper:={ dst:=some d,op:=.call { callee:=.builtin .copy,args:=#[.tmp x,.tmp y],argTypes:=#[t,u] },type:=ty,pos:=s,after:=#[⟨0,.data⟩,⟨1,.data⟩],guard:=none }
theorem shA_run {a : Act} {w : World} {d x n b lo : Nat} {t e ty : TypeId} {s : String} (ht : P.underlying t = some (.array n e)) (hi : ∃ i, P.info? e = some i) (hs : szOf P e = 1) (hx : a.eval (.tmp x) = .pointer (some ⟨b, 0, none⟩)) (h : lo < n) :
    StepTo P (execOp a.eval (shA d x t lo ty s)) w fun v w'=>v=.slice (some ⟨b,lo,none⟩) (n - lo) (n - lo)∧w'=w:=by
  have hb:(Instr.sliceBounds false n n (some (.int .i64 (lo:Int))) none none).run P w=.ok (lo,n,n) w:=by
    simp [Instr.sliceBounds,sliceBound_ok (P:=P) (w:=w) (Nat.le_of_lt h)]
  have hr:(execOp a.eval (shA d x t lo ty s)).run P w=.ok (.value (.slice (some ⟨b,lo,none⟩) (n - lo) (n - lo))) w:=by
    have e1:a.eval (.const (.int .i64 (lo:Int)))=.int .i64 lo:=rfl
    have h3:¬ n=lo:=by omega
    simp only [execOp,shA,Sem.run_bind,Instr.sliceAt,run_underlying ht,Result.andThen_ok,hx,Instr.sureAddr,Sem.run_pure,Option.map_some,Option.map_none,e1,hb,run_szI hi,hs,if_neg h3,Addr.add]
    simp
    omega
  unfold StepTo
  rw [hr]; exact ⟨rfl,rfl⟩
theorem shB_run {a : Act} {w : World} {d x n b hi : Nat} {t e ty : TypeId} {s : String} (ht : P.underlying t = some (.array n e)) (hi' : ∃ i, P.info? e = some i) (hs : szOf P e = 1) (hx : a.eval (.tmp x) = .pointer (some ⟨b, 0, none⟩)) (h : hi ≤ n) :
    StepTo P (execOp a.eval (shB d x t hi ty s)) w fun v w'=>v=.slice (some ⟨b,0,none⟩) hi n∧w'=w:=by
  have hb:(Instr.sliceBounds false n n none (some (.int .i64 (hi:Int))) none).run P w=.ok (0,hi,n) w:=by
    simp [Instr.sliceBounds,sliceBound_ok (P:=P) (w:=w) h]
  have hr:(execOp a.eval (shB d x t hi ty s)).run P w=.ok (.value (.slice (some ⟨b,0,none⟩) hi n)) w:=by
    have e1:a.eval (.const (.int .i64 (hi:Int)))=.int .i64 hi:=rfl
    simp only [execOp,shB,Sem.run_bind,Instr.sliceAt,run_underlying ht,Result.andThen_ok,hx,Instr.sureAddr,Sem.run_pure,Option.map_some,Option.map_none,e1,hb,run_szI hi',hs,Addr.add]
    split<;>simp
  unfold StepTo
  rw [hr]; exact ⟨rfl,rfl⟩
theorem shC_run {a : Act} {w : World} {d x y n b lo hi : Nat} {t u e ty el : TypeId} {fr : Nat × Nat} {s : String} {cs : List Value} (ht : P.underlying t = some (.slice e)) (hi' : ∃ i, P.info? e = some i) (hs : szOf P e = 1)
    (hx:a.eval (.tmp x)=.slice (some ⟨b,lo,none⟩) (n - lo) (n - lo)) (hy:a.eval (.tmp y)=.slice (some ⟨b,0,none⟩) hi n) (hcs:cs.length=n) (hb:w.heap[b]?=some (.cells cs.toArray el fr)) (hfr:∀ o,o < cs.length→¬ (fr.1≤o∧o < fr.2)) (h1:∀ v∈cs,v.oneCell'=true) (hlo:lo≤n) (hhi:hi≤n) :
    StepTo P (execOp a.eval (shC d x y t u ty s)) w fun _ w'=>w'={ w with heap:=w.heap.setIfInBounds b (.cells (cs.take lo++cs.take (Nat.min hi (n - lo))++cs.drop (lo + Nat.min hi (n - lo))).toArray el fr) }:=by
  generalize hk:Nat.min hi (n - lo)=k
  have hk1:k≤hi:=by rw [← hk]; exact Nat.min_le_left ..
  have hk2:k≤n - lo:=by rw [← hk]; exact Nat.min_le_right ..
  have hload:(loadCells ⟨b,0,none⟩ (k * 1)).run P w=.ok (cs.take k).toArray w:=by
    have:=load_list (P:=P) (w:=w) (b:=b) (off:=0) (cs:=cs.take k) (fun j hj=>by
      have hj':j < k:=by simp at hj; omega
      simp only [World.cell?,hb,Option.isSome_none,Bool.false_eq_true,if_false,List.getElem?_toArray,Nat.zero_add]
      rw [List.getElem?_take,if_pos hj'])
    rw [List.length_take,Nat.min_eq_left (by omega)] at this
    rw [Nat.mul_one]; exact this
  have hst := store_cells (P := P) b el fr (cs.take k) 0 w (cs.take lo) ((cs.drop lo).take k) (cs.drop (lo + k)) lo (by
      rw [hb]; congr 2
      rw [List.append_assoc,← List.drop_drop,List.take_append_drop,List.take_append_drop]) (by simp; omega) (by simp; omega)
      (fun j h2 h3=>hfr j (by simp at h3; omega)) (fun v hv=>h1 v (List.mem_of_mem_take hv))
  have hr:(execOp a.eval (shC d x y t u ty s)).run P w=.ok (.value (goInt k)) { w with heap:=w.heap.setIfInBounds b (.cells (cs.take lo++cs.take k++cs.drop (lo + k)).toArray el fr) }:=by
    have e1:(#[Operand.tmp x,Operand.tmp y].map a.eval)[0]?=some (.slice (some ⟨b,lo,none⟩) (n - lo) (n - lo)):=by simp [hx]
    have e2:(#[Operand.tmp x,Operand.tmp y].map a.eval)[1]?=some (.slice (some ⟨b,0,none⟩) hi n):=by simp [hy]
    have e3:(#[t,u]:Array TypeId)[0]?=some t:=rfl
    have e4:(Builtin.copy_ #[t,u] ty (#[Operand.tmp x,Operand.tmp y].map a.eval)).run P w=.ok (goInt k) { w with heap:=w.heap.setIfInBounds b (.cells (cs.take lo++cs.take k++cs.drop (lo + k)).toArray el fr) }:=by
      simp only [Builtin.copy_,e1,e2,e3,Sem.run_bind,run_underlying ht,Result.andThen_ok,Builtin.lenOf,Sem.run_pure,Builtin.firstCells,run_szI hi',hs,hk,hload,hst]
    simp only [execOp,shC,resolve,Sem.run_bind]
    simp only [invoke,builtin,Sem.run_bind,e4,Result.andThen_ok,Sem.run_pure]
  unfold StepTo
  rw [hr]
theorem eval_put {a:Act} {d x:Nat} {v:Value} (h:d < a.tmps.size):(a.put (some d) v).eval (.tmp x)=if x=d then v else a.eval (.tmp x):=by
  simp only [Act.put,Act.eval,Array.getD_eq_getD_getElem?]
  by_cases e:x=d
  · subst e; rw [if_pos rfl,Array.getElem?_setIfInBounds_self_of_lt h]; rfl
  · rw [if_neg e,Array.getElem?_setIfInBounds_ne (by omega)]
theorem ready_0 {x y z:Oper} (hx:x.after=#[]) (hy:y.after=#[]) (hz:z.after=#[⟨0,.data⟩,⟨1,.data⟩]):Region.ready .any #[x,y,z] #[false,false,false]=[0,1]:=by
  simp [Region.ready,hx,hy,hz,Region.binds,List.range_succ]
theorem ready_A {x y z:Oper} (hx:x.after=#[]) (hy:y.after=#[]) (hz:z.after=#[⟨0,.data⟩,⟨1,.data⟩]):Region.ready .any #[x,y,z] #[true,false,false]=[1]:=by
  simp [Region.ready,hx,hy,hz,Region.binds,List.range_succ]
theorem ready_B {x y z:Oper} (hx:x.after=#[]) (hy:y.after=#[]) (hz:z.after=#[⟨0,.data⟩,⟨1,.data⟩]):Region.ready .any #[x,y,z] #[false,true,false]=[0]:=by
  simp [Region.ready,hx,hy,hz,Region.binds,List.range_succ]
theorem ready_C {x y z:Oper} (hx:x.after=#[]) (hy:y.after=#[]) (hz:z.after=#[⟨0,.data⟩,⟨1,.data⟩]):Region.ready .any #[x,y,z] #[true,true,false]=[2]:=by
  simp [Region.ready,hx,hy,hz,Region.binds,List.range_succ]
theorem shift_sound (hm : P.follows .mixedOrders = true) {σ : St} {id x d0 d1 d2 n l lo hi : Nat} {ta ts tu e t0 t1 t2 : TypeId} {s0 s1 s2 : String} {v : Vector UInt32 n} {lv : List Nat}
    (hx:get σ.sl x=some (.p l [] 0)) (hg:get σ.ob l=some (.cell false (.pv (.wa n v)))) (ht:P.underlying ta=some (.array n e)) (hts:P.underlying ts=some (.slice e)) (hi':∃ i,P.info? e=some i) (hs:szOf P e=1)
    (hlo:lo < n) (hhi:hi≤n) (hd0:d0 < σ.n) (hd1:d1 < σ.n) (hd2:d2 < σ.n) (h01:d0≠d1) (hx0:x≠d0) (hx1:x≠d1) (hl0:d0∉lv) (hl1:d1∉lv) (hl2:d2∉lv)
    {ro:Option Nat} {nn:Nat} {a:Act} {w:World} {Q:Exit→Act→World→Prop} (hf:Fits h₀ γ₀ G₀ w₀ σ a w)
    (hq:∀ a' w',Fits h₀ γ₀ G₀ w₀ { σ with sl:=keepOnly lv σ.sl,ob:=ins l (.cell false (.pv (.wa n (shiftV v lo (Nat.min hi (n - lo)))))) σ.ob } a' w'→Q .normal a' w') :
    (Code.region id #[shA d0 x ta lo t0 s0,shB d1 x ta hi t1 s1,shC d2 d0 d1 ts tu t2 s2] true).wpIn (FW ro) nn P Q a w:=by
  obtain ⟨γ,G,st⟩:=fits_drawn hf
  generalize hw1:({ w with drawn:=w.drawn + 1 }:World)=w1 at st
  refine wpIn_region_any hm ?_
  rw [hw1]
  have hsz:=st.size
  obtain ⟨vx,hvx,hrx⟩:=st.slots x _ hx
  have hex:a.eval (.tmp x)=.pointer (some ⟨(γ l).1,0,none⟩):=by
    have h1:=st.stands (.tmp x)
    simp only [opdA,hx] at h1
    obtain ⟨c,h2,h3⟩:=h1
    simp only [RepC] at h2
    rw [h2.1] at h3
    simpa [ofCells,AV.isAgg] using h3.symm
  have h0:=st.heap.obj _ _ hg
  have hlt:=h0.lt trivial
  simp only [ObjOK] at h0
  obtain ⟨cs,⟨el,fr,hb,hfr⟩,hr,hno⟩:=h0
  simp only [RepC,RepP] at hr
  have hcs:cs.length=n:=by rw [hr]; simp
  have h1:∀ u∈cs,u.oneCell'=true:=RepP.ones (G:=G) (w:=w1) (.wa n v) cs (by simp only [RepP]; exact hr)
  have fin : ∀ a3 : Act, a3.tmps.size = a.tmps.size → a3.defers = a.defers → (∀ t, t ≠ d0 → t ≠ d1 → t ≠ d2 → a3.tmps[t]? = a.tmps[t]?) →
      Q .normal a3 { w1 with heap:=w1.heap.setIfInBounds (γ l).1 (.cells (cs.take lo++cs.take (Nat.min hi (n - lo))++cs.drop (lo + Nat.min hi (n - lo))).toArray el fr) }:=by
    intro a3 hz hdf hsame
    have hk:lo + Nat.min hi (n - lo)≤n:=by have:=Nat.min_le_right hi (n - lo); have:Nat.min hi (n - lo)≤n - lo:=this; omega
    have hcs':cs.take lo++cs.take (Nat.min hi (n - lo))++cs.drop (lo + Nat.min hi (n - lo))=(shiftV v lo (Nat.min hi (n - lo))).toList.map cu32:=by
      rw [shift_list v hk,hr]; simp
    obtain ⟨H,T⟩:=turn_ok st.heap hg (.cell false (.pv (.wa n (shiftV v lo (Nat.min hi (n - lo)))))) G { w1 with heap:=w1.heap.setIfInBounds (γ l).1 (.cells (cs.take lo++cs.take (Nat.min hi (n - lo))++cs.drop (lo + Nat.min hi (n - lo))).toArray el fr) }
      (by simp) (fun b hb'=>by simp only; exact set_other _ _ _ _ hb') (keeps_block hno fun b' hb'=>by simp only; exact set_other _ _ _ _ hb') (fun _ _ h h'=>absurd h h') rfl (fun m hm=>by simp [AObj.names,AV.names] at hm)
      (fun T=>by
        simp only [ObjOK]
        refine ⟨(shiftV v lo (Nat.min hi (n - lo))).toList.map cu32,⟨el,fr,?_,fun j hj=>hfr j (by rw [hcs]; simpa using hj)⟩,by simp only [RepC,RepP],hno⟩
        rw [hcs']; exact set_same _ _ _ hlt)
    refine hq a3 _ ⟨γ,G,H,fun t y hy=>?_,by rw [hz]; exact hsz,st.tr.then T,st.keep,by rw [hdf]; exact st.defers,fun d hd=>?_,st.dfk⟩
    · rw [get_keepOnly] at hy
      split at hy
      · rename_i hh
        have hm:=(has_iff _ _).1 hh
        obtain ⟨u,hu,hru⟩:=st.slots t y hy
        refine ⟨u,?_,RepV.step T _ _ hru⟩
        rw [hsame t (fun e=>hl0 (e▸hm)) (fun e=>hl1 (e▸hm)) (fun e=>hl2 (e▸hm))]; exact hu
      · simp at hy
    · obtain ⟨⟨b,hb'⟩,h2⟩:=st.dfr d hd
      refine ⟨⟨b,?_⟩,h2⟩
      simp only [get_ins]
      rw [if_neg (fun e=>by subst e; rw [hg] at hb'; simp at hb')]
      exact hb'
  have wop : ∀ (o : Oper) (a' : Act) (i : Nat) (K : Act → World → Prop) (w' : World), #[shA d0 x ta lo t0 s0, shB d1 x ta hi t1 s1, shC d2 d0 d1 ts tu t2 s2][i]? = some o → o.guard = none →
      (∃ R,StepTo P (execOp a'.eval o) w' R∧∀ v w'',R v w''→K (a'.put o.dst v) w'')→wpOpIn (FW ro) nn P #[shA d0 x ta lo t0 s0,shB d1 x ta hi t1 s1,shC d2 d0 d1 ts tu t2 s2] Q i K a' w':=by
    intro o a' i K w' ho hgd ⟨R,h2,h3⟩
    unfold wpOpIn
    rw [ho]
    have:Region.wanted o (yielded #[shA d0 x ta lo t0 s0,shB d1 x ta hi t1 s1,shC d2 d0 d1 ts tu t2 s2] a'.tmps)=true:=by unfold Region.wanted; rw [hgd]
    simp only [this,if_true]
    exact h2.wp h3
  have psz:∀ (a':Act) d v,(a'.put (some d) v).tmps.size=a'.tmps.size:=fun a' d v=>by simp [Act.put]
  have pget:∀ (a':Act) d v t,t≠d→(a'.put (some d) v).tmps[t]?=a'.tmps[t]?:=fun a' d v t h=>by simp only [Act.put]; exact Array.getElem?_setIfInBounds_ne (Ne.symm h)
  have third : ∀ a2 : Act, a2.tmps.size = a.tmps.size → a2.defers = a.defers → (∀ t, t ≠ d0 → t ≠ d1 → a2.tmps[t]? = a.tmps[t]?) → a2.eval (.tmp d0) = .slice (some ⟨(γ l).1, lo, none⟩) (n - lo) (n - lo) → a2.eval (.tmp d1) = .slice (some ⟨(γ l).1, 0, none⟩) hi n →
      wpAnyIn (FW ro) nn P .any #[shA d0 x ta lo t0 s0,shB d1 x ta hi t1 s1,shC d2 d0 d1 ts tu t2 s2] Q 1 #[true,true,false] a2 w1:=by
    intro a2 hz hdf hsame e0 e1
    refine ⟨fun h=>by have:Region.ready .any #[shA d0 x ta lo t0 s0,shB d1 x ta hi t1 s1,shC d2 d0 d1 ts tu t2 s2] #[true,true,false]=[2]:=ready_C rfl rfl rfl; rw [this] at h; simp at h,fun i hi2=>?_⟩
    have hre:Region.ready .any #[shA d0 x ta lo t0 s0,shB d1 x ta hi t1 s1,shC d2 d0 d1 ts tu t2 s2] #[true,true,false]=[2]:=ready_C rfl rfl rfl
    rw [hre] at hi2
    obtain rfl:=List.mem_singleton.1 hi2
    refine wop (shC d2 d0 d1 ts tu t2 s2) a2 2 _ w1 rfl rfl ⟨_,shC_run hts hi' hs e0 e1 hcs hb hfr h1 (Nat.le_of_lt hlo) hhi,fun v w'' hw=>?_⟩
    subst hw
    refine ⟨rfl,fin _ (by rw [show (shC d2 d0 d1 ts tu t2 s2).dst=some d2 from rfl,psz,hz]) hdf (fun t h0 h1 h2=>?_)⟩
    rw [show (shC d2 d0 d1 ts tu t2 s2).dst=some d2 from rfl,pget _ _ _ _ h2]
    exact hsame t h0 h1
  change wpAnyIn (FW ro) nn P .any #[shA d0 x ta lo t0 s0,shB d1 x ta hi t1 s1,shC d2 d0 d1 ts tu t2 s2] Q 3 #[false,false,false] a w1
  refine ⟨fun h=>by have:Region.ready .any #[shA d0 x ta lo t0 s0,shB d1 x ta hi t1 s1,shC d2 d0 d1 ts tu t2 s2] #[false,false,false]=[0,1]:=ready_0 rfl rfl rfl; rw [this] at h; simp at h,fun i hi2=>?_⟩
  have hre:Region.ready .any #[shA d0 x ta lo t0 s0,shB d1 x ta hi t1 s1,shC d2 d0 d1 ts tu t2 s2] #[false,false,false]=[0,1]:=ready_0 rfl rfl rfl
  rw [hre] at hi2
  have hsA:d0 < a.tmps.size:=by omega
  have hsB:d1 < a.tmps.size:=by omega
  rcases List.mem_cons.1 hi2 with rfl | hi2
  · refine wop (shA d0 x ta lo t0 s0) a 0 _ w1 rfl rfl ⟨_,shA_run ht hi' hs hex hlo,fun v w'' hw=>?_⟩
    obtain ⟨rfl,rfl⟩:=hw
    change wpAnyIn (FW ro) nn P .any #[shA d0 x ta lo t0 s0,shB d1 x ta hi t1 s1,shC d2 d0 d1 ts tu t2 s2] Q 2 #[true,false,false] _ _
    refine ⟨fun h=>by have:Region.ready .any #[shA d0 x ta lo t0 s0,shB d1 x ta hi t1 s1,shC d2 d0 d1 ts tu t2 s2] #[true,false,false]=[1]:=ready_A rfl rfl rfl; rw [this] at h; simp at h,fun i hi3=>?_⟩
    have hre:Region.ready .any #[shA d0 x ta lo t0 s0,shB d1 x ta hi t1 s1,shC d2 d0 d1 ts tu t2 s2] #[true,false,false]=[1]:=ready_A rfl rfl rfl
    rw [hre] at hi3
    obtain rfl:=List.mem_singleton.1 hi3
    refine wop (shB d1 x ta hi t1 s1) _ 1 _ w'' rfl rfl ⟨_,shB_run ht hi' hs (by rw [show (shA d0 x ta lo t0 s0).dst=some d0 from rfl,eval_put hsA,if_neg hx0]; exact hex) hhi,fun v w3 hw=>?_⟩
    obtain ⟨rfl,rfl⟩:=hw
    refine third _ (by simp [Act.put,shA,shB]) rfl (fun t h0 h1=>?_) ?_ ?_
    · rw [show (shB d1 x ta hi t1 s1).dst=some d1 from rfl,show (shA d0 x ta lo t0 s0).dst=some d0 from rfl,pget _ _ _ _ h1,pget _ _ _ _ h0]
    · rw [show (shB d1 x ta hi t1 s1).dst=some d1 from rfl,show (shA d0 x ta lo t0 s0).dst=some d0 from rfl,eval_put (by rw [psz]; exact hsB),if_neg h01,eval_put hsA,if_pos rfl]
    · rw [show (shB d1 x ta hi t1 s1).dst=some d1 from rfl,show (shA d0 x ta lo t0 s0).dst=some d0 from rfl,eval_put (by rw [psz]; exact hsB),if_pos rfl]
  · obtain rfl:=List.mem_singleton.1 hi2
    refine wop (shB d1 x ta hi t1 s1) a 1 _ w1 rfl rfl ⟨_,shB_run ht hi' hs hex hhi,fun v w'' hw=>?_⟩
    obtain ⟨rfl,rfl⟩:=hw
    change wpAnyIn (FW ro) nn P .any #[shA d0 x ta lo t0 s0,shB d1 x ta hi t1 s1,shC d2 d0 d1 ts tu t2 s2] Q 2 #[false,true,false] _ _
    refine ⟨fun h=>by have:Region.ready .any #[shA d0 x ta lo t0 s0,shB d1 x ta hi t1 s1,shC d2 d0 d1 ts tu t2 s2] #[false,true,false]=[0]:=ready_B rfl rfl rfl; rw [this] at h; simp at h,fun i hi3=>?_⟩
    have hre:Region.ready .any #[shA d0 x ta lo t0 s0,shB d1 x ta hi t1 s1,shC d2 d0 d1 ts tu t2 s2] #[false,true,false]=[0]:=ready_B rfl rfl rfl
    rw [hre] at hi3
    obtain rfl:=List.mem_singleton.1 hi3
    refine wop (shA d0 x ta lo t0 s0) _ 0 _ w'' rfl rfl ⟨_,shA_run ht hi' hs (by rw [show (shB d1 x ta hi t1 s1).dst=some d1 from rfl,eval_put hsB,if_neg hx1]; exact hex) hlo,fun v w3 hw=>?_⟩
    obtain ⟨rfl,rfl⟩:=hw
    refine third _ (by simp [Act.put,shA,shB]) rfl (fun t h0 h1=>?_) ?_ ?_
    · rw [show (shB d1 x ta hi t1 s1).dst=some d1 from rfl,show (shA d0 x ta lo t0 s0).dst=some d0 from rfl,pget _ _ _ _ h0,pget _ _ _ _ h1]
    · rw [show (shB d1 x ta hi t1 s1).dst=some d1 from rfl,show (shA d0 x ta lo t0 s0).dst=some d0 from rfl,eval_put (by rw [psz]; exact hsA),if_pos rfl]
    · rw [show (shB d1 x ta hi t1 s1).dst=some d1 from rfl,show (shA d0 x ta lo t0 s0).dst=some d0 from rfl,eval_put (by rw [psz]; exact hsA),if_neg (Ne.symm h01),eval_put hsB,if_pos rfl]
end g
end Go.Rx
end
noncomputable section
namespace Go.Rx
section d
variable (P:Program) (hn:Hint) (C:CallR) (K:FuncId)
def LoopQ (F:St→Ex→St→Prop):Nat→St→Ex→St→Prop
  | 0,_,_,_=>False
  | n + 1,σ,e,σ'=>∃ e₁ σ₁,F σ e₁ σ₁∧match e₁ with
    | .normal=>LoopQ F n σ₁ e σ'
    | _=>e=e₁∧σ'=σ₁
def RegS (id:Nat) (ops:Array Oper) (draw:Bool) (σ σ':St):Prop:=σ'.rnd=σ.rnd∧∀ (h₀:Ob) (γ₀:Hm) (G₀:Gh) (w₀:World) (ro:Option Nat) (nn:Nat) (a:Act) (w:World) (Q:Exit→Act→World→Prop),Fits h₀ γ₀ G₀ w₀ σ a w→
  (∀ a' w',Fits h₀ γ₀ G₀ w₀ σ' a' w'→Q .normal a' w')→(Code.region id ops draw).wpIn (FW ro) nn P Q a w
def CodeP:Code→St→Ex→St→Prop
  | .skip,σ,e,σ'=>e=.normal∧σ'=σ
  | .label _,σ,e,σ'=>e=.normal∧σ'=σ
  | .region id ops draw,σ,e,σ'=>(∃ O ps σ₁,regionA P hn C K O id ops draw σ=some ((e,σ₁),ps)∧All ps∧Weak σ₁ σ')∨(e=.normal∧RegS P id ops draw σ σ')
  | .seq a b,σ,e,σ'=>∃ e₁ σ₁,CodeP a σ e₁ σ₁∧match e₁ with
    | .normal=>CodeP b σ₁ e σ'
    | _=>e=e₁∧σ'=σ₁
  | .cond c a b,σ,e,σ'=>(opdA σ c=.pv (.b true)∧CodeP a σ e σ')∨(opdA σ c=.pv (.b false)∧CodeP b σ e σ')
  | .block id c,σ,e,σ'=>∃ e₁ σ₁,CodeP c σ e₁ σ₁∧σ'=σ₁∧match e₁ with
    | .exit i=>match Nat.beq i id with
      | true=>e=.normal
      | false=>e=e₁
    | _=>e=e₁
  | .loop c,σ,e,σ'=>σ'.rnd=σ.rnd∧∃ σ₀,Weak σ σ₀∧∃ n,LoopQ (CodeP c) n σ₀ e σ'
  | .exit id,σ,e,σ'=>e=.exit id∧σ'=σ
  | .goto l,σ,e,σ'=>e=.goto l∧σ'=σ
  | .ret,σ,e,σ'=>e=.ret∧σ'=σ
  | .rangeFunc g ps as0 bd,σ,e,σ'=>∃ O qs,rangeA P C K O g ps as0 bd σ=some ((e,σ'),qs)∧All qs
  | .scope c,σ,e,σ'=>CodeP c σ e σ'∧∀ l,e≠.goto l
  | .refuse _,_,_,_=>False
end d
section g
variable {P:Program} {h₀:Ob} {γ₀:Hm} {G₀:Gh} {w₀:World} {hn:Hint} {K:FuncId}
theorem CodeP_rnd {C:CallR}:∀ (c:Code) (σ σ':St) (e:Ex),CodeP P hn C K c σ e σ'→σ'.rnd=σ.rnd
  | .skip,σ,σ',e,h=>by rw [h.2]
  | .label _,σ,σ',e,h=>by rw [h.2]
  | .region id ops draw,σ,σ',e,.inl ⟨O,ps,σ₁,h,_,hw⟩=>hw.1.trans (codeO_rnd (.region id ops draw) O σ σ₁ e ps h)
  | .region id ops draw,σ,σ',e,.inr ⟨_,h⟩=>h.1
  | .seq a b,σ,σ',e,⟨e1,σ1,h1,h2⟩=>by
    have:=CodeP_rnd a _ _ _ h1
    cases e1<;>simp only at h2
    · rw [CodeP_rnd b _ _ _ h2,this]
    all_goals rw [h2.2,this]
  | .cond c a b,σ,σ',e,h=>by
    rcases h with ⟨_,h⟩ | ⟨_,h⟩
    · exact CodeP_rnd a _ _ _ h
    · exact CodeP_rnd b _ _ _ h
  | .block id c,σ,σ',e,⟨e1,σ1,h1,h2,_⟩=>by rw [h2,CodeP_rnd c _ _ _ h1]
  | .loop c,σ,σ',e,h=>h.1
  | .exit id,σ,σ',e,h=>by rw [h.2]
  | .goto l,σ,σ',e,h=>by rw [h.2]
  | .ret,σ,σ',e,h=>by rw [h.2]
  | .scope c,σ,σ',e,h=>CodeP_rnd c _ _ _ h.1
  | .rangeFunc g pa as0 bd,σ,σ',e,⟨O,qs,h,_⟩=>codeO_rnd (P:=P) (hn:=hn) (K:=K) (C:=C) (.rangeFunc g pa as0 bd) O σ σ' e qs h
  | .refuse ..,σ,σ',e,h=>h.elim
theorem codeP_sound (hD : DrawOK P hn K) (hR : RangeOK P hn K) (ro : Option Nat) (nn : Nat) : ∀ (c : Code) (σ σ' : St) (e : Ex), CodeP P hn (Valid P) K c σ e σ' → (σ.rnd = false → ro = none) →
    ∀ (a:Act) (w:World) (Q:Exit→Act→World→Prop),Fits h₀ γ₀ G₀ w₀ σ a w→(∀ a' w',Fits h₀ γ₀ G₀ w₀ σ' a' w'→Q (exOf e) a' w')→c.wpIn (FW ro) nn P Q a w
  | .skip,σ,σ',e,⟨he,hs⟩,hr,a,w,Q,hf,hq=>by
    subst he; subst hs
    exact wpIn_skip (hq _ _ hf)
  | .label _,σ,σ',e,⟨he,hs⟩,hr,a,w,Q,hf,hq=>by
    subst he; subst hs
    exact wpIn_label (hq _ _ hf)
  | .region id ops draw,σ,σ',e,.inr ⟨he,hs⟩,hr,a,w,Q,hf,hq=>by
    subst he
    exact hs.2 _ _ _ _ ro nn a w Q hf hq
  | .region id ops draw,σ,σ',e,.inl ⟨O,ps,σ₁,hs,hp,hw⟩,hr,a,w,Q,hf,hq=>by
    have hq:∀ a' w',Fits h₀ γ₀ G₀ w₀ σ₁ a' w'→Q (exOf e) a' w':=fun a' w' h=>hq a' w' (hw.2 a' w' h)
    cases draw with
    | false=>exact region_sound hs hp hf hq
    | true=>exact hD O id ops σ σ₁ e ps hs hp _ _ _ _ a w Q hf hq _ _
  | .seq x y,σ,σ',e,⟨e1,σ1,g1,g2⟩,hr,a,w,Q,hf,hq=>by
    refine wpIn_seq (codeP_sound hD hR ro nn x σ σ1 e1 g1 hr a w _ hf fun a' w' hf'=>?_)
    cases e1 with
    | normal=>exact codeP_sound hD hR ro nn y σ1 σ' e g2 (by rw [CodeP_rnd x σ σ1 _ g1]; exact hr) a' w' Q hf' hq
    | _=>
      obtain ⟨rfl,rfl⟩:=g2
      exact hq _ _ hf'
  | .cond c x y,σ,σ',e,hs,hr,a,w,Q,hf,hq=>by
    obtain ⟨γ,G,h⟩:=hf
    have hc:=h.stands c
    rcases hs with ⟨hx,hs⟩ | ⟨hx,hs⟩
    · rw [hx,RepV_b] at hc
      exact wpIn_cond_true hc (codeP_sound hD hR ro nn x σ σ' e hs hr a w Q ⟨γ,G,h⟩ hq)
    · rw [hx,RepV_b] at hc
      exact wpIn_cond_false hc (codeP_sound hD hR ro nn y σ σ' e hs hr a w Q ⟨γ,G,h⟩ hq)
  | .block id c,σ,σ',e,⟨e1,σ1,g1,hs,g2⟩,hr,a,w,Q,hf,hq=>by
    subst hs
    refine wpIn_block (codeP_sound hD hR ro nn c σ σ' e1 g1 hr a w _ hf fun a' w' hf'=>?_)
    cases e1 with
    | exit i=>
      simp only at g2
      split at g2
      · rename_i hi
        subst g2
        simp only [exOf,Exit.inBlock]
        rw [if_pos (Nat.eq_of_beq_eq_true hi)]
        exact hq _ _ hf'
      · rename_i hi
        subst g2
        simp only [exOf,Exit.inBlock]
        rw [if_neg (fun e=>by subst e; rw [Nat.beq_refl] at hi; cases hi)]
        exact hq _ _ hf'
    | _=>
      simp only at g2
      subst g2
      exact hq _ _ hf'
  | .loop c,σ,σ',e,⟨_,σ₀,hw,n,hL⟩,hr,a,w,Q,hf,hq=>by
    refine wpIn_loop_rounds n ?_
    have key:∀ (n:Nat) (σ:St) (a:Act) (w:World),(σ.rnd=false→ro=none)→LoopQ (CodeP P hn (Valid P) K c) n σ e σ'→Fits h₀ γ₀ G₀ w₀ σ a w→Code.roundsIn (FW ro) nn P c Q n a w:=by
      intro n
      induction n with
      | zero=>intro σ a w _ h; exact h.elim
      | succ n ih=>
        intro σ a w hr h hf
        obtain ⟨e2,σ2,g1,g3⟩:=h
        rw [roundsIn_succ]
        refine codeP_sound hD hR ro nn c σ σ2 e2 g1 hr a w _ hf fun a' w' hf'=>?_
        cases e2 with
        | normal=>exact ih σ2 a' w' (by rw [CodeP_rnd c σ σ2 _ g1]; exact hr) g3 hf'
        | _=>
          obtain ⟨rfl,rfl⟩:=g3
          exact hq _ _ hf'
    exact key n σ₀ a w (by rw [hw.1]; exact hr) hL (hw.2 a w hf)
  | .exit id,σ,σ',e,⟨he,hs⟩,hr,a,w,Q,hf,hq=>by
    subst he; subst hs
    exact wpIn_exit (hq _ _ hf)
  | .goto l,σ,σ',e,⟨he,hs⟩,hr,a,w,Q,hf,hq=>by
    subst he; subst hs
    exact wpIn_goto (hq _ _ hf)
  | .ret,σ,σ',e,⟨he,hs⟩,hr,a,w,Q,hf,hq=>by
    subst he; subst hs
    exact wpIn_ret (hq _ _ hf)
  | .scope c,σ,σ',e,⟨g1,g2⟩,hr,a,w,Q,hf,hq=>by
    refine wpIn_scope_straight (codeP_sound hD hR ro nn c σ σ' e g1 hr a w _ hf fun a' w' hf'=>?_)
    cases e with
    | goto l=>exact (g2 l rfl).elim
    | _=>exact hq _ _ hf'
  | .rangeFunc g pa as0 bd,σ,σ',e,⟨O,ps,hs,hp⟩,hr,a,w,Q,hf,hq=>by
    have hrnd:σ.rnd=false:=by
      unfold rangeA at hs
      split at hs
      · assumption
      · simp at hs
    have:=hr hrnd
    subst this
    exact hR O g pa as0 bd σ σ' e ps hs hp _ _ _ _ a w Q hf hq nn
  | .refuse ..,σ,σ',e,hs,_,_,_,_,_,_=>hs.elim
theorem valid_funP (hD : DrawOK P hn K) (hR : RangeOK P hn K) {fn : Func} {c : Code} (hf : P.funcs[K]? = some fn) (hb : fn.body = some c) (hname : (fn.name == "runtime.NumGoroutine") = false) {lvl : Nat} {first cap args : List AV} {h h' : Ob} {out : Out} {e : Ex} {σ' : St} {p2 : List Prop}
    (hle:Nat.ble (first++args++cap).length fn.ntmps=true) (e1:CodeP P hn (Valid P) K c ⟨lvl,fn.ntmps,dom h,number 0 (first++args++cap),h,false,[]⟩ e σ') (he:e=.normal∨e=.ret) (e2:leave P hn K fn σ'=some ((out,h'),p2)) (hp2:All p2) (l:Nat):Valid P l (.fn (.func K) first cap) args h out h':=by
  intro γ G w vf vas H hvf hva
  have h1:=RepV_one rfl rfl hvf
  simp only [RepC] at h1
  obtain ⟨va,vc,h1,h2,h3⟩:=h1
  simp only [List.cons.injEq,and_true] at h1
  subst h1
  have hL:=RepL_append (RepL_append h2 hva) h3
  have hlen:=RepL_len hL
  have hnt:(first++args++cap).length≤fn.ntmps:=Nat.le_of_ble_eq_true hle
  have hfit:∀ lv,Fits h γ G w { lvl:=lv,n:=fn.ntmps,keep:=dom h,sl:=number 0 (first++args++cap),ob:=h } { tmps:=(va++vas++vc).toArray++Array.replicate (fn.ntmps - (va++vas++vc).toArray.size) undef,defers:=[] } w:=fun lv=>by
    refine ⟨γ,G,H,fun t x hx=>?_,?_,Trans.refl H,fun l o hl=>(mem_dom h l).2 ⟨o,hl⟩,rfl,fun d hd=>by simp at hd,fun d hd=>by simp at hd⟩
    · rw [get_number] at hx
      simp only [Nat.zero_le,if_true,Nat.sub_zero] at hx
      obtain ⟨v,g1,g2⟩:=RepL_get hL hx
      refine ⟨v,?_,g2⟩
      have ht:=(List.getElem?_eq_some_iff.1 g1).1
      rw [Array.getElem?_append_left (by simpa using ht)]
      simpa using g1
    · simp only [Array.size_append,List.size_toArray,Array.size_replicate]; omega
  have hout:∃ r,out=.ret r:=by
    have hlv:leave P hn K fn σ'=some ((out,h'),p2):=e2
    unfold leave at hlv
    split at hlv
    · unfold leave1 at hlv
      obtain ⟨rs,q1,q2,q3,q4,_,hq⟩:=with_some hlv hp2
      simp only at q4
      split at q4
      · simp at q4
      · split at q4
        · simp only [Option.some.injEq,Prod.mk.injEq] at q4
          exact ⟨_,q4.1.1.symm⟩
        · simp at q4
    · simp at hlv
  obtain ⟨r,rfl⟩:=hout
  refine ⟨r,rfl,?_⟩
  have hcall:Calls P K (va++vas++vc).toArray w fun e w''=>∃ v,e=.returned v∧∃ γ' G',HeapOK h' γ' G' w''∧Trans h γ G w h' γ' G' w''∧RepV h' γ' G' w'' r v:=by
    refine (callsIn_wide (n:=0)).1 (callsIn_of_wp_marks (F:=FW none) hf hb trivial (codeP_sound hD hR none 0 c _ σ' e e1 (fun _=>rfl) _ _ _ (hfit _) fun a' w' hf'=>?_))
    have hlv:(e=.normal∨e=.ret)∧leave P hn K fn σ'=some ((.ret r,h'),p2):=⟨he,e2⟩
    have:=leave_sound hlv.2 hp2 hf' (F:=FW none) (n:=0) (R:=fun e w''=>∃ v,e=.returned v∧∃ γ' G',HeapOK h' γ' G' w''∧Trans h γ G w h' γ' G' w''∧RepV h' γ' G' w'' r v) (fun r2 v w' hr hb=>by
      cases hr
      exact ⟨v,rfl,hb⟩)
    rcases hlv.1 with rfl | rfl
    · exact this
    · exact this
  unfold CallsV
  have hrun:(do let d ← Deferred.ofValue (.func (.func K) va.toArray vc.toArray) vas.toArray; invoke d.target d.args:Sem Next).run P w=.ok (.enter K (va++vas++vc).toArray) w:=by
    have harr:va.toArray++vas.toArray++vc.toArray=(va++vas++vc).toArray:=by simp
    simp only [Deferred.ofValue,Sem.run_bind,Sem.run_pure,Result.andThen_ok,invoke,callFunc,run_program,hf,hname,hb,Option.isNone_some,Bool.false_eq_true,if_false,harr]
  rw [hrun]
  exact hcall
theorem valid_roundP (hD : DrawOK P hn K) (hR : RangeOK P hn K) {lvl l : Nat} {args : List AV} {h : Ob} {ps : List Tmp} {n : Nat} {sl : Sl} {as0 bd : Code} {fn : FuncId} {d : Nat} (hg : get h l = some (.loop ps n sl as0 bd fn .ready none d))
    (hc:(Nat.beq ps.length args.length&&ps.all (fun t=>Nat.blt t n)&&args.all AV.solid)=true) {σ1 σ2:St} (g1:CodeP P hn (Valid P) K as0 ⟨lvl,n,dom h,setAll ps args sl,h,true,[]⟩ .normal σ1)
    {ps1:List Tmp} {n1:Nat} {sl1:Sl} {as1 bd1:Code} {fn1:FuncId} {d1:Nat} (hg1:get σ1.ob l=some (.loop ps1 n1 sl1 as1 bd1 fn1 .ready none d1)) {e2:Ex}
    (g3:CodeP P hn (Valid P) K bd { σ1 with ob:=ins l (.loop ps1 n1 sl1 as1 bd1 fn1 .busy none d1) σ1.ob } e2 σ2)
    {ps2:List Tmp} {n2:Nat} {sl2:Sl} {as2 bd2:Code} {fn2:FuncId} {st2:LoopState} {pe2:Option Code} {d2:Nat} {j:Option Code} (hg2:get σ2.ob l=some (.loop ps2 n2 sl2 as2 bd2 fn2 st2 pe2 d2)) (hj:jumpOf e2=some j)
    (hcl:(closedB [] (keepOnly (reach (ins l (.loop ps2 n2 sl2 as2 bd2 fn2 (match (generalizing:=false) j with | none=>.ready | some _=>.done) j d2) σ2.ob) 500 (dom h) []) (ins l (.loop ps2 n2 sl2 as2 bd2 fn2 (match (generalizing:=false) j with | none=>.ready | some _=>.done) j d2) σ2.ob))&&allIn (dom h) (dom (keepOnly (reach (ins l (.loop ps2 n2 sl2 as2 bd2 fn2 (match (generalizing:=false) j with | none=>.ready | some _=>.done) j d2) σ2.ob) 500 (dom h) []) (ins l (.loop ps2 n2 sl2 as2 bd2 fn2 (match (generalizing:=false) j with | none=>.ready | some _=>.done) j d2) σ2.ob))))=true) (lv:Nat) :
    Valid P lv (.yl l) args h (.ret (.pv (.b (match (generalizing:=false) j with | none=>true | some _=>false)))) (keepOnly (reach (ins l (.loop ps2 n2 sl2 as2 bd2 fn2 (match (generalizing:=false) j with | none=>.ready | some _=>.done) j d2) σ2.ob) 500 (dom h) []) (ins l (.loop ps2 n2 sl2 as2 bd2 fn2 (match (generalizing:=false) j with | none=>.ready | some _=>.done) j d2) σ2.ob)):=by
  intro γ G w vf vas H hvf hva
  have h1:=RepV_one rfl rfl hvf
  simp only [RepC] at h1
  obtain ⟨h1,_⟩:=h1
  simp only [List.cons.injEq,and_true] at h1
  subst h1
  simp only [Bool.and_eq_true] at hc
  obtain ⟨⟨hlen,hps⟩,hsol⟩:=hc
  have hlen:=Nat.eq_of_beq_eq_true hlen
  simp only [Bool.and_eq_true] at hcl
  refine ⟨_,rfl,?_⟩
  have h0:=H.obj _ _ hg
  simp only [ObjOK] at h0
  obtain ⟨tmps,fn',k1,k2,k3,k4,k5⟩:=h0
  have hvl:=RepL_len hva
  have hpsl:vas.toArray.size=ps.toArray.size:=by simp; omega
  have hrun:(do let d ← Deferred.ofValue (.func (.yield (γ l).1) #[] #[]) vas.toArray; invoke d.target d.args:Sem Next).run P w=.ok (.round (γ l).1 fn' ((ps.zip vas).foldl (fun tmps (p:Nat×Value)=>tmps.setIfInBounds p.1 p.2) tmps) as0 bd) w:=by
    have:=run_yield (P:=P) (args:=vas.toArray) k1 hpsl
    simp only [Deferred.ofValue,Sem.run_bind,Sem.run_pure,Result.andThen_ok,invoke,Array.empty_append]
    rw [this,zip_fold]
  unfold CallsV
  rw [hrun]
  simp only
  have hset:=setAll_ok ps args vas sl tmps hlen (fun t ht=>by rw [k2]; exact Nat.le_of_ble_eq_true (List.all_eq_true.1 hps t ht)) hva k3
  refine roundIn_of_wpIn (F:=Fence.wide) trivial ?_
  have hfit0:Fits h γ G w { lvl:=lvl,n:=n,keep:=dom h,sl:=setAll ps args sl,ob:=h,rnd:=true } { tmps:=(ps.zip vas).foldl (fun tmps (p:Nat×Value)=>tmps.setIfInBounds p.1 p.2) tmps,defers:=[] } w:=
    ⟨γ,G,H,hset.1,by rw [hset.2]; exact k2,Trans.refl H,fun l o hl=>(mem_dom h l).2 ⟨o,hl⟩,rfl,fun d hd=>by simp at hd,fun d hd=>by simp at hd⟩
  refine codeP_sound hD hR (some (γ l).1) 0 as0 _ σ1 .normal g1 (fun hh=>by simp at hh) _ w _ hfit0 fun a1 w1 hf1=>?_
  obtain ⟨γ1,G1,st1⟩:=hf1
  have hγ1:γ1 l=γ l:=by
    obtain ⟨o',q1,q2⟩:=st1.tr.kept l _ hg
    rw [hg1] at q1; cases q1
    exact q2
  have o1:=st1.heap.obj _ _ hg1
  have lt1:=o1.lt trivial
  simp only [ObjOK] at o1
  obtain ⟨tmps1,fn1',m1,m2,m3,m4,m5⟩:=o1
  rw [hγ1] at m1 m5 lt1
  have hT1:=turn_ok st1.heap hg1 (.loop ps1 n1 sl1 as1 bd1 fn1 .busy none d1) G1 (w1.putObj (γ l).1 (.loop { state:=.busy,pending:=none,fn:=fn1',tmps:=tmps1,params:=ps1.toArray,assign:=as1,body:=bd1,defers:=(γ1 d1).1 }))
    (by simp [World.putObj]) (fun b hb=>World.putObj_heap_other (by rw [hγ1] at hb; exact hb)) (keeps_block m5 fun b' hb'=>World.putObj_heap_other hb') (fun _ _ h h'=>absurd h h') rfl
    (fun m hm=>by
      obtain ⟨o,ho⟩:=st1.heap.closed l _ hg1 m (by simpa [AObj.names] using hm)
      by_cases e:l=m
      · exact ⟨_,by rw [get_ins,if_pos e]⟩
      · exact ⟨o,by rw [get_ins,if_neg e]; exact ho⟩) (fun T=>by
      simp only [ObjOK]
      refine ⟨tmps1,fn1',by rw [hγ1]; exact World.putObj_heap_same lt1,m2,fun t x hx=>?_,?_,by rw [hγ1]; exact m5⟩
      · obtain ⟨v,q1,q2⟩:=m3 t x hx
        exact ⟨v,q1,RepV.step T _ _ q2⟩
      · exact dfr_kept T m4)
  refine ⟨_,run_beginRound m1 rfl,?_⟩
  have hfit1:Fits h γ G w { σ1 with ob:=ins l (.loop ps1 n1 sl1 as1 bd1 fn1 .busy none d1) σ1.ob } a1 (w1.putObj (γ l).1 (.loop { state:=.busy,pending:=none,fn:=fn1',tmps:=tmps1,params:=ps1.toArray,assign:=as1,body:=bd1,defers:=(γ1 d1).1 })):=
    ⟨γ1,G1,hT1.1,fun t x hx=>by
      obtain ⟨v,q1,q2⟩:=st1.slots t x hx
      exact ⟨v,q1,RepV.step hT1.2 _ _ q2⟩,st1.size,st1.tr.then hT1.2,st1.keep,st1.defers,fun d hd=>⟨dfr_kept hT1.2 (st1.dfr d hd).1,(st1.dfr d hd).2⟩,st1.dfk⟩
  have hrnd1:σ1.rnd=true:=CodeP_rnd _ _ _ _ g1
  refine codeP_sound hD hR (some (γ l).1) 0 bd _ σ2 e2 g3 (fun hh=>by simp only at hh; rw [hrnd1] at hh; simp at hh) _ _ _ hfit1 fun a2 w2 hf2=>?_
  obtain ⟨γ2,G2,st2⟩:=hf2
  have hγ2:γ2 l=γ l:=by
    obtain ⟨o',q1,q2⟩:=st2.tr.kept l _ hg
    rw [hg2] at q1; cases q1
    exact q2
  have o2:=st2.heap.obj _ _ hg2
  have lt2:=o2.lt trivial
  simp only [ObjOK] at o2
  obtain ⟨tmps2,fn2',q1,q2,q3,q4,q5⟩:=o2
  rw [hγ2] at q1 q5 lt2
  have hT2:=turn_ok st2.heap hg2 (.loop ps2 n2 sl2 as2 bd2 fn2 (match (generalizing:=false) j with | none=>.ready | some _=>.done) j d2) G2 (w2.putObj (γ l).1 (.loop { state:=if j.isNone then .ready else .done,pending:=j,fn:=fn2',tmps:=tmps2,params:=ps2.toArray,assign:=as2,body:=bd2,defers:=(γ2 d2).1 }))
    (by simp [World.putObj]) (fun b hb=>World.putObj_heap_other (by rw [hγ2] at hb; exact hb)) (keeps_block q5 fun b' hb'=>World.putObj_heap_other hb') (fun _ _ h h'=>absurd h h') rfl
    (fun m hm=>by
      obtain ⟨o,ho⟩:=st2.heap.closed l _ hg2 m (by simpa [AObj.names] using hm)
      by_cases e:l=m
      · exact ⟨_,by rw [get_ins,if_pos e]⟩
      · exact ⟨o,by rw [get_ins,if_neg e]; exact ho⟩) (fun T=>by
      simp only [ObjOK]
      refine ⟨tmps2,fn2',?_,q2,fun t x hx=>?_,?_,by rw [hγ2]; exact q5⟩
      · rw [hγ2,World.putObj_heap_same lt2]
        cases j<;>rfl
      · obtain ⟨v,r1,r2⟩:=q3 t x hx
        exact ⟨v,r1,RepV.step T _ _ r2⟩
      · exact dfr_kept T q4)
  have hend:=run_endRound (P:=P) j q1
  obtain ⟨hcn,hco⟩:=closedB_some hcl.1
  have hsub : ∀ l' o, get (keepOnly (reach (ins l (.loop ps2 n2 sl2 as2 bd2 fn2 (match (generalizing := false) j with | none => .ready | some _ => .done) j d2) σ2.ob) 500 (dom h) []) (ins l (.loop ps2 n2 sl2 as2 bd2 fn2 (match (generalizing := false) j with | none => .ready | some _ => .done) j d2) σ2.ob)) l' = some o →
      get (ins l (.loop ps2 n2 sl2 as2 bd2 fn2 (match (generalizing:=false) j with | none=>.ready | some _=>.done) j d2) σ2.ob) l'=some o:=fun l' o hl=>(get_only hl).2
  have HK:=hT2.1.sub hsub hco
  have TK:=(st2.tr.then hT2.2).drop hsub fun l' o hl=>(has_dom _ l').1 (List.all_eq_true.1 hcl.2 l' ((mem_dom h l').2 ⟨o,hl⟩))
  have hres:∃ v,(Value.bool j.isNone)=v∧RepV (keepOnly (reach (ins l (.loop ps2 n2 sl2 as2 bd2 fn2 (match (generalizing:=false) j with | none=>.ready | some _=>.done) j d2) σ2.ob) 500 (dom h) []) (ins l (.loop ps2 n2 sl2 as2 bd2 fn2 (match (generalizing:=false) j with | none=>.ready | some _=>.done) j d2) σ2.ob)) γ2 G2 (w2.putObj (γ l).1 (.loop { state:=if j.isNone then .ready else .done,pending:=j,fn:=fn2',tmps:=tmps2,params:=ps2.toArray,assign:=as2,body:=bd2,defers:=(γ2 d2).1 })) (.pv (.b (match (generalizing:=false) j with | none=>true | some _=>false))) v:=
    ⟨_,rfl,RepV_b.2 (by cases j<;>rfl)⟩
  obtain ⟨v,hv,hrep⟩:=hres
  cases e2 with
  | normal=>
    simp only [jumpOf,Option.some.injEq] at hj; subst hj
    exact ⟨_,_,hend,_,rfl,γ2,G2,HK,TK,by rw [hv]; exact hrep⟩
  | ret=>
    simp only [jumpOf,Option.some.injEq] at hj; subst hj
    exact ⟨_,_,hend,_,rfl,γ2,G2,HK,TK,by rw [hv]; exact hrep⟩
  | exit i=>
    simp only [jumpOf,Option.some.injEq] at hj; subst hj
    exact ⟨_,_,hend,_,rfl,γ2,G2,HK,TK,by rw [hv]; exact hrep⟩
  | goto t=>simp [jumpOf] at hj
  | pan v=>simp [jumpOf] at hj
end g
end Go.Rx
end
noncomputable section
namespace Go.Rx
variable {α β γ:Type} [CT]
theorem mk_none {P:Program} {mk:Bool} {an:Option Ans} {val:Operand→AV} {t:TypeId} {n:Nat} {parts:Array (Nat×Operand)} (h:mk=true∨AV.asPVs (parts.toList.map fun q=>val q.2)=none):pureOp P mk an val (.buildSlice t n parts)=none:=by
  simp only [pureOp]
  split
  · rcases h with h | h
    · subst h; rfl
    · rw [h]
      unfold need
      split<;>rfl
  · rfl
theorem twriteOp_ok {P : Program} {mk ne : Bool} {lvl : Nat} {d : Option Tmp} {val : Operand → TV} {h : THp} {κ : TV → THp → Tree α} {z : α} : ∀ {o : Op}, (twriteOp P ne lvl d val h o κ).Has z →
    (∀ t n parts,o=.buildSlice t n parts→mk=true∨AV.asPVs (parts.toList.map fun q=>erV val q.2)=none)→
    ∃ an,pureOp P mk an (erV val) o=none∧readOp P an (erV val) (erO h) o=none∧OkW (writeOp P lvl d an (erV val) (erO h) o) κ z∧∀ c f,o=.call c→c.callee≠.value f:=by
  intro o hh hb
  have nc:∀ {o:Op},(∀ c,o≠.call c)→∀ c f,o=.call c→c.callee≠.value f:=fun h c f e=>(h c e).elim
  cases o<;>simp only [twriteOp] at hh<;>try (exact hh.elim)
  case alloc t=>
    split at hh
    · rename_i w hw
      refine ⟨none,rfl,rfl,?_,nc (by simp)⟩
      simp only [writeOp,tzeroOf_ok hw]
      exact tnewObj_ok hh (fun _=>rfl) rfl
    · exact hh.elim
  case box t x=>
    obtain ⟨hf,hh⟩:=grd_has hh
    refine ⟨none,rfl,rfl,?_,nc (by simp)⟩
    simp only [writeOp]
    exact OkG.need hf (tnewObj_ok hh (fun _=>rfl) rfl)
  case buildSlice t n parts=>
    exact ⟨none,mk_none (hb _ _ _ rfl),rfl,tbuildVec_ok hh,nc (by simp)⟩
  case makeMap t r=>
    cases r with
    | some r=>exact hh.elim
    | none=>
      simp only at hh
      split at hh
      · rename_i k e hk
        split at hh
        · refine ⟨none,rfl,rfl,?_,nc (by simp)⟩
          simp only [writeOp,hk]
          exact tnewObj_ok hh (fun _=>rfl) rfl
        · exact hh.elim
      · exact hh.elim
  case makeSlice t n c=>
    obtain ⟨an,h1⟩:=tmakeSlice_ok hh (val:=erV val) (a:=n) (b:=c) rfl rfl
    exact ⟨an,rfl,rfl,h1,nc (by simp)⟩
  case store t a x=>exact ⟨none,rfl,rfl,tstore_ok hh rfl rfl,nc (by simp)⟩
  case mapUpdate t m k x=>exact ⟨none,rfl,rfl,(tmapPut_ok hh rfl rfl rfl).1,nc (by simp)⟩
  case insert t m k x=>exact ⟨none,rfl,rfl,(tmapPut_ok hh rfl rfl rfl).2,nc (by simp)⟩
  case mapEntry t m k=>exact ⟨none,rfl,rfl,tmapEntry_ok hh rfl rfl,nc (by simp)⟩
  case entryStore t m s x=>exact ⟨none,rfl,rfl,tentryStore_ok hh rfl rfl rfl,nc (by simp)⟩
  case slice t x lo hi mx=>
    cases mx with
    | some m=>exact hh.elim
    | none=>
      simp only at hh
      obtain ⟨h1,h2⟩:=tsliceW_ok (mk:=mk) (lvl:=lvl) (d:=d) (val:=erV val) (lo':=lo) (hi':=hi) hh rfl (by rw [Option.map_map]; rfl) (by rw [Option.map_map]; rfl)
      exact ⟨none,h1,rfl,h2,nc (by simp)⟩
  case call c=>
    have nv:∀ b,c.callee=.builtin b→∀ c' f,Op.call c=.call c'→c'.callee≠.value f:=fun b hb c' f e=>by cases e; rw [hb]; simp
    split at hh
    · rename_i hc
      split at hh
      · rename_i h1 h2
        obtain ⟨an,h3⟩:=tappend_ok hh (val:=erV val) hc h1 h2 rfl rfl
        exact ⟨an,by simp only [pureOp,hc],by simp only [readOp,hc],h3,nv _ hc⟩
      · exact hh.elim
    · rename_i hc
      split at hh
      · rename_i h1 h2
        exact ⟨none,by simp only [pureOp,hc],by simp only [readOp,hc],tdelete_ok hh hc h1 h2 rfl rfl,nv _ hc⟩
      · exact hh.elim
    · exact hh.elim
structure Rs' (γ:Type):Type 1 where
  Y:Type
  o:Option Y
  cse:(α:Type)→(γ→Tree α)→Y→Tree α
inductive NP where
  | sl (t:Nat)
  | ob (o:Nat) (p:List Nat)
structure NC where
  pl:NP
  l:Nat
  ty:Ty
structure TH where
  live:List (Nat×List Nat):=[]
  vecs:List Nat:=[]
  dec:List Nat:=[]
  ne:List Nat:=[]
  raw:List Nat:=[]
  fresh:List Nat:=[]
  esc:Bool:=false
  nil:List (Nat×List NC):=[]
  rd:List (Nat×List Nat):=[]
  mv:List (Nat×List (Nat×Nat×Nat)):=[]
def TH.hn (H:TH):Hint where
  live:=fun _ r=>(get H.live r).getD []
  esc:=fun _=>H.esc
  raw:=fun k=>has H.raw k
  fresh:=fun _ d=>has H.fresh d
  vecs:=fun _ d=>has H.vecs d
abbrev Env:=Nat→TV→List TV→THp→Option (Rs' (TV×THp))
def EnvOK (P:Program) (E:Env):Prop:=∀ lvl f args h rs,E lvl f args h=some rs→∀ y,rs.o=some y→∀ (α:Type) (k:TV×THp→Tree α) (z:α),(rs.cse α k y).Has z→
  ∃ x,Valid P lvl f.er (TV.ers args) (erO h) (.ret x.1.er) (erO x.2)∧(k x).Has z
abbrev LEnv:=Nat→TSt→Option (Rs' (Ex×TSt))
def tname:TV→Option FuncId
  | .fn (.func k) _ _=>some k
  | _=>none
def ttupL (h:THp):List TV→Option (TSn (List TV))
  | []=>some ([],[],[])
  | x::xs=>match x with
    | .v l n=>match get h l,ttupL h xs with
      | some (.vec _ _ t y),some (ys,b,qs)=>match lenE t y with
        | some m=>match notS t with
          | true=>some (.tv t y::ys,l::b,(m,n)::qs)
          | false=>none
        | none=>none
      | _,_=>none
    | x=>match ttupL h xs with
      | some (ys,b,qs)=>some (x::ys,b,qs)
      | none=>none
def ttupS (h:THp):TV→Option (TSn TV)
  | .v l n=>match get h l with
    | some (.vec _ _ t y)=>match lenE t y with
      | some m=>match notS t with
        | true=>some (.tv t y,[l],[(m,n)])
        | false=>none
      | none=>none
    | _=>none
  | .tup xs=>match ttupL h xs with
    | some (ys,b,qs)=>some (.tup ys,b,qs)
    | none=>none
  | x=>some (x,[],[])
theorem snap_er {h:THp} {l n m:Nat} {fz:Bool} {sz:Nat} {t:Ty} {y:El t} (hg:get h l=some (.vec fz sz t y)) (hm:lenE t y=some m) (hn:notS t=true) (he:m=n):∃ p,snap (erO h) (.v l n)=some (toPV t y,[l],[p])∧p:=by
  refine ⟨(toPV t y).len=n,by simp only [snap,getO,hg,Option.map_some,TOb.er],?_⟩
  rw [lenE_len hm (fun e=>by subst e; simp [notS] at hn),he]
theorem ttupL_ok {h:THp}:∀ {xs ys:List TV} {b:List Nat} {qs:List (Nat×Nat)},ttupL h xs=some (ys,b,qs)→LensOK qs→∃ rs,callOp.tupL (erO h) (TV.ers xs)=some (TV.ers ys,b,rs)∧All rs
  | [],ys,b,qs,hs,_=>by
    simp only [ttupL,Option.some.injEq,Prod.mk.injEq] at hs
    obtain ⟨rfl,rfl,rfl⟩:=hs
    exact ⟨[],rfl,trivial⟩
  | x::xs,ys,b,qs,hs,hl=>by
    have other:∀ {ys':List TV} {b':List Nat} {qs':List (Nat×Nat)},ttupL h xs=some (ys',b',qs')→LensOK qs'→(∀ l n,x.er≠.v l n)→∃ rs,callOp.tupL (erO h) (x.er::TV.ers xs)=some (x.er::TV.ers ys',b',rs)∧All rs:=by
      intro ys' b' qs' h1 h2 hno
      obtain ⟨rs,h3,h4⟩:=ttupL_ok h1 h2
      refine ⟨rs,?_,h4⟩
      generalize x.er=xe at hno
      cases xe<;>first | (simp only [callOp.tupL,h3]; done) | exact (hno _ _ rfl).elim
    simp only [ttupL] at hs
    split at hs
    · split at hs
      · rename_i h1 h2
        split at hs
        · rename_i m hm
          split at hs
          · rename_i hn
            simp only [Option.some.injEq,Prod.mk.injEq] at hs
            obtain ⟨rfl,rfl,rfl⟩:=hs
            have h3:=hl _ (List.mem_cons_self ..)
            obtain ⟨p,h4,h5⟩:=snap_er h1 hm hn h3
            obtain ⟨rs,h6,h7⟩:=ttupL_ok h2 (fun q hq=>hl q (List.mem_cons_of_mem _ hq))
            exact ⟨[p]++rs,by simp only [TV.ers,TV.er,callOp.tupL,h4,h6]; rfl,All.app (ps:=[p]) h5 h7⟩
          · simp at hs
        · simp at hs
      · simp at hs
    · rename_i hno
      split at hs
      · rename_i ys' b' qs' h1
        simp only [Option.some.injEq,Prod.mk.injEq] at hs
        obtain ⟨rfl,rfl,rfl⟩:=hs
        exact other h1 hl (fun l n=>by cases x<;>simp [TV.er]; exact fun _ _=>(hno _ _ rfl).elim)
      · simp at hs
theorem ttupS_ok {h:THp} {x y:TV} {b:List Nat} {qs:List (Nat×Nat)} (hs:ttupS h x=some (y,b,qs)) (hl:LensOK qs):∃ rs,callOp.tupS (erO h) x.er=some (y.er,b,rs)∧All rs:=by
  unfold ttupS at hs
  split at hs
  · split at hs
    · rename_i h1
      split at hs
      · rename_i m hm
        split at hs
        · rename_i hn
          simp only [Option.some.injEq,Prod.mk.injEq] at hs
          obtain ⟨rfl,rfl,rfl⟩:=hs
          obtain ⟨p,h4,h5⟩:=snap_er h1 hm hn (hl _ (List.mem_singleton.2 rfl))
          exact ⟨[p],by simp only [TV.er,callOp.tupS,h4],h5⟩
        · simp at hs
      · simp at hs
    · simp at hs
  · split at hs
    · rename_i h1
      simp only [Option.some.injEq,Prod.mk.injEq] at hs
      obtain ⟨rfl,rfl,rfl⟩:=hs
      obtain ⟨rs,h2,h3⟩:=ttupL_ok h1 hl
      exact ⟨rs,by simp only [TV.er,callOp.tupS,h2],h3⟩
    · simp at hs
  · rename_i h1 h2
    simp only [Option.some.injEq,Prod.mk.injEq] at hs
    obtain ⟨rfl,rfl,rfl⟩:=hs
    refine ⟨[],?_,trivial⟩
    cases x<;>first | rfl | exact (h1 _ _ rfl).elim | exact (h2 _ rfl).elim
def targs (P:Program) (raw:Bool) (h:THp) (ts:List TypeId) (args:List TV):Option (TSn (List TV)):=match raw with
  | true=>some (args,[],[])
  | false=>tpureTs P h 30 ts args
def trawB (H:TH) (f:TV):Bool:=match f with
  | .fn (.func k) _ _=>has H.raw k
  | _=>false
theorem rawB_er (H:TH) (f:TV):(match f.er with | .fn (.func k) _ _=>H.hn.raw k | _=>false)=trawB H f:=by
  cases f<;>first | rfl | skip
  rename_i g a b
  cases g<;>rfl
def freshB (H:TH) (d:Option Tmp):Bool:=match d with
  | some d=>has H.fresh d
  | none=>false
def tT (h:THp) (f:TV) (args:List TV):List Nat:=reach (erO h) 300 (f.er.names++AV.namesL (TV.ers args)) []
def tcall (P:Program) (H:TH) (E:Env) (lvl:Nat) (d:Option Tmp) (f:TV) (ts:List TypeId) (args:List TV) (h:THp) (κ:TV→THp→Tree α):Tree α:=
  grd (closedB (f.er.names++AV.namesL (TV.ers args)) (erO h)&&f.er.solid&&(TV.ers args).all AV.solid) (match targs P (trawB H f) h ts args with
    | some (as1,fz,lens)=>chkLens lens (match E lvl f as1 (keepOnly (tT (tfreeze fz h) f as1) (tfreeze fz h)) with
      | some rs => grd (closedB (f.er.names ++ AV.namesL (TV.ers as1)) (erO (keepOnly (tT (tfreeze fz h) f as1) (tfreeze fz h)))) (.bind rs.o (rs.cse α fun x =>
          grd ((dom x.2).all fun n=>has (tT (tfreeze fz h) f as1) n||!has (dom (tfreeze fz h)) n) (match freshB H d with
            | true=>κ x.1 (tmerge (tT (tfreeze fz h) f as1) x.2 (tfreeze fz h))
            | false=>match ttupS (tmerge (tT (tfreeze fz h) f as1) x.2 (tfreeze fz h)) x.1 with
              | some (r,fz2,lens2)=>chkLens lens2 (grd (closedB r.er.names (erO (keepOnly (dom h) (tfreeze fz2 (tmerge (tT (tfreeze fz h) f as1) x.2 (tfreeze fz h)))))) (κ r (keepOnly (dom h) (tfreeze fz2 (tmerge (tT (tfreeze fz h) f as1) x.2 (tfreeze fz h))))))
              | none=>.no)))
      | none=>.no)
    | none=>.no)
def callTail (H:TH) (C:CallR) (K lvl:Nat) (d:Option Tmp) (f:AV) (h:Ob) (r:AV) (h':Ob):Option (List AV×List Nat×List Prop)→R (Out×Ob)
  | none=>none
  | some (args,fz,ps)=>match freshB H d with
    | true=>some ((.ret r,h'),ps++[C lvl f args (freeze fz h) (.ret r) h'])
    | false=>match callOp.tupS h' r with
      | some (r',fz',qs)=>need (closedB r'.names (keepOnly (dom h) (freeze fz' h'))) (some ((.ret r',keepOnly (dom h) (freeze fz' h')),ps++[C lvl f args (freeze fz h) (.ret r) h']++qs))
      | none=>none
theorem callOp_eq {P : Program} {H : TH} {C : CallR} {K lvl : Nat} {d : Option Tmp} {f : TV} {ts : List TypeId} {args : List AV} {h h' : Ob} {r : AV} : callOp P H.hn C K lvl d (some (.call (.ret r) h')) f.er ts args h =
    need (closedB (f.er.names++AV.namesL args) h&&f.er.solid&&args.all AV.solid) (callTail H C K lvl d f.er h r h' (match trawB H f with | true=>some (args,[],[]) | false=>pureTs P h 30 ts args)):=by
  cases d<;>cases f<;>first | rfl | skip
  all_goals
    rename_i g a b
    cases g<;>rfl
theorem tcall_ok {P : Program} {H : TH} {E : Env} (hE : EnvOK P E) {K lvl : Nat} {d : Option Tmp} {f : TV} {ts : List TypeId} {args : List TV} {h : THp} {κ : TV → THp → Tree α} {z : α} (hh : (tcall P H E lvl d f ts args h κ).Has z) :
    ∃ an,OkW (callOp P H.hn (Valid P) K lvl d an f.er ts (TV.ers args) (erO h)) κ z:=by
  unfold tcall at hh
  obtain ⟨hg,hh⟩:=grd_has hh
  split at hh
  · rename_i as1 fz lens h1
    obtain ⟨hl,hh⟩:=chkLens_ok hh
    split at hh
    · rename_i rs hrs
      obtain ⟨hc,hh⟩:=grd_has hh
      obtain ⟨y,hy,hh⟩:=hh
      obtain ⟨x,hv,hh⟩:=hE _ _ _ _ _ hrs y hy _ _ _ hh
      obtain ⟨hd,hh⟩:=grd_has hh
      have hv2:Valid P lvl f.er (TV.ers as1) (freeze fz (erO h)) (.ret x.1.er) (erO (tmerge (tT (tfreeze fz h) f as1) x.2 (tfreeze fz h))):=by
        rw [mergeO,← freezeO]
        refine Valid.frame _ (by rw [keepO]; exact hv) (by rw [keepO]; exact hc) (by rw [domO,domO]; exact hd)
      have hp : ∃ qs, (match trawB H f with
          | true=>some (TV.ers args,[],[])
          | false=>pureTs P (erO h) 30 ts (TV.ers args))=some (TV.ers as1,fz,qs)∧All qs:=by
        unfold targs at h1
        split at h1
        · simp only [Option.some.injEq,Prod.mk.injEq] at h1
          obtain ⟨rfl,rfl,rfl⟩:=h1
          exact ⟨[],rfl,trivial⟩
        · exact tpureTs_ok _ _ _ _ _ _ h1 hl
      obtain ⟨qs,hp1,hp2⟩:=hp
      refine ⟨some (.call (.ret x.1.er) (erO (tmerge (tT (tfreeze fz h) f as1) x.2 (tfreeze fz h)))),?_⟩
      rw [callOp_eq,hp1]
      refine OkG.need hg ?_
      unfold callTail
      split at hh
      · rename_i hb
        simp only [hb]
        exact ⟨(x.1,tmerge (tT (tfreeze fz h) f as1) x.2 (tfreeze fz h)),_,rfl,hp2.app (qs:=[_]) hv2,hh⟩
      · rename_i hb
        simp only [hb]
        split at hh
        · rename_i r fz2 lens2 h3
          obtain ⟨hl2,hh⟩:=chkLens_ok hh
          obtain ⟨hc2,hh⟩:=grd_has hh
          obtain ⟨rs2,h4,h5⟩:=ttupS_ok h3 hl2
          rw [h4]
          simp only
          refine OkG.need ?_ ⟨(_,_),_,?_,(hp2.app (qs:=[_]) hv2).app h5,hh⟩
          · rw [← freezeO,domO,keepO]; exact hc2
          · rw [← freezeO,domO,keepO]; rfl
        · exact hh.elim
    · exact hh.elim
  · exact hh.elim
end Go.Rx
end
noncomputable section
namespace Go.Rx
variable {α β γ:Type} [CT]
def tconst:Value→TV
  | .bool x=>.bc x
  | .int k n=>.ic k n
  | .string x=>.tv .s x.data.toList
  | .pointer none=>.nilp
  | .slice none 0 0=>.nils
  | .map none=>.nilm
  | .nilFunc=>.nilf
  | .nilIface=>.nili
  | _=>.undef
theorem tconst_er (v:Value):(tconst v).er=ofConst v:=by
  unfold tconst ofConst
  split<;>first | rfl | skip
  all_goals
    split<;>first | rfl | (simp_all; done)
def topd (σ:TSt):Operand→TV
  | .tmp t=>match get σ.sl t with
    | some x=>x
    | none=>.undef
  | .const v=>tconst v
  | .func f=>.fn (.func f) [] []
  | .global _=>.undef
theorem topd_er (σ:TSt):erV (topd σ)=opdA σ.er:=by
  funext x
  cases x with
  | tmp t=>
    simp only [erV,topd,opdA,TSt.er,getS]
    cases get σ.sl t<;>rfl
  | const v=>exact tconst_er v
  | func f=>rfl
  | global g=>rfl
def tput (H:TH) (d:Option Tmp) (r:TV) (σ:TSt) (ob:THp) (κ:TSt→Tree α):Tree α:=match d with
  | none=>κ { σ with ob:=ob }
  | some d=>grd (Nat.blt d σ.n) (match has H.dec d,r with
    | true,.tv .b x=>.cond x (κ { σ with sl:=ins d (.bc true) σ.sl,ob:=ob }) (κ { σ with sl:=ins d (.bc false) σ.sl,ob:=ob })
    | _,r=>κ { σ with sl:=ins d r σ.sl,ob:=ob })
theorem tput_ok {H:TH} {d:Option Tmp} {r:TV} {σ:TSt} {ob:THp} {κ:TSt→Tree α} {z:α} (h:(tput H d r σ ob κ).Has z):∃ σ':TSt,σ'.er={ σ.er with sl:=put d r.er σ.er.sl,ob:=erO ob }∧dstOK σ.er d=true∧(κ σ').Has z:=by
  unfold tput at h
  split at h
  · exact ⟨_,rfl,rfl,h⟩
  · rename_i d
    obtain ⟨hd,h⟩:=grd_has h
    split at h
    · rename_i x _
      rcases h with ⟨hx,h⟩ | ⟨hx,h⟩
      · refine ⟨_,?_,hd,h⟩
        simp only [TSt.er,put,insS,TV.er,toPV]; rw [hx]
      · refine ⟨_,?_,hd,h⟩
        simp only [TSt.er,put,insS,TV.er,toPV]; rw [hx]
    · exact ⟨_,by simp only [TSt.er,put,insS],hd,h⟩
def twanted (ops:Array Oper) (σ:TSt) (o:Oper):Option Bool:=match o.guard with
  | none=>some true
  | some (j,want)=>match ops[j]? with
    | some { dst:=some t,.. }=>match get σ.sl t with
      | some (.bc x)=>some (match x,want with | true,true=>true | false,false=>true | _,_=>false)
      | some (.tup [])=>some false
      | _=>none
    | _=>some false
theorem twanted_ok {ops:Array Oper} {σ:TSt} {o:Oper} {b:Bool} (h:twanted ops σ o=some b):wantedA ops σ.er o=some b:=by
  unfold twanted at h
  unfold wantedA
  split at h
  · rename_i hg; rw [hg]; exact h
  · rename_i j want hg
    rw [hg]
    simp only
    split at h
    · rename_i t _ _ _ _ _ hj
      have e:get σ.er.sl t=(get σ.sl t).map TV.er:=getS σ.sl t
      split at h
      · rename_i x hx
        simp only [hj,e,hx,Option.map_some,TV.er]; exact h
      · rename_i hx
        simp only [hj,e,hx,Option.map_some,TV.er,TV.ers]; exact h
      · simp at h
    · rename_i hno
      split
      · rename_i hj; exact (hno _ _ _ _ _ _ hj).elim
      · exact h
def mkB (H:TH) (d:Option Tmp):Bool:=match d with
  | some d=>has H.vecs d
  | none=>false
inductive Way where
  | pure | read | write
  | call (c:Call) (f:Operand)
def wayOf (P:Program) (mk:Bool) (val:Operand→TV):Op→Way
  | .load _ _=>.read
  | .lookup _ _ _ _=>.read
  | .alloc _ | .box _ _ | .makeMap _ _ | .makeSlice _ _ _ | .store _ _ _ | .mapUpdate _ _ _ _ | .insert _ _ _ _ | .mapEntry _ _ _ | .entryStore _ _ _ _=>.write
  | .buildSlice _ _ parts=>match mk with
    | true=>.write
    | false=>match asEls (parts.toList.map fun q=>val q.2) with
      | some _=>.pure
      | none=>.write
  | .slice _ x _ _ none=>match val x with
    | .v _ _=>.write
    | .p _ _ _=>.write
    | _=>.pure
  | .call c=>match c.callee with
    | .value f=>.call c f
    | .builtin .append=>.write
    | .builtin .delete=>.write
    | .builtin .len=>match c.args.toList with
      | [x]=>match val x with
        | .m _=>.read
        | _=>.pure
      | _=>.pure
    | _=>.pure
  | _=>.pure
theorem way_call {P:Program} {mk:Bool} {val:Operand→TV} {o:Op} {c:Call} {f:Operand} (h:wayOf P mk val o=.call c f):o=.call c∧c.callee=.value f:=by
  cases o<;>simp only [wayOf,reduceCtorEq] at h
  case buildSlice=>split at h<;>first | (simp at h; done) | (split at h<;>simp at h)
  case slice=>
    split at h<;>first
      | (simp at h; done)
      | (rename_i he; cases he; split at h<;>simp at h)
      | (rename_i he; simp at he; done)
  case call c'=>
    split at h
    · rename_i hc; cases h; exact ⟨rfl,hc⟩
    all_goals first
      | (simp at h; done)
      | (split at h<;>first | (simp at h; done) | (split at h<;>simp at h))
def tstep (P:Program) (H:TH) (E:Env) (ops:Array Oper) (o:Oper) (σ:TSt) (κ:TSt→List Nat→Tree α):Tree α:=match twanted ops σ o with
  | some true=>match wayOf P (mkB H o.dst) (topd σ) o.op with
    | .pure=>tpureOp P (mkB H o.dst) (topd σ) o.op fun r=>tput H o.dst r σ σ.ob fun σ'=>κ σ' []
    | .read=>treadOp P (topd σ) (keepOnly (touch (erV (topd σ)) (erO σ.ob) o.op) σ.ob) o.op fun r=>tput H o.dst r σ σ.ob fun σ'=>κ σ' (touch (erV (topd σ)) (erO σ.ob) o.op)
    | .write => twriteOp P (match o.dst with | some d => has H.ne d | none => false) σ.lvl o.dst (topd σ) (keepOnly (touch (erV (topd σ)) (erO σ.ob) o.op) σ.ob) o.op fun r h =>
        grd ((dom h).all (fun n=>has (touch (erV (topd σ)) (erO σ.ob) o.op) n||!has (dom σ.ob) n)&&(touch (erV (topd σ)) (erO σ.ob) o.op).all (fun n=>!has (dom σ.ob) n||has (dom h) n))
          (tput H o.dst r σ (tmerge (touch (erV (topd σ)) (erO σ.ob) o.op) h σ.ob) fun σ'=>κ σ' (touch (erV (topd σ)) (erO σ.ob) o.op++dom h))
    | .call c f => tcall P H E σ.lvl o.dst (topd σ f) c.argTypes.toList (c.args.toList.map (topd σ)) (keepOnly (touch (erV (topd σ)) (erO σ.ob) o.op) σ.ob) fun r h =>
        grd ((dom h).all (fun n=>has (touch (erV (topd σ)) (erO σ.ob) o.op) n||!has (dom σ.ob) n)&&(touch (erV (topd σ)) (erO σ.ob) o.op).all (fun n=>!has (dom σ.ob) n||has (dom h) n))
          (tput H o.dst r σ (tmerge (touch (erV (topd σ)) (erO σ.ob) o.op) h σ.ob) fun σ'=>κ σ' (touch (erV (topd σ)) (erO σ.ob) o.op++dom h))
  | some false=>grd (dstOK σ.er o.dst) (κ { σ with sl:=match o.dst with | some d=>ins d (.tup []) σ.sl | none=>σ.sl } [])
  | none=>.no
def anOf (key:Nat) (an:Option Ans):List (Nat×Ans):=match an with
  | some a=>[(key,a)]
  | none=>[]
theorem get_anOf (key:Nat) (an:Option Ans):get (anOf key an) key=an:=by
  cases an with
  | none=>exact get_nil _
  | some a=>simp [anOf,get_nil,get_cons]
section s
variable {P:Program} {H:TH} {E:Env} {K:FuncId}
theorem applyW {O : Orc} {key : Nat} {d : Option Tmp} {σ : TSt} {T : List Nat} {r : TV} {h : THp} {κ : TSt → List Nat → Tree α} {z : α} (hv : get O.nv key = none) (ho : get O.no key = none)
    (hh:(grd ((dom h).all (fun n=>has T n||!has (dom σ.ob) n)&&T.all (fun n=>!has (dom σ.ob) n||has (dom h) n)) (tput H d r σ (tmerge T h σ.ob) fun σ'=>κ σ' (T++dom h))).Has z) :
    ∃ (σ':TSt) (lab:List Nat) (ps:List Prop),applyEff O key d σ.er (.write T (.ret r.er) (erO h))=some (.next σ'.er lab,ps)∧All ps∧(κ σ' lab).Has z:=by
  obtain ⟨hc,hh⟩:=grd_has hh
  obtain ⟨σ',h1,h2,h3⟩:=tput_ok hh
  refine ⟨σ',T++dom h,[],?_,trivial,h3⟩
  have hd:dom σ.er.ob=dom σ.ob:=domO σ.ob
  simp only [applyEff,nameO,ho,pure0,R.with,need,domO,hd,hc,nameV,hv,h2,List.append_nil,List.nil_append]
  rw [h1,mergeO]
  rfl
theorem applyV {O : Orc} {key : Nat} {d : Option Tmp} {σ : TSt} {r : TV} {κ : TSt → Tree α} {z : α} (hv : get O.nv key = none) (hh : (tput H d r σ σ.ob κ).Has z) :
    ∃ (σ':TSt),applyEff O key d σ.er (.val r.er)=some (.next σ'.er [],[])∧(∀ T,applyEff O key d σ.er (.read T r.er)=some (.next σ'.er T,[]))∧(κ σ').Has z:=by
  obtain ⟨σ',h1,h2,h3⟩:=tput_ok hh
  refine ⟨σ',?_,fun T=>?_,h3⟩
  · simp only [applyEff,nameV,hv,pure0,R.with,need,h2,List.append_nil]
    rw [h1]; rfl
  · simp only [applyEff,nameV,hv,pure0,R.with,need,h2,List.append_nil]
    rw [h1]; rfl
theorem eff_pure {C:CallR} {lvl:Nat} {d:Option Tmp} {an:Option Ans} {val:Operand→AV} {ob:Ob} {o:Op} {r:AV} {ps:List Prop} (h:pureOp P (mkB H d) an val o=some (r,ps)):effOp P H.hn C K lvl d an val ob o=some (.val r,ps):=by
  cases d with
  | none=>simp only [effOp]; simp only [mkB] at h; rw [h]
  | some d=>simp only [effOp]; simp only [mkB] at h; rw [show H.hn.vecs K d=has H.vecs d from rfl,h]
theorem eff_read {C : CallR} {lvl : Nat} {d : Option Tmp} {an : Option Ans} {val : Operand → AV} {ob : Ob} {o : Op} {r : AV} {ps : List Prop} (h : pureOp P (mkB H d) an val o = none) (h1 : readOp P an val (keepOnly (touch val ob o) ob) o = some (r, ps)) :
    effOp P H.hn C K lvl d an val ob o=some (.read (touch val ob o) r,ps):=by
  cases d with
  | none=>simp only [effOp]; simp only [mkB] at h; rw [h,h1]
  | some d=>simp only [effOp]; simp only [mkB] at h; rw [show H.hn.vecs K d=has H.vecs d from rfl,h,h1]
theorem eff_write {C : CallR} {lvl : Nat} {d : Option Tmp} {an : Option Ans} {val : Operand → AV} {ob : Ob} {o : Op} {x : Out × Ob} {ps : List Prop} (h : pureOp P (mkB H d) an val o = none) (h1 : readOp P an val (keepOnly (touch val ob o) ob) o = none)
    (h2:writeOp P lvl d an val (keepOnly (touch val ob o) ob) o=some (x,ps)) (h3:∀ c f,o=.call c→c.callee≠.value f):effOp P H.hn C K lvl d an val ob o=some (.write (touch val ob o) x.1 x.2,ps):=by
  have key : ∀ b, pureOp P b an val o = none → (match pureOp P b an val o with
      | some (r,ps)=>some (Eff.val r,ps)
      | none=>match readOp P an val (keepOnly (touch val ob o) ob) o with
        | some (r,ps)=>some (.read (touch val ob o) r,ps)
        | none=>match (match o with
          | .call { callee:=.value f,args,argTypes }=>callOp P H.hn C K lvl d an (val f) argTypes.toList (args.toList.map val) (keepOnly (touch val ob o) ob)
          | o=>writeOp P lvl d an val (keepOnly (touch val ob o) ob) o) with
          | some ((out,h),ps)=>some (.write (touch val ob o) out h,ps)
          | none=>none)=some (.write (touch val ob o) x.1 x.2,ps):=by
    intro b hb
    rw [hb,h1]
    simp only
    split
    · rename_i heq
      split at heq
      · exact (h3 _ _ rfl rfl).elim
      · rw [h2] at heq; simp only [Option.some.injEq,Prod.mk.injEq] at heq; obtain ⟨rfl,rfl⟩:=heq; rfl
    · rename_i heq
      split at heq
      · exact (h3 _ _ rfl rfl).elim
      · rw [h2] at heq; simp at heq
  cases d with
  | none=>exact key false h
  | some d=>exact key (has H.vecs d) h
theorem eff_call {C : CallR} {lvl : Nat} {d : Option Tmp} {an : Option Ans} {val : Operand → AV} {ob : Ob} {c : Call} {f : Operand} {x : Out × Ob} {ps : List Prop} (hc : c.callee = .value f)
    (h2:callOp P H.hn C K lvl d an (val f) c.argTypes.toList (c.args.toList.map val) (keepOnly (touch val ob (.call c)) ob)=some (x,ps)):effOp P H.hn C K lvl d an val ob (.call c)=some (.write (touch val ob (.call c)) x.1 x.2,ps):=by
  obtain ⟨callee,args,ats⟩:=c
  simp only at hc
  subst hc
  simp only [effOp,pureOp,readOp,h2]
theorem tstep_ok (hE : EnvOK P E) {ops : Array Oper} {o : Oper} {σ : TSt} {κ : TSt → List Nat → Tree α} {z : α} (hh : (tstep P H E ops o σ κ).Has z) (key : Nat) :
    ∃ (an:Option Ans) (σ':TSt) (lab:List Nat) (ps:List Prop),(∀ O:Orc,get O.an key=an→O.nv=[]→O.no=[]→stepA P H.hn (Valid P) K O key ops o σ.er=some (.next σ'.er lab,ps))∧All ps∧(κ σ' lab).Has z:=by
  have eff : ∀ {an : Option Ans} {e : Eff} {ps qs : List Prop} {σ' : TSt} {lab : List Nat}, twanted ops σ o = some true → effOp P H.hn (Valid P) K σ.er.lvl o.dst an (opdA σ.er) σ.er.ob o.op = some (e, ps) → (∀ O : Orc, O.nv = [] → O.no = [] → applyEff O key o.dst σ.er e = some (.next σ'.er lab, qs)) →
      ∀ O:Orc,get O.an key=an→O.nv=[]→O.no=[]→stepA P H.hn (Valid P) K O key ops o σ.er=some (.next σ'.er lab,ps++qs):=by
    intro an e ps qs σ' lab hw he ha O h1 h2 h3
    simp only [stepA,twanted_ok hw,h1,he,R.with,ha O h2 h3]
  have hob:σ.er.ob=erO σ.ob:=rfl
  have hT:keepOnly (touch (opdA σ.er) σ.er.ob o.op) σ.er.ob=erO (keepOnly (touch (erV (topd σ)) (erO σ.ob) o.op) σ.ob):=by
    rw [← topd_er]; exact keepO _ _
  unfold tstep at hh
  split at hh
  · rename_i hw
    split at hh
    · rename_i hway
      obtain ⟨r,ps,h1,h2,h3⟩:=tpureOp_ok hh
      obtain ⟨σ',h4,_,h5⟩:=applyV (O:={}) (key:=key) (get_nil _) h3
      refine ⟨none,σ',[],ps++[],eff hw (e:=.val r.er) (eff_pure (by rw [← topd_er]; exact h1)) (fun O h6 h7=>by
        simpa only [applyEff,nameV,h6,hob] using h4),h2.app trivial,h5⟩
    · rename_i hway
      obtain ⟨h0,r,ps,h1,h2,h3⟩:=treadOp_ok (mk:=mkB H o.dst) (an:=none) hh
      obtain ⟨σ',_,h4,h5⟩:=applyV (O:={}) (key:=key) (get_nil _) h3
      refine ⟨none,σ',_,ps++[],eff hw (e:=.read (touch (opdA σ.er) σ.er.ob o.op) r.er) (eff_read (by rw [← topd_er]; exact h0) (by rw [hT,← topd_er]; exact h1)) (fun O h6 h7=>by
        rw [← topd_er]
        simpa only [applyEff,nameV,h6,hob] using h4 _),h2.app trivial,h5⟩
    · rename_i hway
      obtain ⟨an,h0,h1,⟨x,ps,h2,h3,h4⟩,h5⟩:=twriteOp_ok (mk:=mkB H o.dst) hh (by
        intro t n parts ho
        rw [ho] at hway
        simp only [wayOf] at hway
        split at hway
        · rename_i hm; exact .inl hm
        · split at hway
          · simp at hway
          · rename_i hn
            right
            have:=asEls_none hn
            rw [ers_map2] at this
            exact this)
      obtain ⟨σ',lab,qs,h6,h7,h8⟩:=applyW (O:={}) (key:=key) (get_nil _) (get_nil _) h4
      refine ⟨an,σ',lab,ps++qs,eff hw (e:=.write (touch (opdA σ.er) σ.er.ob o.op) (.ret x.1.er) (erO x.2)) (eff_write (x:=erW x) (by rw [← topd_er]; exact h0) (by rw [hT,← topd_er]; exact h1) (by rw [hT,← topd_er]; exact h2) h5) (fun O h9 h10=>by
        rw [← topd_er]
        simpa only [applyEff,nameV,nameO,h9,h10,hob] using h6),h3.app h7,h8⟩
    · rename_i c f hway
      obtain ⟨hop,hcal⟩:=way_call hway
      obtain ⟨an,x,ps,h2,h3,h4⟩:=tcall_ok hE (K:=K) hh
      obtain ⟨σ',lab,qs,h6,h7,h8⟩:=applyW (O:={}) (key:=key) (get_nil _) (get_nil _) h4
      have ha:TV.ers (c.args.toList.map (topd σ))=c.args.toList.map (opdA σ.er):=by rw [← topd_er]; exact ers_map2 _ _
      rw [ha,← hT] at h2
      refine ⟨an,σ',lab,ps++qs,eff hw (e:=.write (touch (opdA σ.er) σ.er.ob o.op) (.ret x.1.er) (erO x.2)) (by
        have hf:(topd σ f).er=opdA σ.er f:=by rw [← topd_er]; rfl
        rw [hf] at h2
        rw [hop] at h2 ⊢
        exact eff_call hcal h2) (fun O h9 h10=>by
        rw [← topd_er]
        simpa only [applyEff,nameV,nameO,h9,h10,hob] using h6),h3.app h7,h8⟩
  · rename_i hw
    obtain ⟨hd,hh⟩:=grd_has hh
    refine ⟨none,_,[],[],fun O _ _ _=>?_,trivial,hh⟩
    simp only [stepA,twanted_ok hw,need,hd,pure0]
    cases o.dst with
    | none=>rfl
    | some d=>simp only [TSt.er,put,insS]; rfl
  · exact hh.elim
end s
end Go.Rx
end
noncomputable section
namespace Go.Rx
def nthN (ms:List Nat) (k:Nat):Nat:=@List.rec Nat (fun _=>Nat→Nat) (fun _=>0) (fun m _ ih k=>@Nat.rec (fun _=>Nat) m (fun k' _=>ih k') k) ms k
def orN {α:Type} (f:α→Nat) (l:List α):Nat:=@List.rec α (fun _=>Nat) 0 (fun x _ ih=>Nat.lor (f x) ih) l
def aheadM (ms:List Nat) (o:Oper):Nat:=orN (fun e=>@Bool.rec (fun _=>Nat) 0 (Nat.lor (Nat.pow 2 e.on) (nthN ms e.on)) (Region.binds .any e)) o.after.toList
def dstM (o:Oper):Nat:=match o.dst with
  | some d=>Nat.pow 2 d
  | none=>0
def lookM (ops:Array Oper) (o:Oper):Nat:=orN (fun t=>Nat.pow 2 t) (looks ops o)
def pairB (ops:Array Oper) (x y:Oper) (a b:List Nat):Bool:=
  Nat.beq (Nat.lor (Nat.land (dstM x) (Nat.lor (lookM ops y) (dstM y))) (Nat.land (dstM y) (lookM ops x))) 0&&(heapless x.op||heapless y.op||(onlyReads x.op&&onlyReads y.op)||disj a b)
def rowB (ops:Array Oper) (a:Nat) (y:Oper) (ly:List Nat):List (Oper×List Nat)→Nat→Bool
  | [],_=>true
  | x::r,i=>(Nat.beq (Nat.land (Nat.shiftRight a i) 1) 1||pairB ops x.1 y x.2 ly)&&rowB ops a y ly r (i + 1)
def edgeB (o:Oper) (j:Nat):Bool:=o.after.toList.all (fun e=>!Region.binds .any e||Nat.blt e.on j)&&(match o.op with | .select _ _=>false | _=>true)
def drawGo (ops:Array Oper):List Oper→List (List Nat)→List Nat→List (Oper×List Nat)→Nat→Bool
  | [],_,_,_,_=>true
  | y::r,labs,ms,xs,j=>edgeB y j&&rowB ops (aheadM ms y) y (labs.headD []) xs 0&&drawGo ops r labs.tail (ms++[aheadM ms y]) (xs++[(y,labs.headD [])]) (j + 1)
def drawF (ops:Array Oper) (labs:List (List Nat)):Bool:=drawGo ops ops.toList labs [] [] 0
theorem nthN_eq:∀ (ms:List Nat) (k:Nat),nthN ms k=ms.getD k 0
  | [],_=>rfl
  | _::_,0=>rfl
  | _::r,k + 1=>nthN_eq r k
theorem orN_cons {α:Type} (f:α→Nat) (x:α) (l:List α):orN f (x::l)=f x ||| orN f l:=rfl
theorem orN_bit {α:Type} {f:α→Nat} {i:Nat}:∀ {l:List α},(orN f l).testBit i=true↔∃ x∈l,(f x).testBit i=true
  | []=>by show (0:Nat).testBit i=true↔_; simp
  | x::l=>by rw [orN_cons,Nat.testBit_or,Bool.or_eq_true,orN_bit]; simp
theorem pow_bit {d i:Nat}:(Nat.pow 2 d).testBit i=true↔d=i:=by
  show (2 ^ d).testBit i=true↔_
  rw [Nat.testBit_two_pow]; simp
theorem dst_bit {o:Oper} {i:Nat}:(dstM o).testBit i=true↔o.dst=some i:=by
  unfold dstM
  split
  · rename_i d h; rw [pow_bit,h]; simp
  · rename_i h; rw [h]; simp
theorem look_bit {ops:Array Oper} {o:Oper} {i:Nat}:(lookM ops o).testBit i=true↔i∈looks ops o:=by
  unfold lookM
  rw [orN_bit]
  constructor
  · rintro ⟨x,h,e⟩; rw [pow_bit] at e; subst e; exact h
  · intro h; exact ⟨i,h,pow_bit.2 rfl⟩
theorem land_zero {a b i:Nat} (h:a &&& b=0) (ha:a.testBit i=true):b.testBit i=false:=by
  have:=congrArg (fun n=>Nat.testBit n i) h
  simp only [Nat.testBit_and,ha,Bool.true_and,Nat.zero_testBit] at this
  exact this
theorem lor_zero {a b:Nat} (h:a ||| b=0):a=0∧b=0:=by
  have:∀ x y:Nat,x ||| y=0→x=0:=fun x y h=>Nat.eq_of_testBit_eq fun i=>by
    have:=congrArg (fun n=>Nat.testBit n i) h
    simp only [Nat.testBit_or,Nat.zero_testBit,Bool.or_eq_false_iff] at this
    rw [this.1,Nat.zero_testBit]
  exact ⟨this a b h,this b a (by rw [Nat.or_comm]; exact h)⟩
theorem pairB_ok {ops:Array Oper} {x y:Oper} {a b:List Nat} (h:pairB ops x y a b=true):slotsApart ops x y=true∧(heapless x.op||heapless y.op||(onlyReads x.op&&onlyReads y.op)||disj a b)=true:=by
  unfold pairB at h
  rw [Bool.and_eq_true] at h
  refine ⟨?_,h.2⟩
  have h0:=Nat.eq_of_beq_eq_true h.1
  obtain ⟨h1,h2⟩:=lor_zero h0
  have nh:∀ {l:List Nat} {a:Nat},a∉l→has l a=false:=fun hn=>by
    cases e:has _ _ with
    | true=>exact (hn ((has_iff _ _).1 e)).elim
    | false=>rfl
  unfold slotsApart
  rw [Bool.and_eq_true]
  constructor
  · split
    · rename_i d hd
      have h3:=land_zero (i:=d) h1 (dst_bit.2 hd)
      have h3:(lookM ops y ||| dstM y).testBit d=false:=h3
      rw [Nat.testBit_or,Bool.or_eq_false_iff] at h3
      have h4:d∉looks ops y:=fun e=>by rw [look_bit.2 e] at h3; exact absurd h3.1 (by simp)
      have h5:¬ y.dst=some d:=fun e=>by rw [dst_bit.2 e] at h3; exact absurd h3.2 (by simp)
      rw [nh h4]
      simp [h5]
    · rfl
  · split
    · rename_i d hd
      have h3:=land_zero (i:=d) h2 (dst_bit.2 hd)
      have h4:d∉looks ops x:=fun e=>by rw [look_bit.2 e] at h3; exact absurd h3 (by simp)
      rw [nh h4]; rfl
    · rfl
theorem rowB_ok {ops:Array Oper} {a:Nat} {y:Oper} {ly:List Nat}:∀ {xs:List (Oper×List Nat)} {i:Nat},rowB ops a y ly xs i=true→∀ k x,xs[k]?=some x→a.testBit (i + k)=false→pairB ops x.1 y x.2 ly=true
  | [],_,_,k,x,hx,_=>by simp at hx
  | x'::r,i,h,k,x,hx,hb=>by
    simp only [rowB,Bool.and_eq_true,Bool.or_eq_true] at h
    cases k with
    | zero=>
      simp only [List.getElem?_cons_zero,Option.some.injEq] at hx
      subst hx
      rcases h.1 with h1 | h1
      · have h2:(a >>> i) &&& 1=1:=Nat.eq_of_beq_eq_true h1
        have:a.testBit i=true:=by unfold Nat.testBit; rw [Nat.and_comm] at h2; rw [h2]; rfl
        rw [Nat.add_zero] at hb
        rw [this] at hb; cases hb
      · exact h1
    | succ k=>
      simp only [List.getElem?_cons_succ] at hx
      exact rowB_ok h.2 k x hx (by rw [← hb]; congr 1; omega)
def InvM (ms:List Nat) (acc:List (List Nat)):Prop:=ms.length=acc.length∧∀ k i,(ms.getD k 0).testBit i=true→i∈acc.getD k []
theorem fold_mem {acc:List (List Nat)} {k:Nat} (es:List Edge):∀ s,(k∈s∨∃ e∈es,Region.binds .any e=true∧(k=e.on∨k∈acc.getD e.on []))→k∈es.foldl (fun s e=>if Region.binds .any e then (e.on::(acc.getD e.on []))++s else s) s:=by
  induction es with
  | nil=>intro s h; rcases h with h | ⟨e,h,_⟩; exact h; simp at h
  | cons e es ih=>
    intro s h
    simp only [List.foldl_cons]
    refine ih _ ?_
    rcases h with h | ⟨e',h1,h2,h3⟩
    · left; split
      · exact List.mem_append_right _ h
      · exact h
    · rcases List.mem_cons.1 h1 with rfl | h1
      · left
        rw [if_pos h2]
        refine List.mem_append_left _ ?_
        rcases h3 with rfl | h3
        · exact List.mem_cons_self ..
        · exact List.mem_cons_of_mem _ h3
      · exact .inr ⟨e',h1,h2,h3⟩
theorem aheadM_ok {ms:List Nat} {acc:List (List Nat)} (hi:InvM ms acc) {o:Oper} {i:Nat} (h:(aheadM ms o).testBit i=true):i∈aheadOf acc o:=by
  unfold aheadM at h
  obtain ⟨e,he,hb⟩:=orN_bit.1 h
  refine fold_mem _ _ (.inr ⟨e,he,?_⟩)
  cases hbb:Region.binds .any e with
  | false=>rw [hbb] at hb; simp at hb
  | true=>
    rw [hbb] at hb
    have hb:((Nat.pow 2 e.on) ||| (nthN ms e.on)).testBit i=true:=hb
    rw [Nat.testBit_or,Bool.or_eq_true] at hb
    refine ⟨rfl,hb.imp (fun h=>(pow_bit.1 h).symm) fun h=>?_⟩
    rw [nthN_eq] at h
    exact hi.2 _ _ h
theorem InvM.snoc {ms:List Nat} {acc:List (List Nat)} (hi:InvM ms acc) (o:Oper):InvM (ms++[aheadM ms o]) (acc++[aheadOf acc o]):=by
  refine ⟨by simp [hi.1],fun k i h=>?_⟩
  rw [List.getD_eq_getElem?_getD] at h ⊢
  rcases Nat.lt_trichotomy k ms.length with hk | hk | hk
  · rw [List.getElem?_append_left hk] at h
    rw [List.getElem?_append_left (by rw [← hi.1]; exact hk)]
    have:=hi.2 k i
    rw [List.getD_eq_getElem?_getD,List.getD_eq_getElem?_getD] at this
    exact this h
  · subst hk
    rw [List.getElem?_append_right (Nat.le_refl _)] at h
    rw [hi.1,List.getElem?_append_right (Nat.le_refl _)]
    simp only [Nat.sub_self,List.getElem?_cons_zero,Option.getD_some] at h ⊢
    exact aheadM_ok hi h
  · rw [List.getElem?_eq_none (by simp; omega)] at h
    simp at h
theorem drawGo_ok {ops : Array Oper} {labs : List (List Nat)} : ∀ (r pre : List Oper) (ms : List Nat) (xs : List (Oper × List Nat)), ops.toList = pre ++ r → InvM ms (pre.foldl (fun acc o => acc ++ [aheadOf acc o]) []) →
    xs.length=pre.length→(∀ i x,pre[i]?=some x→xs[i]?=some (x,labs.getD i []))→drawGo ops r (labs.drop pre.length) ms xs pre.length=true→
    ∀ k y,r[k]?=some y→edgeB y (pre.length + k)=true∧∀ i x,i < pre.length + k→ops.toList[i]?=some x→i∉(aheads ops).getD (pre.length + k) []→pairB ops x y (labs.getD i []) (labs.getD (pre.length + k) [])=true
  | [],_,_,_,_,_,_,_,_,k,y,h=>by simp at h
  | y::r,pre,ms,xs,hop,hi,hxl,hxs,h,k,y',hy=>by
    simp only [drawGo,Bool.and_eq_true] at h
    have hhd:(labs.drop pre.length).headD []=labs.getD pre.length []:=by
      rw [List.getD_eq_getElem?_getD,List.headD_eq_head?_getD,List.head?_drop]
    have hlen:(pre.foldl (fun acc o=>acc++[aheadOf acc o]) []).length=pre.length:=by
      have:∀ (l:List Oper) (acc:List (List Nat)),(l.foldl (fun acc o=>acc++[aheadOf acc o]) acc).length=acc.length + l.length:=by
        intro l
        induction l with
        | nil=>intro acc; simp
        | cons o l ih=>intro acc; simp only [List.foldl_cons,ih]; simp; omega
      rw [this]; simp
    have hah:(aheads ops).getD pre.length []=aheadOf (pre.foldl (fun acc o=>acc++[aheadOf acc o]) []) y:=by
      have e:aheads ops=ops.toList.foldl (fun acc o=>acc++[aheadOf acc o]) []:=rfl
      rw [e,hop,List.foldl_append,List.foldl_cons]
      obtain ⟨post,hp⟩:=fold_prefix r ((pre.foldl (fun acc o=>acc++[aheadOf acc o]) [])++[aheadOf (pre.foldl (fun acc o=>acc++[aheadOf acc o]) []) y])
      rw [hp,List.getD_eq_getElem?_getD,List.append_assoc,List.getElem?_append_right (by omega),hlen]
      simp
    cases k with
    | zero=>
      simp only [List.getElem?_cons_zero,Option.some.injEq] at hy
      subst hy
      refine ⟨h.1.1,fun i x hik hx hn=>?_⟩
      simp only [Nat.add_zero] at hik hn ⊢
      rw [hop,List.getElem?_append_left hik] at hx
      have hr:=rowB_ok h.1.2 i _ (hxs i x hx) (by
        rw [Nat.zero_add]
        cases e:(aheadM ms y).testBit i with
        | false=>rfl
        | true=>rw [hah] at hn; exact (hn (aheadM_ok hi e)).elim)
      rw [hhd] at hr
      exact hr
    | succ k=>
      simp only [List.getElem?_cons_succ] at hy
      have hd:(labs.drop pre.length).tail=labs.drop (pre++[y]).length:=by simp
      rw [hd,hhd] at h
      have hl:(pre++[y]).length=pre.length + 1:=by simp
      have:=drawGo_ok r (pre++[y]) (ms++[aheadM ms y]) (xs++[(y,labs.getD pre.length [])]) (by rw [hop]; simp) (by rw [List.foldl_append]; exact hi.snoc y) (by simp [hxl]) (fun i x hx=>?_) (by rw [hl] at h ⊢; exact h.2) k y' hy
      · rw [hl] at this
        rw [show pre.length + (k + 1)=pre.length + 1 + k by omega]
        exact this
      · rcases Nat.lt_trichotomy i pre.length with hk | hk | hk
        · rw [List.getElem?_append_left hk] at hx
          rw [List.getElem?_append_left (by omega)]
          exact hxs i x hx
        · subst hk
          rw [List.getElem?_append_right (Nat.le_refl _)] at hx
          rw [← hxl,List.getElem?_append_right (Nat.le_refl _)]
          simp only [Nat.sub_self,List.getElem?_cons_zero,Option.some.injEq] at hx ⊢
          rw [hx,hxl]
        · rw [List.getElem?_eq_none (by simp; omega)] at hx
          simp at hx
theorem drawF_ok {ops:Array Oper} {labs:List (List Nat)} (h:drawF ops labs=true):(drawOK ops&&apartAll labs (askPairs ops))=true:=by
  have key:=drawGo_ok (ops:=ops) (labs:=labs) ops.toList [] [] [] rfl ⟨rfl,fun k i h=>by simp at h⟩ rfl (fun i x h=>by simp at h) h
  simp only [List.length_nil,Nat.zero_add] at key
  have pr:∀ ij∈unordered ops,∃ x y,ops[ij.1]?=some x∧ops[ij.2]?=some y∧pairB ops x y (labs.getD ij.1 []) (labs.getD ij.2 [])=true:=by
    intro ij hij
    unfold unordered pairsOf at hij
    rw [List.mem_filter] at hij
    obtain ⟨h1,h2⟩:=hij
    obtain ⟨j,hj,h3⟩:=List.mem_flatMap.1 h1
    obtain ⟨i,hi,rfl⟩:=List.mem_map.1 h3
    have hj:=List.mem_range.1 hj
    have hi:=List.mem_range.1 hi
    have ej:ops[j]?=some ops[j]:=Array.getElem?_eq_getElem hj
    have ei:ops[i]?=some (ops[i]'(by omega)):=Array.getElem?_eq_getElem (by omega)
    refine ⟨_,_,ei,ej,(key j _ (by simp)).2 i _ hi (by simp) fun e=>?_⟩
    simp only [(has_iff _ _).2 e] at h2
    cases h2
  rw [Bool.and_eq_true]
  constructor
  · unfold drawOK
    rw [Bool.and_eq_true]
    constructor
    · rw [List.all_eq_true]
      intro ij hij
      obtain ⟨x,y,e1,e2,hp⟩:=pr ij hij
      rw [e1,e2]
      exact (pairB_ok hp).1
    · rw [List.all_eq_true]
      intro oi hoi
      obtain ⟨h1,h2⟩:=List.mem_zipIdx_iff_getElem?.1 hoi |> fun e=>(⟨e,trivial⟩:ops.toList[oi.2]?=some oi.1∧True)
      exact (key oi.2 oi.1 h1).1
  · unfold apartAll
    rw [List.all_eq_true]
    intro ij hij
    unfold askPairs at hij
    rw [List.mem_filter] at hij
    obtain ⟨h1,h2⟩:=hij
    obtain ⟨x,y,e1,e2,hp⟩:=pr ij h1
    rw [e1,e2] at h2
    simp only [Bool.not_eq_true'] at h2
    have h3:=(pairB_ok hp).2
    rw [h2,Bool.false_or] at h3
    exact h3
section f
universe uu
variable {β:Type uu} {γ:Type}
def forceN (n:Nat) (k:Nat→β):β:=@Nat.rec (fun _=>β) (k 0) (fun m _=>k (Nat.succ m)) n
def forceL (l:List γ) (k:List γ→β):β:=@List.rec γ (fun _=>β) (k []) (fun e r _=>k (e::r)) l
def forceB (b:Bool) (k:Bool→β):β:=@Bool.rec (fun _=>β) (k false) (k true) b
theorem forceN_eq (n:Nat) (k:Nat→β):forceN n k=k n:=by cases n<;>rfl
theorem forceL_eq (l:List γ) (k:List γ→β):forceL l k=k l:=by cases l<;>rfl
theorem forceB_eq (b:Bool) (k:Bool→β):forceB b k=k b:=by cases b<;>rfl
def nfS [CT] (σ:TSt) (κ:TSt→β):β:=match σ with
  | ⟨lvl,n,keep,sl,ob,rnd,dfs⟩=>forceN lvl fun lvl=>forceN n fun n=>forceL keep fun keep=>forceL sl fun sl=>forceL ob fun ob=>forceB rnd fun rnd=>forceL dfs fun dfs=>κ ⟨lvl,n,keep,sl,ob,rnd,dfs⟩
theorem nfS_eq [CT] (σ:TSt) (κ:TSt→β):nfS σ κ=κ σ:=by
  obtain ⟨lvl,n,keep,sl,ob,rnd,dfs⟩:=σ
  simp only [nfS,forceN_eq,forceL_eq,forceB_eq]
end f
end Go.Rx
end
noncomputable section
namespace Go.Rx
theorem weak_mv {σ : St} {t l l' n sz : Nat} {x : PV} (ht : get σ.sl t = some (.v l n)) (hl : get σ.ob l = some (.vec false sz x)) (hl' : get σ.ob l' = none) (hk : l ∉ σ.keep)
    (hs:∀ t' y,t'≠t→get σ.sl t'=some y→l∉y.names) (ho:∀ m o,get σ.ob m=some o→l∉o.names) :
    Weak σ { σ with sl:=ins t (.v l' n) σ.sl,ob:=ins l' (.vec false sz x) (dropOb l σ.ob) }:=by
  have hne:l≠l':=fun e=>by subst e; rw [hl'] at hl; cases hl
  have hg:∀ m,get (ins l' (.vec false sz x) (dropOb l σ.ob)) m=if l'=m then some (.vec false sz x) else if m=l then none else get σ.ob m:=fun m=>by rw [get_ins,get_drop]
  refine ⟨rfl,?_⟩
  rintro h₀ γ₀ G₀ w₀ a w ⟨γ,G,S⟩
  have hag:∀ ns:List Nat,l∉ns→(∀ m∈ns,∃ o,get σ.ob m=some o)→Agree σ.ob (ins l' (.vec false sz x) (dropOb l σ.ob)) γ (upd γ l' (γ l)) ns:=fun ns h1 h2 m hm=>by
    obtain ⟨o,h3⟩:=h2 m hm
    have e1:l'≠m:=fun e=>by subst e; rw [hl'] at h3; cases h3
    have e2:m≠l:=fun e=>by subst e; exact h1 hm
    exact ⟨by rw [hg,if_neg e1,if_neg e2],upd_other _ _ (fun e=>e1 e.symm)⟩
  have hold:∀ m o,m≠l'→get (ins l' (.vec false sz x) (dropOb l σ.ob)) m=some o→m≠l∧get σ.ob m=some o:=fun m o h1 h2=>by
    rw [hg,if_neg (fun e=>h1 e.symm)] at h2
    split at h2
    · cases h2
    · exact ⟨by assumption,h2⟩
  have hlive:∀ m o,m≠l'→(live (upd γ l' (γ l)) m o↔live γ m o):=fun m o h1=>live_congr (upd_other _ _ h1)
  have H:HeapOK (ins l' (.vec false sz x) (dropOb l σ.ob)) (upd γ l' (γ l)) G w:=by
    refine ⟨fun m o hm=>?_,fun m m' o o' h1 h2 v1 v2 e=>?_,S.heap.gok,fun m o hm k hk'=>?_⟩
    · by_cases e:m=l'
      · subst e
        rw [hg,if_pos rfl] at hm
        cases hm
        have h0:=S.heap.obj _ _ hl
        simp only [ObjOK,upd_same] at h0 ⊢
        exact h0
      · obtain ⟨h1,h2⟩:=hold m o e hm
        exact ObjOK_agree (hag _ (ho m o h2) (fun k hk'=>S.heap.closed m o h2 k hk')) (upd_other _ _ e) (S.heap.obj m o h2)
    · by_cases e1:m=l'<;>by_cases e2:m'=l'
      · rw [e1,e2]
      · subst e1
        rw [hg,if_pos rfl] at h1
        cases h1
        obtain ⟨g1,g2⟩:=hold m' o' e2 h2
        rw [upd_same,upd_other _ _ e2] at e
        have:=S.heap.inj l m' _ _ hl g2 (by simp only [live,upd_same] at v1 ⊢; exact v1) ((hlive m' o' e2).1 v2) e
        exact (g1 this.symm).elim
      · subst e2
        rw [hg,if_pos rfl] at h2
        cases h2
        obtain ⟨g1,g2⟩:=hold m o e1 h1
        rw [upd_same,upd_other _ _ e1] at e
        have:=S.heap.inj m l _ _ g2 hl ((hlive m o e1).1 v1) (by simp only [live,upd_same] at v2 ⊢; exact v2) e
        exact (g1 this).elim
      · obtain ⟨g1,g2⟩:=hold m o e1 h1
        obtain ⟨g3,g4⟩:=hold m' o' e2 h2
        rw [upd_other _ _ e1,upd_other _ _ e2] at e
        exact S.heap.inj m m' o o' g2 g4 ((hlive m o e1).1 v1) ((hlive m' o' e2).1 v2) e
    · by_cases e:m=l'
      · subst e
        rw [hg,if_pos rfl] at hm
        cases hm
        simp [AObj.names] at hk'
      · obtain ⟨h1,h2⟩:=hold m o e hm
        obtain ⟨y,hy⟩:=S.heap.closed m o h2 k hk'
        have e3:k≠l:=fun e=>by subst e; exact ho m o h2 hk'
        rw [hg]
        split
        · exact ⟨_,rfl⟩
        · exact ⟨y,hy⟩
  have hh0:get h₀ l=none:=by
    cases e:get h₀ l with
    | none=>rfl
    | some o=>exact (hk (S.keep l o e)).elim
  have T:Trans h₀ γ₀ G₀ w₀ (ins l' (.vec false sz x) (dropOb l σ.ob)) (upd γ l' (γ l)) G w:=by
    refine ⟨S.tr.keeps,S.tr.size,S.tr.frame,S.tr.gnew,fun m o hm=>?_,fun m o hm hv=>?_,S.tr.io⟩
    · obtain ⟨o',h1,h2⟩:=S.tr.kept m o hm
      have e1:m≠l:=fun e=>by subst e; rw [hh0] at hm; cases hm
      have e2:m≠l':=fun e=>by subst e; rw [hl'] at h1; cases h1
      refine ⟨o',by rw [hg,if_neg (fun e=>e2 e.symm),if_neg e1]; exact h1,keptM_congr h2 (upd_other _ _ e2)⟩
    · by_cases e:m=l'
      · subst e
        rw [hg,if_pos rfl] at hm
        cases hm
        rw [upd_same]
        exact S.tr.fresh l _ hl (by simp only [live,upd_same] at hv ⊢; exact hv)
      · obtain ⟨h1,h2⟩:=hold m o e hm
        rw [upd_other _ _ e]
        exact S.tr.fresh m o h2 ((hlive m o e).1 hv)
  have hd:∀ d∈σ.dfs,d≠l∧d≠l':=fun d hd=>by
    obtain ⟨⟨b,hb⟩,_⟩:=S.dfr d hd
    exact ⟨fun e=>(by subst e; rw [hl] at hb; cases hb),fun e=>(by subst e; rw [hl'] at hb; cases hb)⟩
  refine ⟨upd γ l' (γ l),G,H,fun t' y hy=>?_,S.size,T,S.keep,?_,fun d hdd=>?_,S.dfk⟩
  · simp only [get_ins] at hy
    split at hy
    · rename_i e
      subst e
      cases hy
      obtain ⟨v,e1,c,e2,e3⟩:=S.slots _ _ ht
      refine ⟨v,e1,c,?_,e3⟩
      simp only [RepC] at e2 ⊢
      obtain ⟨a',cap,h1,h2,h3⟩:=e2
      refine ⟨a',cap,h1,h2,?_⟩
      rw [upd_same,hg,if_pos rfl]
      rcases h3 with ⟨fz,sz',x',g1,g2⟩ | ⟨xs,b,g1,g2,g3⟩
      · rw [hl] at g1
        cases g1
        exact .inl ⟨_,_,_,rfl,g2⟩
      · rw [hl] at g2; cases g2
    · rename_i e
      obtain ⟨v,e1,e2⟩:=S.slots _ _ hy
      exact ⟨v,e1,RepV_agree (hag _ (hs t' y (fun h=>e h.symm) hy) (RepV_names e2)) e2⟩
  · rw [S.defers]
    exact List.map_congr_left fun d hdd=>by rw [upd_other _ _ (hd d hdd).2]
  · obtain ⟨⟨b,hb⟩,h5⟩:=S.dfr d hdd
    exact ⟨⟨b,by rw [hg,if_neg (fun e=>(hd d hdd).2 e.symm),if_neg (hd d hdd).1]; exact hb⟩,h5⟩
end Go.Rx
end
