/- A machine over pure data, sound for the model: a part of the proof of the laws. No condition. -/
import Derived.RangeFuncLeaves
import Derived.RangeFuncCalls
import Derived.RangeFuncRecord
import Derived.LoopNIn
import Derived.OrdersIn
import Derived.LoopN
import Derived.Scope
import Derived.Orders
import Derived.Test.YtmnngfcoenhhkaaGreatComA
set_option linter.unusedSimpArgs false
set_option linter.unusedVariables false
set_option linter.unusedSectionVars false
noncomputable section
namespace Go.Rx
section g
variable {P:Program} {ob:Ob} {γ:Hm} {G:Gh} {w:World}
theorem mapFind_ix {k:PV}:∀ {es:Ents} {r:Option (AV×Nat)},mapFind k es=some r→∃ i,mapIx k es=some i∧r=i.bind fun i=>(es[i]?).map fun e=>e.2
  | [],r,h=>by simp [mapFind] at h; exact ⟨none,rfl,by simp [← h]⟩
  | (j,x,n)::es,r,h=>by
    simp only [mapFind] at h
    split at h
    · rename_i hk; simp only [Option.some.injEq] at h; exact ⟨some 0,by simp [mapIx,hk],by simp [← h]⟩
    · rename_i hk
      obtain ⟨i,h1,h2⟩:=mapFind_ix h
      refine ⟨i.map (· + 1),by simp [mapIx,hk,h1],?_⟩
      rw [h2]; cases i<;>simp
    · simp at h
theorem mapIx_hit {k:PV}:∀ {es:Ents} {i:Nat},mapIx k es=some (some i)→∃ j x n,es[i]?=some (j,x,n)∧keyEq k j=some true
  | [],i,h=>by simp [mapIx] at h
  | (j,x,n)::es,i,h=>by
    simp only [mapIx] at h
    split at h
    · rename_i hk; simp only [Option.some.injEq] at h; subst h; exact ⟨j,x,n,rfl,hk⟩
    · rename_i hk
      split at h
      · rename_i i' hi
        simp only [Option.some.injEq] at h
        cases i' with
        | none=>simp at h
        | some i'=>
          simp only [Option.map_some,Option.some.injEq] at h
          subst h
          obtain ⟨j',x',n',h1,h2⟩:=mapIx_hit hi
          exact ⟨j',x',n',by simpa using h1,h2⟩
      · simp at h
    · simp at h
theorem mapPut_ix {k : PV} {x : AV} {c : Nat} : ∀ {es : Ents} {c' : Nat} {es' : Ents}, mapPut k x c es = some (c', es') →
    (mapIx k es=some none∧c'=c + 1∧es'=es++[(k,x,c)])∨(∃ i j y n,mapIx k es=some (some i)∧es[i]?=some (j,y,n)∧keyEq k j=some true∧c'=c∧es'=es.set i (k,x,n))
  | [],c',es',h=>by simp [mapPut] at h; exact .inl ⟨rfl,h.1.symm,by simp [h.2]⟩
  | (j,y,n)::es,c',es',h=>by
    simp only [mapPut] at h
    split at h
    · rename_i hk
      simp only [Option.some.injEq,Prod.mk.injEq] at h
      exact .inr ⟨0,j,y,n,by simp [mapIx,hk],rfl,hk,h.1.symm,by simp [h.2]⟩
    · rename_i hk
      split at h
      · rename_i c1 es1 h1
        simp only [Option.some.injEq,Prod.mk.injEq] at h
        obtain ⟨rfl,rfl⟩:=h
        rcases mapPut_ix h1 with ⟨h2,h3,h4⟩ | ⟨i,j',y',n',h2,h3,h4,h5,h6⟩
        · exact .inl ⟨by simp [mapIx,hk,h2],h3,by simp [h4]⟩
        · exact .inr ⟨i + 1,j',y',n',by simp [mapIx,hk,h2],by simpa using h3,h4,h5,by simp [h6]⟩
      · simp at h
    · simp at h
theorem mapDel_ix {k:PV}:∀ {es es':Ents},mapDel k es=some es'→(mapIx k es=some none∧es'=es)∨(∃ i,mapIx k es=some (some i)∧i < es.length∧es'=es.eraseIdx i)
  | [],es',h=>by simp [mapDel] at h; exact .inl ⟨rfl,by simp [h]⟩
  | (j,y,n)::es,es',h=>by
    simp only [mapDel] at h
    split at h
    · rename_i hk
      simp only [Option.some.injEq] at h
      exact .inr ⟨0,by simp [mapIx,hk],by simp,by simp [h]⟩
    · rename_i hk
      split at h
      · rename_i es1 h1
        simp only [Option.some.injEq] at h
        subst h
        rcases mapDel_ix h1 with ⟨h2,h3⟩ | ⟨i,h2,h3,h4⟩
        · exact .inl ⟨by simp [mapIx,hk,h2],by simp [h3]⟩
        · exact .inr ⟨i + 1,by simp [mapIx,hk,h2],by simp; omega,by simp [h4]⟩
      · simp at h
    · simp at h
theorem mapAt_ix {b:Int} {x:AV}:∀ {es es':Ents},mapAt b x es=some es'→∃ (i:Nat) (j:PV) (y:AV) (n:Nat),es[i]?=some (j,y,n)∧(n:Int)=b∧es'=es.set i (j,x,n)∧∀ (i':Nat) (e:PV×AV×Nat),i' < i→es[i']?=some e→(e.2.2:Int)≠b
  | [],es',h=>by simp [mapAt] at h
  | (j,y,n)::es,es',h=>by
    simp only [mapAt] at h
    split at h
    · rename_i hk
      simp only [decide_eq_true_eq] at hk
      simp only [Option.some.injEq] at h
      exact ⟨0,j,y,n,rfl,hk,by simp [h],fun i' e h=>by omega⟩
    · rename_i hk
      simp only [decide_eq_false_iff_not] at hk
      split at h
      · rename_i es1 h1
        simp only [Option.some.injEq] at h
        subst h
        obtain ⟨i,j',y',n',h2,h3,h4,h5⟩:=mapAt_ix h1
        refine ⟨i + 1,j',y',n',by simpa using h2,h3,by simp [h4],fun i' e hi' he=>?_⟩
        cases i' with
        | zero=>simp at he; subst he; exact hk
        | succ i'=>exact h5 i' e (by omega) (by simpa using he)
      · simp at h
theorem RepEnts.len:∀ {es:Ents} {l:List MapEntry},RepEnts ob γ G w es l→es.length=l.length
  | [],l,h=>by simp only [RepEnts] at h; subst h; rfl
  | (k,x,n)::es,l,h=>by
    simp only [RepEnts] at h
    obtain ⟨e,t,rfl,_,_,_,h⟩:=h
    simp [RepEnts.len h]
theorem RepEnts.at:∀ {es:Ents} {l:List MapEntry} {i:Nat} {k:PV} {x:AV} {n:Nat},RepEnts ob γ G w es l→es[i]?=some (k,x,n)→∃ e,l[i]?=some e∧RepV ob γ G w (.pv k) e.key∧(RepV ob γ G w x e.val∧x.isPV=true)∧e.born=n
  | [],l,i,k,x,n,_,h=>by simp at h
  | (k',x',n')::es,l,i,k,x,n,h,hi=>by
    simp only [RepEnts] at h
    obtain ⟨e,t,rfl,h1,h2,h3,h4⟩:=h
    cases i with
    | zero=>simp at hi; obtain ⟨rfl,rfl,rfl⟩:=hi; exact ⟨e,rfl,h1,h2,h3⟩
    | succ i=>obtain ⟨e',h5,h6⟩:=RepEnts.at h4 (by simpa using hi); exact ⟨e',by simpa using h5,h6⟩
theorem RepEnts.set:∀ {es:Ents} {l:List MapEntry} {i:Nat} {k:PV} {x:AV} {n:Nat} {e:MapEntry},RepEnts ob γ G w es l→RepV ob γ G w (.pv k) e.key→(RepV ob γ G w x e.val∧x.isPV=true)→e.born=n→RepEnts ob γ G w (es.set i (k,x,n)) (l.set i e)
  | [],l,i,k,x,n,e,h,_,_,_=>by simp only [RepEnts] at h; subst h; simp [RepEnts]
  | (k',x',n')::es,l,i,k,x,n,e,h,g1,g2,g3=>by
    simp only [RepEnts] at h
    obtain ⟨e',t,rfl,h1,h2,h3,h4⟩:=h
    cases i with
    | zero=>simp only [List.set_cons_zero,RepEnts]; exact ⟨e,t,rfl,g1,g2,g3,h4⟩
    | succ i=>simp only [List.set_cons_succ,RepEnts]; exact ⟨e',_,rfl,h1,h2,h3,RepEnts.set h4 g1 g2 g3⟩
theorem RepEnts.push:∀ {es:Ents} {l:List MapEntry} {k:PV} {x:AV} {n:Nat} {e:MapEntry},RepEnts ob γ G w es l→RepV ob γ G w (.pv k) e.key→(RepV ob γ G w x e.val∧x.isPV=true)→e.born=n→RepEnts ob γ G w (es++[(k,x,n)]) (l++[e])
  | [],l,k,x,n,e,h,g1,g2,g3=>by simp only [RepEnts] at h; subst h; simp only [List.nil_append,RepEnts]; exact ⟨e,[],rfl,g1,g2,g3,rfl⟩
  | (k',x',n')::es,l,k,x,n,e,h,g1,g2,g3=>by
    simp only [RepEnts] at h
    obtain ⟨e',t,rfl,h1,h2,h3,h4⟩:=h
    simp only [List.cons_append,RepEnts]; exact ⟨e',_,rfl,h1,h2,h3,RepEnts.push h4 g1 g2 g3⟩
theorem RepEnts.erase:∀ {es:Ents} {l:List MapEntry} {i:Nat},RepEnts ob γ G w es l→RepEnts ob γ G w (es.eraseIdx i) (l.eraseIdx i)
  | [],l,i,h=>by simp only [RepEnts] at h; subst h; simp [RepEnts]
  | (k',x',n')::es,l,i,h=>by
    simp only [RepEnts] at h
    obtain ⟨e',t,rfl,h1,h2,h3,h4⟩:=h
    cases i with
    | zero=>simpa using h4
    | succ i=>simp only [List.eraseIdx_cons_succ,RepEnts]; exact ⟨e',_,rfl,h1,h2,h3,RepEnts.erase h4⟩
theorem fit_keyEq {kt:TypeId} {k j:PV} {b:Bool} (hf:fit P 30 kt (.pv k)=true) (h:keyEq k j=some b):fit P 30 kt (.pv j)=true∧PV.alike k j=true∧PV.eqb k j=some b:=by
  unfold keyEq at h
  split at h
  · rename_i ha; exact ⟨(fit_alike 30).1 kt k j ha hf,ha,h⟩
  · simp at h
theorem key_equal {kt:TypeId} {k j:PV} {b:Bool} {vk vj:Value} (ht:eqT P 30 kt=true) (hf:fit P 30 kt (.pv k)=true) (h:keyEq k j=some b) (hk:RepV ob γ G w (.pv k) vk) (hj:RepV ob γ G w (.pv j) vj):(Op.equal kt vk vj).run P w=.ok b w:=by
  obtain ⟨h1,_,h2⟩:=fit_keyEq hf h
  obtain ⟨cs,hr,ho⟩:=RepV_pv.1 hk
  obtain ⟨ds,hr',ho'⟩:=RepV_pv.1 hj
  exact (eq_all (P:=P) 30).1 G w w kt k j b cs ds vk vj 30 30 10000 ht hf h1 h2 hr hr' ho ho' (by omega)
theorem ba_beq (x y:List UInt8):((ByteArray.mk x.toArray) == (ByteArray.mk y.toArray))=decide (x=y):=by
  change (x.toArray == y.toArray)=decide (x=y)
  rw [Bool.eq_iff_iff]; simp
theorem key_now {d:TypeDesc} {k j:PV} {b:Bool} {vk vj:Value} (h:keyEq k j=some b) (hk:RepV ob γ G w (.pv k) vk) (hj:RepV ob γ G w (.pv j) vj):Instr.sameNow d vk vj=some b∨Instr.sameNow d vk vj=none:=by
  unfold keyEq at h
  split at h
  · rename_i ha
    obtain ⟨cs,hr,ho⟩:=RepV_pv.1 hk
    obtain ⟨ds,hr',ho'⟩:=RepV_pv.1 hj
    cases k<;>cases j<;>simp only [PV.alike,Bool.false_eq_true] at ha<;>simp only [RepP] at hr hr'<;>simp only [AV.isAgg,ofCells] at ho ho'
    · rw [hr] at ho; rw [hr'] at ho'; cases ho; cases ho'
      simp only [PV.eqb] at h
      cases d<;>first | (right; rfl) | (left; simp only [Instr.sameNow]; rw [← h]; congr 1)
    · rw [hr] at ho; rw [hr'] at ho'; cases ho; cases ho'
      simp only [decide_eq_true_eq] at ha; subst ha
      simp only [PV.eqb,decide_true] at h
      cases d<;>first | (right; rfl) | (left; simp only [Instr.sameNow,if_true]; rw [← h]; congr 1)
    · rw [hr] at ho; rw [hr'] at ho'; cases ho; cases ho'
      simp only [PV.eqb] at h
      cases d<;>first | (right; rfl) | (left; simp only [Instr.sameNow]; rw [← h]; congr 1; exact ba_beq _ _)
    all_goals (subst ho; subst ho'; right; cases d<;>rfl)
  · simp at h
def hit (l:List MapEntry) (o:Nat) (r:Option Nat):Option (Nat×Value):=r.bind fun i=>(l[i]?).map fun e=>(o + i,e.val)
theorem findNow_ok {d : TypeDesc} {k : PV} {vk : Value} (hk : RepV ob γ G w (.pv k) vk) : ∀ {es : Ents} {l : List MapEntry} {r : Option Nat} (o : Nat), RepEnts ob γ G w es l → mapIx k es = some r →
    Instr.findNow d vk l o=some (hit l o r)∨Instr.findNow d vk l o=none
  | [],l,r,o,h,hr=>by simp only [RepEnts] at h; subst h; simp [mapIx] at hr; subst hr; exact .inl rfl
  | (j,x,n)::es,l,r,o,h,hr=>by
    simp only [RepEnts] at h
    obtain ⟨e,t,rfl,h1,h2,h3,h4⟩:=h
    simp only [mapIx] at hr
    split at hr
    · rename_i hq
      simp only [Option.some.injEq] at hr; subst hr
      simp only [Instr.findNow]
      rcases key_now (d:=d) hq hk h1 with h5 | h5<;>rw [h5]
      · exact .inl rfl
      · exact .inr rfl
    · rename_i hq
      split at hr
      · rename_i i hi
        simp only [Option.some.injEq] at hr; subst hr
        simp only [Instr.findNow]
        rcases key_now (d:=d) hq hk h1 with h5 | h5<;>rw [h5]
        · rcases findNow_ok (d:=d) hk (o + 1) h4 hi with h6 | h6
          · left; simp only [h6]
            cases i with
            | none=>rfl
            | some i=>simp only [hit,Option.bind_some,Option.map_some,List.getElem?_cons_succ]; cases t[i]?<;>simp; omega
          · exact .inr h6
        · exact .inr rfl
      · simp at hr
    · simp at hr
theorem findAsking_ok {kt : TypeId} {k : PV} {vk : Value} (ht : eqT P 30 kt = true) (hf : fit P 30 kt (.pv k) = true) (hk : RepV ob γ G w (.pv k) vk) : ∀ {es : Ents} {l : List MapEntry} {r : Option Nat} (o : Nat), RepEnts ob γ G w es l → mapIx k es = some r →
    (Instr.findAsking kt vk l o).run P w=.ok (hit l o r) w
  | [],l,r,o,h,hr=>by simp only [RepEnts] at h; subst h; simp [mapIx] at hr; subst hr; rfl
  | (j,x,n)::es,l,r,o,h,hr=>by
    simp only [RepEnts] at h
    obtain ⟨e,t,rfl,h1,h2,h3,h4⟩:=h
    simp only [mapIx] at hr
    split at hr
    · rename_i hq
      simp only [Option.some.injEq] at hr; subst hr
      simp [Instr.findAsking,key_equal ht hf hq hk h1,hit]
    · rename_i hq
      split at hr
      · rename_i i hi
        simp only [Option.some.injEq] at hr; subst hr
        have:=findAsking_ok ht hf hk (o + 1) h4 hi
        simp only [Instr.findAsking,Sem.run_bind,key_equal ht hf hq hk h1,Result.andThen_ok,Bool.false_eq_true,if_false,this]
        congr 1
        cases i with
        | none=>rfl
        | some i=>simp only [hit,Option.bind_some,Option.map_some,List.getElem?_cons_succ]; cases t[i]?<;>simp; omega
      · simp at hr
    · simp at hr
theorem findKey_ok {kt : TypeId} {k : PV} {vk : Value} (ht : eqT P 30 kt = true) (hf : fit P 30 kt (.pv k) = true) (hk : RepV ob γ G w (.pv k) vk) {es : Ents} {l : List MapEntry} {r : Option Nat} (h : RepEnts ob γ G w es l) (hr : mapIx k es = some r) :
    (Instr.findKey kt vk l).run P w=.ok (hit l 0 r) w:=by
  obtain ⟨td,hu,_⟩:=fit_agg hf
  simp only [Instr.findKey,Sem.run_bind,run_underlying hu,Result.andThen_ok]
  rcases findNow_ok (d:=td) hk 0 h hr with h1 | h1<;>simp only [h1]
  · rfl
  · exact findAsking_ok ht hf hk 0 h hr
theorem checkKey_ok {kt:TypeId} {k:PV} {vk:Value} (ht:eqT P 30 kt=true) (hf:fit P 30 kt (.pv k)=true) (hk:RepV ob γ G w (.pv k) vk) (em:Bool):(Instr.checkKey em 10000 kt vk).run P w=.ok () w:=by
  obtain ⟨cs,hr,ho⟩:=RepV_pv.1 hk
  exact check_all 30 G w w em kt k cs vk 30 10000 ht hf hr ho (by omega)
theorem run_getMap {r:Nat} {es:Array MapEntry} {clock:Nat} (hb:w.heap[r]?=some (.map es clock)):(getObj r).run P w=.ok (.map es clock) w:=by simp [getObj,Sem.run,hb]
theorem run_setMap {r:Nat} {es:Array MapEntry} {clock:Nat} (o:Obj) (hb:w.heap[r]?=some (.map es clock)):(setObj r o).run P w=.ok () { w with heap:=w.heap.setIfInBounds r o }:=by simp [setObj,Sem.run,hb]
theorem lookupOp_sound (H : HeapOK ob γ G w) {an : Option Ans} {val : Operand → AV} {ρ : Operand → Value} (S : Stands ob γ G w val ρ) {h : Ob} (hh : ∀ l o, get h l = some o → get ob l = some o) {t : TypeId} {m k : Operand} {ok : Bool} {r : AV} {ps : List Prop}
    (hs:readOp P an val h (.lookup t m k ok)=some (r,ps)) (hp:All ps):∃ v,(Instr.lookup t (ρ m) (ρ k) ok).run P w=.ok v w∧RepV ob γ G w r v:=by
  simp only [readOp] at hs
  split at hs
  · rename_i kt e l kk h1 h2 h3
    split at hs
    · rename_i c es hg
      obtain ⟨hc,hs⟩:=need_some hs
      simp only [Bool.and_eq_true,fitT] at hc
      obtain ⟨fr,p1,p2,e1,e2,hp1,hp2⟩:=with_some hs hp
      have hfind:mapFind kk es=some fr:=by
        unfold findO at e1
        split at e1
        · obtain ⟨rfl,h⟩:=owe_some e1 hp1; exact h
        · exact ofO_some e1
      obtain ⟨i,hi,rfl⟩:=mapFind_ix hfind
      have hk:=S k
      rw [h3] at hk
      have hm:=S m
      rw [h2] at hm
      have:=RepV_one rfl rfl hm
      simp only [RepC] at this
      obtain ⟨h4,_⟩:=this
      simp only [List.cons.injEq,and_true] at h4
      have h0:=H.obj _ _ (hh _ _ hg)
      simp only [ObjOK] at h0
      obtain ⟨ents,hb,hents,_⟩:=h0
      have run : ∀ {v : Value} {ok' : Bool}, (match hit ents.toList 0 i with | some (_, v) => (pure (v, true) : Sem (Value × Bool)) | none => do pure (← zeroValue e, false)).run P w = .ok (v, ok') w →
          (Instr.lookup t (ρ m) (ρ k) ok).run P w=.ok (if ok then .tuple #[v,.bool ok'] else v) w:=fun {v ok'} hrun=>by
        rw [h4]
        simp only [Instr.lookup,Sem.run_bind,run_underlying (kind_map h1),Result.andThen_ok,run_getMap hb,Sem.run_pure,pure_bind,checkKey_ok hc.2 hc.1.2 hk,findKey_ok hc.2 hc.1.2 hk hents hi]
        generalize hit ents.toList 0 i=q at hrun ⊢
        cases q with
        | none=>
          simp only [Sem.run_bind,Sem.run_pure] at hrun ⊢
          cases hz:(zeroValue e).run P w with
          | ok a w1=>rw [hz] at hrun; cases hrun; rfl
          | halt a w1=>rw [hz] at hrun; cases hrun
        | some q=>simp only [Sem.run_pure,Result.andThen_ok] at hrun ⊢; cases hrun; rfl
      cases i with
      | none=>
        simp only [Option.bind_none] at e2
        obtain ⟨z,p3,p4,e3,e4,_,_⟩:=with_some e2 hp2
        obtain ⟨zv,cs,hz1,hz2,hz3,_,_⟩:=zeroOf_sound (ob:=ob) (γ:=γ) (G:=G) (w:=w) (ofO_some e3)
        refine ⟨_,run (v:=zv) (ok':=false) (by simp [hit,hz1]),?_⟩
        rw [pure0_some e4]
        cases ok
        · exact RepV_of hz2 hz3
        · exact ⟨[zv,.bool false],rfl,by simp only [RepL]; exact ⟨cs,zv,_,rfl,hz2,hz3,[.bool false],.bool false,[],rfl,by simp [RepC,RepP],rfl,rfl⟩⟩
      | some i=>
        obtain ⟨j,x,n,h5,h6⟩:=mapIx_hit hi
        obtain ⟨en,h7,h8,h9,h10⟩:=RepEnts.at hents h5
        simp only [Option.bind_some,h5,Option.map_some] at e2
        refine ⟨_,run (v:=en.val) (ok':=true) (by simp only [hit,Option.bind_some,h7,Option.map_some]; rfl),?_⟩
        cases ok with
        | false=>rw [pure0_some e2]; exact h9.1
        | true=>
          obtain ⟨hsol,e2⟩:=need_some e2
          rw [pure0_some e2]
          obtain ⟨cs,g1,g2⟩:=solid_out hsol h9.1
          exact ⟨[en.val,.bool true],rfl,by simp only [RepL]; exact ⟨cs,en.val,_,rfl,g1,g2,[.bool true],.bool true,[],rfl,by simp [RepC,RepP],rfl,rfl⟩⟩
    · simp at hs
  · simp at hs
end g
end Go.Rx
end
noncomputable section
namespace Go.Rx
section g
variable {P:Program} {ob:Ob} {γ:Hm} {G:Gh} {w:World}
theorem upd_self (γ:Hm) (l:Nat):upd γ l (γ l)=γ:=by
  funext j; unfold upd; split
  · rename_i h; rw [h]
  · rfl
theorem turn_ok (H : HeapOK ob γ G w) {l : Nat} {o : AObj} (ho : get ob l = some o) (o' : AObj) (G' : Gh) (w' : World) (hsz : w'.heap.size = w.heap.size) (hfr : ∀ b, b ≠ (γ l).1 → w'.heap[b]? = w.heap[b]?) (hk : Keeps G w G' w')
    (hg:∀ b i,G' b i→¬ G b i→b=(γ l).1) (hm:keptM γ γ l o o') (hcl:∀ n∈o'.names,∃ x,get (ins l o' ob) n=some x) (hobj:Trans ob γ G w (ins l o' ob) γ G' w'→ObjOK (ins l o' ob) γ G' w' l o') (hio:SameIO w w':=by exact ⟨rfl,rfl⟩) (hv:live γ l o:=by trivial) :
    HeapOK (ins l o' ob) γ G' w'∧Trans ob γ G w (ins l o' ob) γ G' w':=by
  have:=put_ok H l o' (γ l) G' w' (by omega) (fun b _ hb=>hfr b hb) hk hg (by have:=(H.obj l o ho).lt hv; omega) (.inr ⟨o,ho,hv,rfl⟩)
    (fun x hx=>by rw [ho] at hx; cases hx; rw [upd_self]; exact hm) hcl (by rw [upd_self]; exact hobj) hio
  rw [upd_self] at this
  exact this
theorem keeps_block {b:Nat} (hno:∀ i,¬ G b i) {w':World} (hfr:∀ b',b'≠b→w'.heap[b']?=w.heap[b']?):Keeps G w G w':=
  ⟨fun _ _ h=>h,fun b' i h=>by
    have:b'≠b:=by rintro rfl; exact hno i h
    simp only [World.cell?,hfr b' this]⟩
theorem set_other {α:Type} (a:Array α) (i j:Nat) (x:α) (h:j≠i):(a.setIfInBounds i x)[j]?=a[j]?:=by
  rw [Array.getElem?_setIfInBounds_ne (fun e=>h e.symm)]
theorem set_same {α:Type} (a:Array α) (i:Nat) (x:α) (h:i < a.size):(a.setIfInBounds i x)[i]?=some x:=by
  rw [Array.getElem?_setIfInBounds_self_of_lt h]
mutual
theorem RepC_names:∀ (x:AV) (cs:List Value),RepC ob γ G w x cs→∀ n∈x.names,∃ o,get ob n=some o
  | .pv _,_,_,n,hn=>by simp [AV.names] at hn
  | .ag xs,cs,h,n,hn=>by simp only [RepC] at h; simp only [AV.names] at hn; exact RepCs_names xs cs h n hn
  | .nils,_,_,n,hn=>by simp [AV.names] at hn
  | .v l m,cs,h,n,hn=>by
    simp only [AV.names,List.mem_singleton] at hn; subst hn
    simp only [RepC] at h
    obtain ⟨b,cap,_,_,⟨fz,sz,x,h,_⟩ | ⟨xs,_,_,h,_⟩⟩:=h
    · exact ⟨_,h⟩
    · exact ⟨_,h⟩
  | .p l path off,cs,h,n,hn=>by
    simp only [AV.names,List.mem_singleton] at hn; subst hn
    simp only [RepC] at h
    obtain ⟨_,ro,c,h⟩:=h
    exact ⟨_,h⟩
  | .pe l m path off,cs,h,n,hn=>by
    simp only [AV.names,List.mem_singleton] at hn; subst hn
    simp only [RepC] at h
    obtain ⟨b,_,⟨fz,sz,x,h,_⟩ | ⟨xs,h,_⟩⟩:=h
    · exact ⟨_,h⟩
    · exact ⟨_,h⟩
  | .ro _,_,_,n,hn=>by simp [AV.names] at hn
  | .nilp,_,_,n,hn=>by simp [AV.names] at hn
  | .m l,cs,h,n,hn=>by
    simp only [AV.names,List.mem_singleton] at hn; subst hn
    simp only [RepC] at h
    obtain ⟨_,c,es,h⟩:=h
    exact ⟨_,h⟩
  | .nilm,_,_,n,hn=>by simp [AV.names] at hn
  | .fn f a c,cs,h,n,hn=>by
    simp only [RepC] at h
    obtain ⟨va,vc,_,h1,h2⟩:=h
    simp only [AV.names,List.mem_append] at hn
    rcases hn with hn | hn
    · exact RepL_names a va h1 n hn
    · exact RepL_names c vc h2 n hn
  | .nilf,_,_,n,hn=>by simp [AV.names] at hn
  | .iface t x,cs,h,n,hn=>by
    simp only [RepC] at h
    obtain ⟨c,v,_,h1,_⟩:=h
    simp only [AV.names] at hn
    exact RepC_names x c h1 n hn
  | .nili,_,_,n,hn=>by simp [AV.names] at hn
  | .yl l,_,h,n,hn=>by
    simp only [RepC] at h
    simp only [AV.names,List.mem_singleton] at hn; subst hn
    obtain ⟨_,ps,m,sl,as0,bd,fn,st,pe,d,hg⟩:=h
    exact ⟨_,hg⟩
  | .es _,_,h,n,hn=>by simp [AV.names] at hn
  | .tup _,_,h,n,hn=>by simp [RepC] at h
  | .undef,_,h,n,hn=>by simp [RepC] at h
theorem RepCs_names:∀ (xs:List AV) (cs:List Value),RepCs ob γ G w xs cs→∀ n∈AV.namesL xs,∃ o,get ob n=some o
  | [],_,_,n,hn=>by simp [AV.namesL] at hn
  | x::xs,cs,h,n,hn=>by
    simp only [RepCs] at h
    obtain ⟨c,d,_,h1,h2⟩:=h
    simp only [AV.namesL,List.mem_append] at hn
    rcases hn with hn | hn
    · exact RepC_names x c h1 n hn
    · exact RepCs_names xs d h2 n hn
theorem RepL_names:∀ (xs:List AV) (vs:List Value),RepL ob γ G w xs vs→∀ n∈AV.namesL xs,∃ o,get ob n=some o
  | [],_,_,n,hn=>by simp [AV.namesL] at hn
  | x::xs,vs,h,n,hn=>by
    simp only [RepL] at h
    obtain ⟨c,v,r,_,h1,_,h2⟩:=h
    simp only [AV.namesL,List.mem_append] at hn
    rcases hn with hn | hn
    · exact RepC_names x c h1 n hn
    · exact RepL_names xs r h2 n hn
end
theorem RepV_names {x:AV} {v:Value} (h:RepV ob γ G w x v):∀ n∈x.names,∃ o,get ob n=some o:=by
  intro n hn
  rcases RepV_out h with ⟨xs,rfl⟩ | rfl | ⟨cs,h1,_⟩
  · obtain ⟨vs,_,h2⟩:=h
    simp only [AV.names] at hn
    exact RepL_names xs vs h2 n hn
  · simp [AV.names] at hn
  · exact RepC_names x cs h1 n hn
def YieldsW (P:Program) (ob:Ob) (γ:Hm) (G:Gh) (w:World) (s:Sem Value) (r:AV) (ob':Ob):Prop:=
  ∃ v γ' G' w',s.run P w=.ok v w'∧HeapOK ob' γ' G' w'∧Trans ob γ G w ob' γ' G' w'∧RepV ob' γ' G' w' r v
theorem map_turn (H : HeapOK ob γ G w) {l c : Nat} {es : Ents} (ho : get ob l = some (.map c es)) {c' : Nat} {es' : Ents} {ents' : Array MapEntry}
    (hr:RepEnts ob γ G w es' ents'.toList) (hlt:∀ e∈es',e.2.2 < c') (hnd:(es'.map (·.2.2)).Nodup) :
    HeapOK (ins l (.map c' es') ob) γ G { w with heap:=w.heap.setIfInBounds (γ l).1 (.map ents' c') }∧Trans ob γ G w (ins l (.map c' es') ob) γ G { w with heap:=w.heap.setIfInBounds (γ l).1 (.map ents' c') }:=by
  have h0:=H.obj l _ ho
  have hb:=h0.lt trivial
  simp only [ObjOK] at h0
  obtain ⟨ents,h1,h2,h3,h4,h5⟩:=h0
  refine turn_ok H ho (.map c' es') G _ (by simp) (fun b hb=>by simp only; exact set_other _ _ _ _ hb) (keeps_block h5 fun b' hb'=>by simp only; exact set_other _ _ _ _ hb') (fun _ _ h h'=>absurd h h') rfl ?_ ?_
  · intro n hnn
    simp [AObj.names] at hnn
  · intro T
    simp only [ObjOK]
    exact ⟨ents',set_same _ _ _ hb,RepEnts.step T _ _ hr,hlt,hnd,h5⟩
theorem isPV_solid {x:AV} (h:x.isPV=true):x.solid=true:=by cases x<;>first | rfl | (simp [AV.isPV] at h)
theorem modify_list {α:Type} (a:Array α) (i:Nat) (f:α→α) (x:α) (h:a.toList[i]?=some x):(a.modify i f).toList=a.toList.set i (f x):=by
  have hi:i < a.size:=by simpa using (List.getElem?_eq_some_iff.1 h).1
  apply List.ext_getElem
  · simp
  · intro j h1 h2
    simp only [Array.getElem_toList,Array.getElem_modify,List.getElem_set]
    split
    · rename_i e; subst e
      obtain ⟨_,h⟩:=List.getElem?_eq_some_iff.1 h
      simp at h; simp [h]
    · rfl
theorem sameBits_refl:∀ {x:Value},(∃ b,x=.bool b)∨(∃ k n,x=.int k n)∨(∃ s,x=.string s)→∀ n,Instr.sameBits n x x=true:=by
  rintro x (⟨b,rfl⟩ | ⟨k,n,rfl⟩ | ⟨s,rfl⟩) m
  · cases m<;>simp [Instr.sameBits]
  · cases m<;>simp [Instr.sameBits]
  · have:(s == s)=true:=by obtain ⟨d⟩:=s; exact (by change (d == d)=true; simp)
    cases m<;>simp [Instr.sameBits,this]
theorem keyStays {v:Value}:∃ w',(Instr.keyThatStays v v).run P w=.ok v w'∧w'.heap=w.heap∧w'.tape=w.tape∧SameIO w w':=by
  unfold Instr.keyThatStays
  by_cases h:Instr.sameBits 10000 v v=true
  · exact ⟨w,by rw [if_pos h]; rfl,rfl,rfl,rfl,rfl⟩
  · refine ⟨{ w with drawn:=w.drawn + 1 },?_,rfl,rfl,rfl,rfl⟩
    rw [if_neg h]
    simp only [Sem.run_bind,run_choose,Question.forced]
    simp
theorem key_same {k j:PV} {vk vj:Value} (h:keyEq k j=some true) (hk:RepV ob γ G w (.pv k) vk) (hj:RepV ob γ G w (.pv j) vj):vj=vk:=by
  unfold keyEq at h
  split at h
  · rename_i ha
    obtain ⟨cs,hr,ho⟩:=RepV_pv.1 hk
    obtain ⟨ds,hr',ho'⟩:=RepV_pv.1 hj
    have:=eqb_same k j cs ds ha h hr hr'
    subst this
    have hag:AV.isAgg (.pv k)=AV.isAgg (.pv j):=by cases k<;>cases j<;>first | rfl | (simp [PV.alike] at ha)
    rw [hag] at ho
    cases hq:AV.isAgg (.pv j) with
    | true=>rw [hq] at ho ho'; simp only [ofCells] at ho ho'; rw [ho,ho']
    | false=>rw [hq] at ho ho'; simp only [ofCells] at ho ho'; rw [ho] at ho'; simpa using ho'.symm
  · simp at h
theorem heapOK_heap {w':World} (h:w'.heap=w.heap) (H:HeapOK ob γ G w) (hio:SameIO w w':=by exact ⟨rfl,rfl⟩):HeapOK ob γ G w'∧Trans ob γ G w ob γ G w':=
  grow_ok H G w' (by rw [h]; exact Nat.le_refl _) (fun b _=>by rw [h]) (fun _ _ h=>h) (fun b o h1 h2=>absurd h1 h2) hio
theorem nodup_set {es:Ents} {i:Nat} {j k:PV} {x y:AV} {n:Nat} (h:es[i]?=some (j,y,n)):(es.set i (k,x,n)).map (·.2.2)=es.map (·.2.2):=by
  rw [List.map_set]
  apply List.ext_getElem?
  intro q
  rw [List.getElem?_set]
  split
  · rename_i e; subst e
    split
    · simp [h]
    · rename_i h2; simp at h2; rw [List.getElem?_eq_none (by simpa using h2)]
  · rfl
theorem set_mem_lt {es:Ents} {i c:Nat} {j k:PV} {x y:AV} {n:Nat} (h:es[i]?=some (j,y,n)) (hlt:∀ e∈es,e.2.2 < c):∀ e∈es.set i (k,x,n),e.2.2 < c:=by
  intro e he
  rcases List.mem_or_eq_of_mem_set he with h1 | rfl
  · exact hlt e h1
  · exact hlt (j,y,n) (List.mem_of_getElem? h)
theorem mapUpdate_sound (H : HeapOK ob γ G w) {val : Operand → AV} {ρ : Operand → Value} (S : Stands ob γ G w val ρ) {t kt e : TypeId} {m k x : Operand} {l c c' : Nat} {kk : PV} {es es' : Ents}
    (h1:kindOf P t=some (.map kt e)) (h2:val m=.m l) (h3:val k=.pv kk) (hg:get ob l=some (.map c es)) (hf:fit P 30 kt (.pv kk)=true) (ht:eqT P 30 kt=true) (hpv:(val x).isPV=true) (hput:mapPut kk (val x) c es=some (c',es')) :
    ∃ G' w',(Instr.mapUpdate t (ρ m) (ρ k) (ρ x)).run P w=.ok () w'∧HeapOK (ins l (.map c' es') ob) γ G' w'∧Trans ob γ G w (ins l (.map c' es') ob) γ G' w':=by
  have hk:=S k
  rw [h3] at hk
  have hm:=S m
  rw [h2] at hm
  have:=RepV_one rfl rfl hm
  simp only [RepC] at this
  obtain ⟨h4,_⟩:=this
  simp only [List.cons.injEq,and_true] at h4
  have h0:=H.obj _ _ hg
  simp only [ObjOK] at h0
  obtain ⟨ents,hb,hents,hlt,hnd,hng⟩:=h0
  rcases mapPut_ix hput with ⟨hi,rfl,rfl⟩ | ⟨i,j,y,n,hi,h5,h6,hcc,rfl⟩
  · have hT := map_turn H hg (c' := c + 1) (es' := es ++ [(kk, val x, c)]) (ents' := ents.push { key := ρ k, val := ρ x, born := c }) (by simpa using RepEnts.push (e := { key := ρ k, val := ρ x, born := c }) hents hk ⟨S x, hpv⟩ rfl)
      (fun e he=>by
        rcases List.mem_append.1 he with he | he
        · have:=hlt e he; omega
        · simp at he; subst he; simp)
      (by
        simp only [List.map_append,List.map_cons,List.map_nil]
        refine List.nodup_append.2 ⟨hnd,by simp,fun a ha b hb=>?_⟩
        simp at hb; subst hb
        obtain ⟨e,he,rfl⟩:=List.mem_map.1 ha
        have:=hlt e he; omega)
    refine ⟨G,_,?_,hT.1,hT.2⟩
    rw [h4]
    simp only [Instr.mapUpdate,Sem.run_bind,run_underlying (kind_map h1),Result.andThen_ok,run_getMap hb,checkKey_ok ht hf hk,findKey_ok ht hf hk hents hi,hit,Option.bind_none,run_setMap _ hb]
  · subst hcc
    obtain ⟨en,h7,h8,h9,h10⟩:=RepEnts.at hents h5
    have hv:=key_same h6 hk h8
    obtain ⟨w1,hw1,hw2,hw3,hio⟩:=keyStays (P:=P) (w:=w) (v:=ρ k)
    have H1:=heapOK_heap hw2 H hio
    have hents1:RepEnts ob γ G w1 es ents.toList:=RepEnts.step H1.2 _ _ hents
    have hT:=map_turn H1.1 hg (es':=es.set i (kk,val x,n)) (ents':=ents.modify i fun e=>{ e with key:=ρ k,val:=ρ x })
      (by
        rw [modify_list _ _ _ _ h7]
        exact RepEnts.set hents1 (RepV.step H1.2 _ _ hk) ⟨RepV.step H1.2 _ _ (S x),hpv⟩ h10)
      (set_mem_lt h5 hlt) (by rw [nodup_set h5]; exact hnd)
    refine ⟨G,_,?_,hT.1,H1.2.trans H hT.2⟩
    rw [h4]
    have h7':ents[i]?=some en:=by simpa using h7
    simp only [Instr.mapUpdate,Sem.run_bind,run_underlying (kind_map h1),Result.andThen_ok,run_getMap hb,checkKey_ok ht hf hk,findKey_ok ht hf hk hents hi,hit,Option.bind_some,h7,Option.map_some,h7',Option.getD_some,hv,Nat.zero_add,hw1]
    rw [run_setMap (es:=ents) _ (by rw [hw2]; exact hb)]
theorem mapEntry_sound (H : HeapOK ob γ G w) {val : Operand → AV} {ρ : Operand → Value} (S : Stands ob γ G w val ρ) {t kt e : TypeId} {m k : Operand} {l c c' : Nat} {kk : PV} {es es' : Ents} {r : Option (AV × Nat)} {y : AV} {b : Int}
    (h1:kindOf P t=some (.map kt e)) (h2:val m=.m l) (h3:val k=.pv kk) (hg:get ob l=some (.map c es)) (hf:fit P 30 kt (.pv kk)=true) (ht:eqT P 30 kt=true) (hfind:mapFind kk es=some r)
    (hr:match r with | some (x,n)=>y=x∧b=n | none=>zeroOf P e=some y∧b=c∧y.isPV=true) (hput:mapPut kk y c es=some (c',es')) :
    YieldsW P ob γ G w (Instr.mapEntry t (ρ m) (ρ k)) (.tup [y,.pv (.i .i64 b)]) (ins l (.map c' es') ob):=by
  have hk:=S k
  rw [h3] at hk
  have hm:=S m
  rw [h2] at hm
  have:=RepV_one rfl rfl hm
  simp only [RepC] at this
  obtain ⟨h4,_⟩:=this
  simp only [List.cons.injEq,and_true] at h4
  have h0:=H.obj _ _ hg
  simp only [ObjOK] at h0
  obtain ⟨ents,hb,hents,hlt,hnd,hng⟩:=h0
  have two:∀ {ob:Ob} {γ:Hm} {G:Gh} {w:World} {x:AV} {v:Value} {cs:List Value} {n:Int},RepC ob γ G w x cs→ofCells x.isAgg cs v→RepV ob γ G w (.tup [x,.pv (.i .i64 n)]) (.tuple #[v,.int .i64 n]):=fun g1 g2=>
    ⟨[_,_],rfl,by simp only [RepL]; exact ⟨_,_,_,rfl,g1,g2,[_],_,[],rfl,by simp only [RepC,RepP],rfl,rfl⟩⟩
  obtain ⟨i',hi',hri⟩:=mapFind_ix hfind
  rcases mapPut_ix hput with ⟨hi,rfl,rfl⟩ | ⟨i,j,y',n,hi,h5,h6,hcc,rfl⟩
  · rw [hi] at hi'; cases hi'
    simp only [Option.bind_none] at hri
    subst hri
    obtain ⟨hz,rfl,hpv⟩:=hr
    obtain ⟨zv,cs,hz1,hz2,hz3,_,_⟩:=zeroOf_sound (ob:=ob) (γ:=γ) (G:=G) (w:=w) hz
    have hT:=map_turn H hg (c':=c + 1) (es':=es++[(kk,y,c)]) (ents':=ents.push { key:=ρ k,val:=zv,born:=c }) (by simpa using RepEnts.push (e:={ key:=ρ k,val:=zv,born:=c }) hents hk ⟨RepV_of hz2 hz3,hpv⟩ rfl)
      (fun e he=>by
        rcases List.mem_append.1 he with he | he
        · have:=hlt e he; omega
        · simp at he; subst he; simp)
      (by
        simp only [List.map_append,List.map_cons,List.map_nil]
        refine List.nodup_append.2 ⟨hnd,by simp,fun a ha b hb=>?_⟩
        simp at hb; subst hb
        obtain ⟨e,he,rfl⟩:=List.mem_map.1 ha
        have:=hlt e he; omega)
    refine ⟨.tuple #[zv,.int .i64 c],γ,G,_,?_,hT.1,hT.2,two (RepC.step hT.2 _ _ hz2) hz3⟩
    rw [h4]
    simp only [Instr.mapEntry,Sem.run_bind,run_underlying (kind_map h1),Result.andThen_ok,run_getMap hb,checkKey_ok ht hf hk,findKey_ok ht hf hk hents hi,hit,Option.bind_none,hz1,run_setMap _ hb,Sem.run_pure,goInt]
  · subst hcc
    rw [hi] at hi'; cases hi'
    simp only [Option.bind_some,h5,Option.map_some] at hri
    subst hri
    obtain ⟨rfl,rfl⟩:=hr
    obtain ⟨en,h7,h8,h9,h10⟩:=RepEnts.at hents h5
    have hv:=key_same h6 hk h8
    obtain ⟨w1,hw1,hw2,hw3,hio⟩:=keyStays (P:=P) (w:=w) (v:=ρ k)
    have H1:=heapOK_heap hw2 H hio
    have hents1:RepEnts ob γ G w1 es ents.toList:=RepEnts.step H1.2 _ _ hents
    have hT:=map_turn H1.1 hg (es':=es.set i (kk,y,n)) (ents':=ents.modify i fun e=>{ e with key:=ρ k })
      (by
        rw [modify_list _ _ _ _ h7]
        exact RepEnts.set hents1 (RepV.step H1.2 _ _ hk) ⟨RepV.step H1.2 _ _ h9.1,h9.2⟩ h10)
      (set_mem_lt h5 hlt) (by rw [nodup_set h5]; exact hnd)
    obtain ⟨cs,g1,g2⟩:=solid_out (isPV_solid h9.2) h9.1
    refine ⟨.tuple #[en.val,.int .i64 n],γ,G,_,?_,hT.1,H1.2.trans H hT.2,two (RepC.step (H1.2.trans H hT.2) _ _ g1) g2⟩
    rw [h4]
    have h7':ents[i]?=some en:=by simpa using h7
    simp only [Instr.mapEntry,Sem.run_bind,run_underlying (kind_map h1),Result.andThen_ok,run_getMap hb,checkKey_ok ht hf hk,findKey_ok ht hf hk hents hi,hit,Option.bind_some,h7,Option.map_some,h7',Option.getD_some,hv,Nat.zero_add,hw1]
    rw [run_setMap (es:=ents) _ (by rw [hw2]; exact hb)]
    simp only [Result.andThen_ok,Sem.run_pure,goInt,h10]
theorem entryStore_sound (H : HeapOK ob γ G w) {val : Operand → AV} {ρ : Operand → Value} (S : Stands ob γ G w val ρ) {t : TypeId} {m s x : Operand} {l c : Nat} {kd : IntKind} {born : Int} {es es' : Ents}
    (h2:val m=.m l) (h3:val s=.pv (.i kd born)) (hg:get ob l=some (.map c es)) (hpv:(val x).isPV=true) (hat:mapAt born (val x) es=some es') :
    ∃ G' w',(Instr.entryStore t (ρ m) (ρ s) (ρ x)).run P w=.ok () w'∧HeapOK (ins l (.map c es') ob) γ G' w'∧Trans ob γ G w (ins l (.map c es') ob) γ G' w':=by
  have hs:=S s
  rw [h3,RepV_i] at hs
  have hm:=S m
  rw [h2] at hm
  have:=RepV_one rfl rfl hm
  simp only [RepC] at this
  obtain ⟨h4,_⟩:=this
  simp only [List.cons.injEq,and_true] at h4
  have h0:=H.obj _ _ hg
  simp only [ObjOK] at h0
  obtain ⟨ents,hb,hents,hlt,hnd,hng⟩:=h0
  obtain ⟨i,j,y,n,h5,h6,rfl,h8⟩:=mapAt_ix hat
  obtain ⟨en,h7,g8,g9,g10⟩:=RepEnts.at hents h5
  have hT:=map_turn H hg (c':=c) (es':=es.set i (j,val x,n)) (ents':=ents.modify i fun e=>{ e with val:=ρ x })
    (by
      rw [modify_list _ _ _ _ h7]
      exact RepEnts.set hents g8 ⟨S x,hpv⟩ g10)
    (set_mem_lt h5 hlt) (by rw [nodup_set h5]; exact hnd)
  refine ⟨G,_,?_,hT.1,hT.2⟩
  rw [h4,hs]
  have hidx:ents.findIdx? (fun e=>(e.born:Int) == born)=some i:=by
    rw [Array.findIdx?_eq_some_iff_getElem]
    have hil:i < ents.size:=by simpa using (List.getElem?_eq_some_iff.1 h7).1
    refine ⟨hil,?_,fun k hk=>?_⟩
    · have:=(List.getElem?_eq_some_iff.1 h7).2
      simp at this
      simp [this,g10,h6]
    · have hkl:k < es.length:=by rw [RepEnts.len hents]; simp; omega
      obtain ⟨e',q1,q2,q3,q4⟩:=RepEnts.at (i:=k) (k:=es[k].1) (x:=es[k].2.1) (n:=es[k].2.2) hents (List.getElem?_eq_getElem hkl)
      have:=h8 k _ hk (List.getElem?_eq_getElem hkl)
      have q5:=(List.getElem?_eq_some_iff.1 q1).2
      simp at q5
      simp [q5,q4,this]
  simp only [Instr.entryStore,Sem.run_bind,run_getMap hb,Result.andThen_ok,Go.asInt,run_asIntOf,Sem.run_pure,hidx,run_setMap _ hb]
theorem delete_sound (H : HeapOK ob γ G w) {val : Operand → AV} {ρ : Operand → Value} (S : Stands ob γ G w val ρ) {t u kt e ty : TypeId} {m k : Operand} {l c : Nat} {kk : PV} {es es' : Ents}
    (h1:kindOf P t=some (.map kt e)) (h2:val m=.m l) (h3:val k=.pv kk) (hg:get ob l=some (.map c es)) (hf:fit P 30 kt (.pv kk)=true) (ht:eqT P 30 kt=true) (hdel:mapDel kk es=some es') :
    ∃ G' w',(Builtin.delete_ #[t,u] ty #[ρ m,ρ k]).run P w=.ok (.tuple #[]) w'∧HeapOK (ins l (.map c es') ob) γ G' w'∧Trans ob γ G w (ins l (.map c es') ob) γ G' w':=by
  have hk:=S k
  rw [h3] at hk
  have hm:=S m
  rw [h2] at hm
  have:=RepV_one rfl rfl hm
  simp only [RepC] at this
  obtain ⟨h4,_⟩:=this
  simp only [List.cons.injEq,and_true] at h4
  have h0:=H.obj _ _ hg
  simp only [ObjOK] at h0
  obtain ⟨ents,hb,hents,hlt,hnd,hng⟩:=h0
  rcases mapDel_ix hdel with ⟨hi,rfl⟩ | ⟨i,hi,hil,rfl⟩
  · have hT:=map_turn H hg (ents':=ents) hents hlt hnd
    refine ⟨G,_,?_,hT.1,hT.2⟩
    rw [h4]
    simp [Builtin.delete_,run_underlying (kind_map h1),run_getMap hb,checkKey_ok ht hf hk,findKey_ok ht hf hk hents hi,hit,run_setMap _ hb]
  · have h5:es[i]?=some (es[i].1,es[i].2.1,es[i].2.2):=List.getElem?_eq_getElem hil
    obtain ⟨en,h7,h8,h9,h10⟩:=RepEnts.at hents h5
    have hT:=map_turn H hg (c':=c) (es':=es.eraseIdx i) (ents':=ents.eraseIdxIfInBounds i)
      (by
        have:(ents.eraseIdxIfInBounds i).toList=ents.toList.eraseIdx i:=by simp
        rw [this]
        exact RepEnts.erase hents)
      (fun e he=>hlt e (List.mem_of_mem_eraseIdx he))
      (hnd.sublist ((List.eraseIdx_sublist es i).map _))
    refine ⟨G,_,?_,hT.1,hT.2⟩
    rw [h4]
    have h7':ents[i]?=some en:=by simpa using h7
    simp [Builtin.delete_,run_underlying (kind_map h1),run_getMap hb,checkKey_ok ht hf hk,findKey_ok ht hf hk hents hi,hit,run_setMap _ hb,h7']
end g
end Go.Rx
end
noncomputable section
namespace Go.Rx
section g
variable {P:Program} {ob:Ob} {γ:Hm} {G:Gh} {w:World}
theorem set_self {α:Type} (a:Array α) (i:Nat) (x:α) (h:a[i]?=some x):a.setIfInBounds i x=a:=by
  apply Array.ext_getElem?
  intro j
  by_cases hj:j=i
  · subst hj
    rw [set_same _ _ _ (Array.getElem?_eq_some_iff.1 h).1,h]
  · rw [set_other _ _ _ _ hj]
theorem modify_set {α:Type} (a:Array α) (i:Nat) (f:α→α) (x:α) (h:a[i]?=some x):a.modify i f=a.setIfInBounds i (f x):=by
  have hi:=(Array.getElem?_eq_some_iff.1 h).1
  have hx:=(Array.getElem?_eq_some_iff.1 h).2
  apply Array.ext
  · simp
  · intro j h1 h2
    simp only [Array.getElem_modify]
    by_cases e:i=j
    · subst e; simp [hx]
    · rw [if_neg e,Array.getElem_setIfInBounds_ne (by simpa using h1) e]
theorem store_cells (b : Nat) (el : TypeId) (fr : Nat × Nat) : ∀ (dy : List Value) (i : Nat) (w : World) (c d e : List Value) (o : Nat), w.heap[b]? = some (.cells (c ++ d ++ e).toArray el fr) → d.length = dy.length → c.length = o + i →
    (∀ j,c.length≤j→j < c.length + d.length→¬ (fr.1≤j∧j < fr.2))→(∀ v∈dy,v.oneCell'=true)→
    (storeCells ⟨b,o,none⟩ dy i).run P w=.ok () { w with heap:=w.heap.setIfInBounds b (.cells (c++dy++e).toArray el fr) }
  | [],i,w,c,d,e,o,hb,hd,hc,hf,h1=>by
    have:d=[]:=List.length_eq_zero_iff.1 (by simpa using hd)
    subst this
    rw [set_self _ _ _ hb]
    rfl
  | v::dy,i,w,c,d,e,o,hb,hd,hc,hf,h1=>by
    cases d with
    | nil=>simp at hd
    | cons d0 d=>
      have hcell:w.cell? ⟨b,o + i,none⟩=some d0:=by
        simp only [World.cell?,hb,Option.isSome_none,Bool.false_eq_true,if_false,List.getElem?_toArray]
        rw [← hc]; simp
      have hfz:w.frozen? ⟨b,o + i,none⟩=false:=by
        simp only [World.frozen?,hb]
        have:=hf c.length (Nat.le_refl _) (by simp)
        rw [← hc]
        simp only [Bool.and_eq_false_iff,decide_eq_false_iff_not]
        omega
      have hset:w.setCell ⟨b,o + i,none⟩ v={ w with heap:=w.heap.setIfInBounds b (.cells ((c++[v])++d++e).toArray el fr) }:=by
        simp only [World.setCell]
        rw [modify_set _ _ _ _ hb]
        simp only [Option.isSome_none,Bool.false_eq_true,if_false]
        congr 3
        apply Array.ext'
        rw [Array.toList_setIfInBounds,← hc]
        simp
      simp only [storeCells,Sem.run_bind,addr_add]
      rw [run_store P w _ v _ (h1 v (by simp)),hcell]
      simp only [hfz,Bool.false_eq_true,if_false,Result.andThen_ok,hset]
      have hlt:=(Array.getElem?_eq_some_iff.1 hb).1
      rw [store_cells b el fr dy (i + 1) _ (c++[v]) d e o (set_same _ _ _ hlt) (by simpa using hd) (by simp; omega) (fun j h2 h3=>hf j (by simp at h2; omega) (by simp at h2 h3 ⊢; omega)) (fun u hu=>h1 u (by simp [hu]))]
      simp only [Array.setIfInBounds_setIfInBounds]
      simp
theorem storeVar_run {t : TypeId} {v : Value} {dy : List Value} {b o : Nat} {el : TypeId} {fr : Nat × Nat} {c d e : List Value} (hb : w.heap[b]? = some (.cells (c ++ d ++ e).toArray el fr)) (hd : d.length = dy.length) (hc : c.length = o)
    (hf:∀ j,c.length≤j→j < c.length + d.length→¬ (fr.1≤j∧j < fr.2)) (h1:∀ v∈dy,v.oneCell'=true) (hv:v.cells=dy.toArray) (hu:∃ i,P.info? t=some i) (hs:szOf P t=dy.length) :
    (storeVar t ⟨b,o,none⟩ v).run P w=.ok () { w with heap:=w.heap.setIfInBounds b (.cells (c++dy++e).toArray el fr) }:=by
  simp only [storeVar,Sem.run_bind,run_szI hu,Result.andThen_ok,hv,hs]
  rw [if_neg (by simp)]
  exact store_cells b el fr dy 0 w c d e o hb hd (by omega) hf h1
theorem new_ok (H : HeapOK ob γ G w) {l : Nat} (hl : get ob l = none) (o' : AObj) (cap : Nat) {w' : World} {obj : Obj} (hw : w'.heap = w.heap.push obj) (hcl : ∀ n ∈ o'.names, ∃ x, get ob n = some x)
    (hobj:Trans ob γ G w (ins l o' ob) (upd γ l (w.heap.size,cap)) G w'→(∀ i,¬ G w.heap.size i)→ObjOK (ins l o' ob) (upd γ l (w.heap.size,cap)) G w' l o') (hio:SameIO w w':=by exact ⟨rfl,rfl⟩) :
    HeapOK (ins l o' ob) (upd γ l (w.heap.size,cap)) G w'∧Trans ob γ G w (ins l o' ob) (upd γ l (w.heap.size,cap)) G w':=by
  refine put_ok H l o' (w.heap.size,cap) G w' (by rw [hw]; simp) (fun b hb _=>by rw [hw]; exact heap_push w _ b hb) ⟨fun _ _ h=>h,fun b i h=>by simp only [World.cell?,hw,heap_push w _ b (H.gok b i h)]⟩ (fun _ _ h h'=>absurd h h')
    (by rw [hw]; simp) (.inl (Nat.le_refl _)) (fun o ho=>by rw [hl] at ho; cases ho) (fun n hn=>?_) (fun T=>hobj T fun i hi=>by have:=H.gok _ _ hi; omega) hio
  obtain ⟨x,hx⟩:=hcl n hn
  rw [get_ins]; split
  · exact ⟨_,rfl⟩
  · exact ⟨x,hx⟩
theorem new_cell (H : HeapOK ob γ G w) {l : Nat} (hl : get ob l = none) {x : AV} {cs : List Value} {el : TypeId} (hr : RepC ob γ G w x cs) :
    ∃ γ' w',w'={ w with heap:=w.heap.push (.cells cs.toArray el) }∧HeapOK (ins l (.cell false x) ob) γ' G w'∧Trans ob γ G w (ins l (.cell false x) ob) γ' G w'∧RepV (ins l (.cell false x) ob) γ' G w' (.p l [] 0) (.pointer (some ⟨w.heap.size,0,none⟩)):=by
  have:=new_ok H hl (.cell false x) 0 (w':={ w with heap:=w.heap.push (.cells cs.toArray el) }) (obj:=.cells cs.toArray el) rfl (RepC_names x cs hr) (fun T hg=>by
    simp only [ObjOK,upd_same]
    exact ⟨cs,⟨el,(0,0),by simp,fun o _=>by simp⟩,RepC.step T _ _ hr,hg⟩)
  refine ⟨_,_,rfl,this.1,this.2,RepV_cell rfl ?_⟩
  simp only [RepC,upd_same]
  exact ⟨trivial,false,x,by simp [get_ins]⟩
theorem alloc_sound (H:HeapOK ob γ G w) {t:TypeId} {z:AV} {l:Nat} (hz:zeroOf P t=some z) (hl:get ob l=none):YieldsW P ob γ G w (Instr.alloc t true (.tuple #[])) (.p l [] 0) (ins l (.cell false z) ob):=by
  obtain ⟨zv,cs,h1,h2,h3,h4,h5⟩:=zeroOf_sound (ob:=ob) (γ:=γ) (G:=G) (w:=w) hz
  obtain ⟨γ',w',rfl,g1,g2,g3⟩:=new_cell H hl (el:=t) h2
  refine ⟨_,γ',G,_,?_,g1,g2,g3⟩
  simp only [Instr.alloc,Sem.run_bind,h1,Result.andThen_ok,newVar,newRow,run_newObj,Sem.run_pure,h4]
theorem box_sound (H:HeapOK ob γ G w) {t:TypeId} {x:AV} {v:Value} {l:Nat} (hf:fitT P t x=true) (hx:RepV ob γ G w x v) (hl:get ob l=none):YieldsW P ob γ G w (Instr.box t v) (.p l [] 0) (ins l (.cell false x) ob):=by
  simp only [fitT,Bool.and_eq_true] at hf
  obtain ⟨cs,h2,h3⟩:=fit_RepV hf.2 hx
  obtain ⟨γ',w',rfl,g1,g2,g3⟩:=new_cell H hl (el:=t) h2
  refine ⟨_,γ',G,_,?_,g1,g2,g3⟩
  simp only [Instr.box,newVar,newRow,Sem.run_bind,run_newObj,Result.andThen_ok,Sem.run_pure,rep_cells h2 h3]
theorem makeMap_sound (H:HeapOK ob γ G w) {t:TypeId} {l:Nat} (hl:get ob l=none):YieldsW P ob γ G w (Instr.makeMap t none) (.m l) (ins l (.map 0 []) ob):=by
  have:=new_ok H hl (.map 0 []) 0 (w':={ w with heap:=w.heap.push (.map #[] 0) }) (obj:=.map #[] 0) rfl (fun n hn=>by simp [AObj.names] at hn) (fun T hg=>by
    simp only [ObjOK,upd_same]
    exact ⟨#[],by simp,rfl,by simp,by simp,hg⟩)
  refine ⟨.map (some w.heap.size),_,G,_,?_,this.1,this.2,RepV_cell rfl ?_⟩
  · simp [Instr.makeMap]
  · simp only [RepC,upd_same]
    exact ⟨trivial,0,[],by simp [get_ins]⟩
theorem new_vec (H : HeapOK ob γ G w) {l : Nat} (hl : get ob l = none) {sz cap n : Nat} {s : PV} {cs sp : List Value} {el : TypeId} (hr : RepSeq G w sz s cs) (hsz : 0 < sz) (hcap : cap * sz = (cs ++ sp).length) (hn : s.len = n) (hle : n ≤ cap) {w' : World} (hw : w'.heap = w.heap.push (.cells (cs ++ sp).toArray el)) (hio : SameIO w w' := by exact ⟨rfl, rfl⟩) :
    ∃ γ',HeapOK (ins l (.vec false sz s) ob) γ' G w'∧Trans ob γ G w (ins l (.vec false sz s) ob) γ' G w'∧RepV (ins l (.vec false sz s) ob) γ' G w' (.v l n) (.slice (some ⟨w.heap.size,0,none⟩) n cap):=by
  have:=new_ok H hl (.vec false sz s) cap (w':=w') (obj:=.cells (cs++sp).toArray el) hw (fun n hn=>by simp [AObj.names] at hn) (fun T hg=>by
    simp only [ObjOK,upd_same]
    exact ⟨hsz,cs,sp,RepSeq.mono T.keeps hr,hcap,fun _=>⟨⟨el,(0,0),by simp [hw],fun o _=>by simp⟩,fun o ho=>absurd ho (hg o),fun h=>by simp at h⟩⟩) hio
  refine ⟨_,this.1,this.2,RepV_cell rfl ?_⟩
  simp only [RepC,upd_same]
  exact ⟨_,_,rfl,hle,.inl ⟨false,sz,s,by simp [get_ins],by omega,fun _=>⟨_,rfl,fun _=>rfl⟩,fun _=>rfl⟩⟩
theorem namesL_append:∀ (xs ys:List AV),AV.namesL (xs++ys)=AV.namesL xs++AV.namesL ys
  | [],ys=>by simp [AV.namesL]
  | x::xs,ys=>by simp [AV.namesL,namesL_append xs ys]
theorem store_cell_sound (H : HeapOK ob γ G w) {t : TypeId} {l off o : Nat} {path : List Nat} {c y x c' : AV} {v : Value} {an : Option Ans} {ps : List Prop} (hg : get ob l = some (.cell false c)) (hoff : AV.offAt path c = some o) (hat : AV.at path c = some y)
    (ho:o=off) (hf:fitT P t x=true) (hsz:y.size=x.size) (hin:All (AV.inR path c)) (hs:setAt an path c x=some (c',ps)) (hp:All ps) (hx:RepV ob γ G w x v) :
    ∃ w',(storeVar t ⟨(γ l).1,off,none⟩ v).run P w=.ok () w'∧HeapOK (ins l (.cell false c') ob) γ G w'∧Trans ob γ G w (ins l (.cell false c') ob) γ G w':=by
  subst ho
  simp only [fitT,Bool.and_eq_true,beq_iff_eq] at hf
  obtain ⟨dy,h2,h3⟩:=fit_RepV hf.2 hx
  obtain ⟨td,hu,_⟩:=fit_agg hf.2
  have h0:=H.obj _ _ hg
  have hlt:=h0.lt trivial
  simp only [ObjOK] at h0
  obtain ⟨cs,⟨el,fr,hb,hfr⟩,hr,hno⟩:=h0
  obtain ⟨c1,d,e,rfl,h4,h5⟩:=at_sound _ _ _ _ _ hat hoff hin hr
  have hdl:=RepC.len _ _ h5
  have hyl:=RepC.len _ _ h2
  have hr':=setAt_sound path c x c' y o c1 d e dy ps hs hp hin hat hoff h4 hdl hr h2
  refine ⟨_,storeVar_run hb (by omega) h4 (fun j h6 h7=>hfr j (by simp; omega)) (RepC.ones _ _ h2) (rep_cells h2 h3) (und_info hu) (by omega),?_⟩
  refine turn_ok H hg (.cell false c') G _ (by simp) (fun b hb'=>by simp only; exact set_other _ _ _ _ hb') (keeps_block hno fun b' hb'=>by simp only; exact set_other _ _ _ _ hb') (fun _ _ h h'=>absurd h h') rfl ?_ ?_
  · intro n hn
    obtain ⟨x,hx⟩:=RepC_names _ _ hr' n hn
    rw [get_ins]; split
    · exact ⟨_,rfl⟩
    · exact ⟨x,hx⟩
  · intro T
    simp only [ObjOK]
    refine ⟨c1++dy++e,⟨el,fr,set_same _ _ _ hlt,fun j hj=>hfr j (by simp at hj ⊢; omega)⟩,RepC.step T _ _ hr',hno⟩
theorem setSeq_sound {an : Option Ans} {sz k : Nat} {s y' s' : PV} {c d e dy : List Value} {ps : List Prop} (hr : RepSeq G w sz s (c ++ d ++ e)) (hc : c.length = k * sz) (hd : d.length = sz) (hk : k < s.len) (hs : setSeq an s k y' = some (s', ps)) (hp : All ps) (hy : RepP G w y' dy) :
    RepSeq G w sz s' (c++dy++e)∧s'.len=s.len∧dy.length=sz:=by
  cases s<;>simp only [RepSeq] at hr
  · rename_i sz' xs
    obtain ⟨rfl,h1,h2⟩:=hr
    simp only [setSeq] at hs
    obtain ⟨hq,hs⟩:=need_some hs
    simp only [beq_iff_eq] at hq
    rw [pure0_some hs]
    simp only [PV.len] at hk
    have hxk:xs[k]?=some xs[k]:=List.getElem?_eq_getElem hk
    have hdy:=RepP.len _ _ hy
    refine ⟨⟨rfl,?_,fun x hx=>?_⟩,by simp [PV.len],by omega⟩
    · have := RepCs.set (ob := []) (γ := fun _ => (0, 0)) (G := G) (w := w) (xs := xs.map AV.pv) ((RepCs_map _ _).2 h1) (k := k) (z := .pv xs[k]) (by simp [hxk]) rfl
        (by rw [← List.map_take,AV.sizes_map,PV.sizes_uni sz' _ (fun z hz=>h2 z (List.mem_of_mem_take hz)),List.length_take,Nat.min_eq_left (by omega)]; exact hc)
        (by simp only [AV.size]; rw [h2 _ (List.getElem_mem hk)]; exact hd) (y:=.pv y') (dy:=dy) (by simpa only [RepC] using hy)
      rw [← List.map_set] at this
      exact (RepCs_map _ _).1 this
    · rcases List.mem_or_eq_of_mem_set hx with h | rfl
      · exact h2 x h
      · exact hq
  · rename_i bs
    obtain ⟨rfl,h1⟩:=hr
    simp only [setSeq] at hs
    obtain ⟨b,p1,p2,e1,e2,hp1,hp2⟩:=with_some hs hp
    rw [pure0_some e2]
    obtain ⟨n,rfl,rfl⟩:=asByte_some e1 hp1
    simp only [RepP] at hy
    subst hy
    simp only [PV.len] at hk
    refine ⟨⟨rfl,?_⟩,by simp [PV.len],rfl⟩
    obtain ⟨d0,rfl⟩:=List.length_eq_one_iff.1 hd
    rw [List.map_set,← h1,show k=c.length by omega]
    simp [cu8]
theorem store_vec_sound (H : HeapOK ob γ G w) {t : TypeId} {l off sz n b : Nat} {s s' : PV} {x : PV} {v : Value} (hg : get ob l = some (.vec false sz s)) (hn : s.len = n) (hpos : 0 < s.len) (hb : s.len = n → b = (γ l).1)
    (hst:∀ (cs dy:List Value),RepSeq G w sz s cs→RepP G w x dy→∃ c d e,cs=c++d++e∧c.length=off∧d.length=dy.length∧RepSeq G w sz s' (c++dy++e)) (hlen:s'.len=s.len)
    (hf:fitT P t (.pv x)=true) (hx:RepV ob γ G w (.pv x) v) :
    ∃ w',(storeVar t ⟨b,off,none⟩ v).run P w=.ok () w'∧HeapOK (ins l (.vec false sz s') ob) γ G w'∧Trans ob γ G w (ins l (.vec false sz s') ob) γ G w':=by
  have:=hb hn
  subst this
  simp only [fitT,Bool.and_eq_true,beq_iff_eq] at hf
  obtain ⟨dy',h2,h3⟩:=fit_RepV hf.2 hx
  obtain ⟨td,hu,_⟩:=fit_agg hf.2
  have h0:=H.obj _ _ hg
  have hv:=vec_live h0 hpos
  have hlt:=h0.lt hv
  simp only [ObjOK] at h0
  obtain ⟨hsz,cs,sp,hr,hcap,h0⟩:=h0
  obtain ⟨hblk,hG,_⟩:=h0 hv
  have hno:∀ i,¬ G (γ l).1 i:=fun i hi=>by have:=(hG i hi).1; simp at this
  have hpy:RepP G w x dy':=by simpa only [RepC] using h2
  obtain ⟨c,d,e,rfl,h4,h5,h7⟩:=hst cs dy' hr hpy
  obtain ⟨el,fr,hbl,hfr⟩:=hblk
  have hyl:=RepP.len _ _ hpy
  simp only [AV.size] at hf
  have hbl':w.heap[(γ l).1]?=some (.cells (c++d++(e++sp)).toArray el fr):=by rw [hbl]; simp
  refine ⟨_,storeVar_run hbl' h5 h4 (fun j h6 h7=>hfr j (by simp; omega)) (RepP.ones _ _ hpy) (rep_cells h2 h3) (und_info hu) (by omega),?_⟩
  refine turn_ok H hg (.vec false sz s') G _ (by simp) (fun b hb'=>by simp only; exact set_other _ _ _ _ hb') (keeps_block hno fun b' hb'=>by simp only; exact set_other _ _ _ _ hb') (fun _ _ h h'=>absurd h h') ⟨by omega,fun _=>rfl⟩ (fun n hn=>by simp [AObj.names] at hn) ?_ (hv:=hv)
  intro T
  simp only [ObjOK]
  refine ⟨hsz,c++dy'++e,sp,RepSeq.mono T.keeps h7,by rw [hcap]; simp; omega,fun _=>⟨⟨el,fr,?_,fun j hj=>hfr j (by simp at hj ⊢; omega)⟩,fun i hi=>absurd hi (hno i),fun h=>by simp at h⟩⟩
  rw [show c++dy'++e++sp=c++dy'++(e++sp) by simp]
  exact set_same _ _ _ hlt
end g
end Go.Rx
end
noncomputable section
namespace Go.Rx
section g
variable {P:Program} {ob:Ob} {γ:Hm} {G:Gh} {w:World}
theorem growBy_le (n:Nat) (hn:256≤n):∀ (r c:Nat),c≤2 * n→Builtin.growBy n r c≤2 * n
  | 0,c,h=>h
  | r + 1,c,h=>by
    simp only [Builtin.growBy]
    split
    · exact h
    · exact growBy_le n hn r _ (by omega)
theorem cap_le {need old:Nat} (h:old < need):Builtin.nextslicecap need old≤2 * need:=by
  unfold Builtin.nextslicecap
  split
  · omega
  · split
    · omega
    · exact growBy_le need (by omega) 4 old (by omega)
def tailLen:PV→Nat
  | .s b=>b.length
  | y=>y.len
def RepT (G:Gh) (w:World) (sz:Nat) (y:PV) (ys:List Value):Prop:=match y with
  | .s b=>sz=1∧ys=b.map cu8
  | y=>RepSeq G w sz y ys
theorem RepT.len {sz:Nat} {s:PV} {cs:List Value} (h:RepT G w sz s cs):cs.length=tailLen s * sz:=by
  cases s<;>simp only [RepT] at h
  case s=>obtain ⟨rfl,rfl⟩:=h; simp [tailLen]
  all_goals exact RepSeq.len h
theorem app_sound {sz:Nat} {s y s':PV} {cs ys:List Value} (hr:RepSeq G w sz s cs) (hy:RepT G w sz y ys) (h:s.app y=some s'):RepSeq G w sz s' (cs++ys)∧s'.len=s.len + tailLen y:=by
  cases s<;>simp only [RepSeq] at hr
  · obtain ⟨rfl,h1,h2⟩:=hr
    cases y<;>simp only [PV.app] at h<;>try (simp at h; done)
    split at h
    · simp only [Option.some.injEq] at h
      subst h
      simp only [RepT,RepSeq] at hy
      obtain ⟨rfl,h3,h4⟩:=hy
      exact ⟨⟨rfl,RepPs.append _ _ _ _ h1 h3,fun x hx=>by
        rcases List.mem_append.1 hx with hx | hx
        · exact h2 x hx
        · exact h4 x hx⟩,by simp [PV.len,tailLen]⟩
    · simp at h
  · obtain ⟨rfl,rfl⟩:=hr
    cases y<;>simp only [PV.app] at h<;>try (simp at h; done)
    · simp only [Option.some.injEq] at h
      subst h
      simp only [RepT] at hy
      obtain ⟨_,rfl⟩:=hy
      exact ⟨⟨rfl,by simp⟩,by simp [PV.len,tailLen]⟩
    · simp only [Option.some.injEq] at h
      subst h
      simp only [RepT,RepSeq] at hy
      obtain ⟨_,rfl⟩:=hy
      exact ⟨⟨rfl,by simp⟩,by simp [PV.len,tailLen]⟩
theorem cellsAt_heap {w':World} (h:w'.heap=w.heap) {b off:Nat} {cs:List Value} (hc:cellsAt w b off cs):cellsAt w' b off cs:=fun j hj=>by rw [← hc j hj]; simp only [World.cell?,h]
theorem ones_cu8 (bs:List UInt8):∀ c∈bs.map cu8,c.oneCell'=true:=by
  intro c hc; obtain ⟨b,_,rfl⟩:=List.mem_map.1 hc; rfl
theorem load_list {b off:Nat} {cs:List Value} (h:cellsAt w b off cs):(loadCells ⟨b,off,none⟩ cs.length).run P w=.ok cs.toArray w:=
  run_loadCells_list (P:=P) w ⟨b,off,none⟩ cs (fun j v hv=>by rw [addr_add,h j (List.getElem?_eq_some_iff.1 hv).1]; exact hv)
theorem seq_ones {sz:Nat} {s:PV} {cs:List Value} (h:RepSeq G w sz s cs):∀ c∈cs,c.oneCell'=true:=by
  cases s<;>simp only [RepSeq] at h
  · exact RepPs.ones _ _ h.2.1
  · obtain ⟨_,rfl⟩:=h; exact ones_cu8 _
theorem tail_sound (H : HeapOK ob γ G w) {h : Ob} (hh : ∀ l o, get h l = some o → get ob l = some o) {x : AV} {v : Value} {y s s' : PV} {sz : Nat} {ps : List Prop} (ht : tailOf h x = some (y, ps)) (hp : All ps) (hx : RepV ob γ G w x v) (happ : s.app y = some s') (hs : ∃ cs, RepSeq G w sz s cs) :
    ∃ ys,RepT G w sz y ys∧(Builtin.lenOf v).run P w=.ok (tailLen y) w∧(∀ c∈ys,c.oneCell'=true)∧∀ w':World,w'.heap=w.heap→(Builtin.firstCells sz (tailLen y) v).run P w'=.ok ys.toArray w':=by
  unfold tailOf at ht
  obtain ⟨cs0,hs⟩:=hs
  split at ht
  · rename_i z
    have:=pure0_some ht
    subst this
    obtain ⟨cs,hr,ho⟩:=RepV_pv.1 hx
    cases y with
    | l sz2 xs2=>
      have hq:sz2=sz:=by
        cases s<;>simp only [PV.app] at happ<;>try (simp at happ; done)
        split at happ
        · rename_i hq; simp only [beq_iff_eq] at hq; simp only [RepSeq] at hs; rw [← hq,hs.1]
        · simp at happ
      subst hq
      simp only [RepP] at hr
      obtain ⟨ad,cap,rfl,h1,h2,h3⟩:=hr
      cases (ofCells_false ho)
      rcases h3 with rfl | ⟨b,off,vs,rfl,h4,h5,h6⟩
      · refine ⟨[],⟨rfl,rfl,by simp⟩,rfl,by simp,fun w' hw=>?_⟩
        cases ad<;>simp [Builtin.firstCells,tailLen,PV.len,loadCells,loadCellsFrom]
      · have hT:RepT G w sz2 (.l sz2 xs2) vs:=⟨rfl,h4,h2⟩
        refine ⟨vs,hT,rfl,RepPs.ones _ _ h4,fun w' hw=>?_⟩
        simp only [Builtin.firstCells]
        rw [← hT.len]; exact load_list (cellsAt_heap hw h5)
    | s bs=>
      have hq:sz=1:=by
        cases s<;>simp only [PV.app] at happ<;>try (simp at happ; done)
        simp only [RepSeq] at hs; exact hs.1
      subst hq
      simp only [RepP] at hr
      subst hr
      cases (ofCells_false ho)
      refine ⟨bs.map cu8,⟨rfl,rfl⟩,rfl,ones_cu8 bs,fun w' hw=>?_⟩
      simp only [Builtin.firstCells,tailLen,ba_extract,Sem.run_pure]
      congr 1
      apply Array.ext'
      simp [cu8]
    | bl ys=>
      have hq:sz=1:=by
        cases s<;>simp only [PV.app] at happ<;>try (simp at happ; done)
        simp only [RepSeq] at hs; exact hs.1
      subst hq
      simp only [RepP] at hr
      obtain ⟨ad,cap,rfl,h1,h3⟩:=hr
      cases (ofCells_false ho)
      rcases h3 with rfl | ⟨b,off,rfl,h5,h6⟩
      · refine ⟨[],⟨rfl,rfl⟩,rfl,by simp,fun w' hw=>?_⟩
        cases ad<;>simp [Builtin.firstCells,tailLen,PV.len,loadCells,loadCellsFrom]
      · refine ⟨ys.map cu8,⟨rfl,rfl⟩,rfl,ones_cu8 ys,fun w' hw=>?_⟩
        have:=load_list (P:=P) (cellsAt_heap hw h5)
        simp only [Builtin.firstCells,tailLen,PV.len,Nat.mul_one]
        simpa using this
    | _=>cases s<;>simp [PV.app] at happ
  · rename_i l n
    split at ht
    · rename_i fz sz' z hg
      obtain ⟨rfl,hn⟩:=owe_some ht hp
      have hg':=hh _ _ hg
      have h0:=H.obj _ _ hg'
      simp only [ObjOK] at h0
      obtain ⟨hsz,cs,sp,hr,hcap,hX⟩:=h0
      have hblk:=vec_cells hcap fun e=>(hX e).1
      have h1:=RepV_one rfl rfl hx
      simp only [RepC] at h1
      obtain ⟨a,cap,h1,h2,h3⟩:=h1
      simp only [List.cons.injEq,and_true] at h1
      subst h1
      have hc0:cap≠0→a=some ⟨(γ l).1,0,none⟩:=by
        rcases h3 with ⟨fz',sz2,x',g1,g2,g3,g4⟩ | ⟨xs,_,_,g1,_⟩
        · rw [hg'] at g1; cases g1
          intro e
          obtain ⟨b,e1,e2⟩:=g3 e
          rw [e1,e2 hn]
        · rw [hg'] at g1; cases g1
      have hsz':sz'=sz∧tailLen y=n∧RepT G w sz y cs:=by
        cases s<;>cases y<;>simp only [PV.app] at happ<;>try (simp at happ; done)
        · split at happ
          · rename_i hq
            simp only [beq_iff_eq] at hq
            simp only [RepSeq] at hs hr
            exact ⟨by rw [← hr.1,← hs.1,hq],hn,by rw [← hs.1,hq]; exact ⟨rfl,hr.2.1,fun x hx=>by rw [hr.2.2 x hx,hr.1]⟩⟩
          · simp at happ
        · simp only [RepSeq] at hr
        · simp only [RepSeq] at hs hr
          exact ⟨by rw [hr.1,hs.1],hn,⟨hs.1,hr.2⟩⟩
      obtain ⟨rfl,h4,h5⟩:=hsz'
      refine ⟨cs,h5,by rw [h4]; rfl,seq_ones hr,fun w' hw=>?_⟩
      have hl:=RepT.len h5
      by_cases hz:cap=0
      · have h0 : cs = [] := by
          have:n=0:=by omega
          rw [h4,this,Nat.zero_mul] at hl
          exact List.length_eq_zero_iff.1 hl
        have hn0:n=0:=by omega
        subst h0
        rw [h4,hn0]
        cases a<;>simp [Builtin.firstCells,loadCells,loadCellsFrom]
      · rw [hc0 hz]
        simp only [Builtin.firstCells]
        rw [← hl]
        exact load_list (cellsAt_heap hw fun j hj=>by rw [hblk j (by simp; omega),List.getElem?_append_left hj])
    · simp at ht
  · simp at ht
theorem zero_size {e:TypeId} {z:AV} (h:zeroOf P e=some z):∃ zv,(∀ w':World,(zeroValue e).run P w'=.ok zv w')∧zv.cells.size=szOf P e:=by
  obtain ⟨zv,cs,h1,h2,h3,h4,h5⟩:=zeroOf_sound (ob:=[]) (γ:=fun _=>(0,0)) (G:=fun _ _=>False) (w:=default) h
  refine ⟨zv,h1,?_⟩
  simp only [fitT,Bool.and_eq_true,beq_iff_eq] at h5
  rw [h4,h5.1,← RepC.len _ _ h2]
  simp
theorem zeroCells_size (z:Array Value) (n:Nat):(Builtin.zeroCells z n).toList.length=n * z.size:=by simp [Builtin.zeroCells]
theorem append_kind {u:TypeId} {uk:TK} (hu:kindOf P u=some uk) (huk:uk.appends=true):P.underlying u=some .string∨∃ e,P.underlying u=some (.slice e):=by
  cases uk<;>simp [TK.appends] at huk
  · exact .inl (kind_str hu)
  · exact .inr ⟨_,kind_slice hu⟩
theorem run_append_room {t u ty e : TypeId} {v : Value} {base : Option Addr} {sLen cap n : Nat} {new : List Value} {uk : TK} (hk : kindOf P t = some (.slice e)) (hu : kindOf P u = some uk) (huk : uk.appends = true)
    (hl:(Builtin.lenOf v).run P w=.ok n w) (hf:(Builtin.firstCells (szOf P e) n v).run P w=.ok new.toArray w) (hle:sLen + n≤cap) {w':World} (hst:∀ a,base=some a→(storeCells (a.add (sLen * szOf P e)) new).run P w=.ok () w') (hno:base=none→w'=w) :
    (Builtin.append_ #[t,u] ty #[.slice base sLen cap,v]).run P w=.ok (.slice base (sLen + n) cap) w':=by
  rcases append_kind hu huk with hu' | ⟨e',hu'⟩
  all_goals
    cases base with
    | none=>simp [Builtin.append_,run_underlying (kind_slice hk),run_underlying hu',run_szI (kind_slice_info hk),hl,hf,hle,hno rfl]
    | some a=>simp [Builtin.append_,run_underlying (kind_slice hk),run_underlying hu',run_szI (kind_slice_info hk),hl,hf,hle,hst a rfl]
theorem firstCells_none (a:Option Addr) (sz n cap:Nat):(Builtin.firstCells sz 0 (.slice a n cap)).run P w=.ok (([]:List Value).toArray) w:=by
  cases a with
  | none=>rfl
  | some a=>simp only [Builtin.firstCells,Nat.zero_mul]; rfl
theorem run_append_grow {t u ty e : TypeId} {v : Value} {base : Option Addr} {sLen cap n : Nat} {old new : List Value} {uk : TK} {z : AV} (hk : kindOf P t = some (.slice e)) (hu : kindOf P u = some uk) (huk : uk.appends = true)
    (hb:0 < bytesOf P e) (hl:(Builtin.lenOf v).run P w=.ok n w) (hf:∀ w':World,w'.heap=w.heap→(Builtin.firstCells (szOf P e) n v).run P w'=.ok new.toArray w') (hold:∀ w':World,w'.heap=w.heap→(Builtin.firstCells (szOf P e) sLen (.slice base sLen cap)).run P w'=.ok old.toArray w')
    (hlt:cap < sLen + n) (hby:(sLen + n) * bytesOf P e≤maxBytes) (hz:zeroOf P e=some z) :
    ∃ k sp w',(Builtin.append_ #[t,u] ty #[.slice base sLen cap,v]).run P w=.ok (.slice (some ⟨w.heap.size,0,none⟩) (sLen + n) (sLen + n + k)) w'∧sp.length=k * szOf P e∧w'.heap=w.heap.push (.cells (old++new++sp).toArray e)∧SameIO w w':=by
  have hbi:∃ i,P.info? e=some i∧i.bytes=bytesOf P e∧i.size=szOf P e:=by
    unfold bytesOf at hb
    cases hi:P.info? e with
    | none=>simp [hi] at hb
    | some i=>exact ⟨i,rfl,by simp [bytesOf,hi],by simp [szOf,hi]⟩
  obtain ⟨i,hi,hib,his⟩:=hbi
  obtain ⟨zv,hz1,hz2⟩:=zero_size hz
  have hn:¬ (sLen + n≤cap):=by omega
  have hb0:i.bytes≠0:=by omega
  have h48':¬ (281474976710656 < Builtin.nextslicecap (sLen + n) cap * i.bytes):=by
    have h1:=cap_le hlt
    have h2:Builtin.nextslicecap (sLen + n) cap * i.bytes≤2 * (sLen + n) * i.bytes:=Nat.mul_le_mul_right _ h1
    have h3:2 * (sLen + n) * i.bytes=2 * ((sLen + n) * bytesOf P e):=by rw [hib,Nat.mul_assoc]
    simp only [maxBytes] at hby
    omega
  have hq:(Question.appendCap (sLen + n) cap e).forced=false:=rfl
  obtain ⟨k,hk2⟩:=cut_cap (sLen + n) cap e (w.tape w.drawn (Question.appendCap (sLen + n) cap e))
  have hf':=hf { w with drawn:=w.drawn + 1 } rfl
  have hold':=hold { w with drawn:=w.drawn + 1 } rfl
  have hcap:sLen + n + k - (sLen + n)=k:=by omega
  refine ⟨k,(Builtin.zeroCells zv.cells k).toList,{ w with heap:=w.heap.push (.cells (old++new++(Builtin.zeroCells zv.cells k).toList).toArray e),drawn:=w.drawn + 1 },?_,by rw [zeroCells_size,hz2],rfl,rfl,rfl⟩
  have harr:(old++(new++(Builtin.zeroCells zv.cells k).toList)).toArray=old.toArray++(new.toArray++Builtin.zeroCells zv.cells k):=by apply Array.ext'; simp
  have h63:¬ (9223372036854775807 < ((sLen:Int) + (n:Int))):=by
    have:sLen + n≤(sLen + n) * bytesOf P e:=Nat.le_mul_of_pos_right _ hb
    simp only [maxBytes] at hby; omega
  rcases append_kind hu huk with hu' | ⟨e',hu'⟩
  all_goals
    simp [Builtin.append_,run_underlying (kind_slice hk),run_underlying hu',sizeOf,typeInfo,hi,his,hl,hn,hb0,h48',hq,hk2,hcap,hz1,newRow,h63,IntKind.max,IntKind.signed,IntKind.bits]
    rw [show (Builtin.firstCells (szOf P e) sLen (Value.slice base sLen cap)).run P w.drew=_ from hold w.drew rfl]
    simp only [Result.andThen_ok]
    rw [show (Builtin.firstCells (szOf P e) n v).run P w.drew=_ from hf w.drew rfl]
    simp only [Result.andThen_ok,harr]
    rfl
end g
end Go.Rx
end
noncomputable section
namespace Go.Rx
section g
variable {P:Program} {ob:Ob} {γ:Hm} {G:Gh} {w:World}
def YieldsM (P:Program) (ob:Ob) (γ:Hm) (G:Gh) (w:World) (s:Sem Next) (r:AV) (ob':Ob):Prop:=
  ∃ v γ' G' w',(s.run P w=.ok (.value v) w'∨(s.run P w=.ok .skip w'∧v=.tuple #[]))∧HeapOK ob' γ' G' w'∧Trans ob γ G w ob' γ' G' w'∧RepV ob' γ' G' w' r v
def WOut (P:Program) (ob:Ob) (γ:Hm) (G:Gh) (w:World) (s:Sem Next) (h h':Ob) (out:Out):Prop:=
  ∃ r,out=.ret r∧((h'=h∧YieldsM P ob γ G w s r ob)∨(∃ l o',h'=ins l o' h∧YieldsM P ob γ G w s r (ins l o' ob))∨∀ T,h=keepOnly T ob→(∀ n x,get h' n=some x→has T n=true∨get ob n=none)→YieldsM P ob γ G w s r (merge T h' ob))
theorem YieldsM.ofW {s:Sem Value} {r:AV} {ob':Ob} (h:YieldsW P ob γ G w s r ob'):YieldsM P ob γ G w (do pure (Next.value (← s))) r ob':=by
  obtain ⟨v,γ',G',w',h1,h2,h3,h4⟩:=h
  exact ⟨v,γ',G',w',.inl (by simp [h1]),h2,h3,h4⟩
theorem RepV_unit {ob:Ob} {γ:Hm} {G:Gh} {w:World}:RepV ob γ G w (.tup []) (.tuple #[]):=⟨[],rfl,rfl⟩
theorem YieldsM.ofU {s:Sem Unit} {ob':Ob} {γ':Hm} {G':Gh} {w':World} (h:s.run P w=.ok () w') (h1:HeapOK ob' γ' G' w') (h2:Trans ob γ G w ob' γ' G' w'):YieldsM P ob γ G w (do s; pure Next.skip) (.tup []) ob':=
  ⟨_,γ',G',w',.inr ⟨by simp [h],rfl⟩,h1,h2,RepV_unit⟩
theorem newObj_some {d:Option Tmp} {lvl:Nat} {h h':Ob} {o:AObj} {r:Nat→AV} {out:Out} {ps:List Prop} (hs:newObj d lvl h o r=some ((out,h'),ps)):∃ l,out=.ret (r l)∧h'=ins l o h∧get h l=none:=by
  unfold newObj at hs
  split at hs
  · split at hs
    · rename_i hg
      have:=pure0_some hs
      simp only [Prod.mk.injEq] at this
      exact ⟨_,this.1,this.2,hg⟩
    · simp at hs
  · simp at hs
theorem done_some {l:Nat} {o:AObj} {h h':Ob} {out:Out} {ps:List Prop} (hs:done l o h=some ((out,h'),ps)):out=.ret (.tup [])∧h'=ins l o h:=by
  have:=pure0_some hs
  simp only [Prod.mk.injEq] at this
  exact this
theorem oweAll_some {qs ps:List Prop} {x:Unit} (h:oweAll qs=some (x,ps)) (hp:All ps):All qs:=by
  simp only [oweAll,Option.some.injEq,Prod.mk.injEq] at h
  rw [h.2]; exact hp
theorem RepSeq_empty {e:TypeId} (h:emptyOK P e=true):RepSeq G w (szOf P e) (emptySeq P e) []∧(emptySeq P e).len=0:=by
  unfold emptyOK at h
  unfold emptySeq
  split at h
  · simp only [beq_iff_eq] at h; exact ⟨⟨h,rfl⟩,rfl⟩
  · exact ⟨⟨rfl,rfl,by simp⟩,rfl⟩
theorem append_nil_sound (H : HeapOK ob γ G w) {h : Ob} (hh : ∀ l o, get h l = some o → get ob l = some o) {t u ty e : TypeId} {uk : TK} {x : AV} {v : Value} {y s : PV} {z : AV} {ps : List Prop} {l : Nat} (hk : kindOf P t = some (.slice e)) (hu : kindOf P u = some uk)
    (huk:uk.appends=true) (hsz:0 < szOf P e) (hb:0 < bytesOf P e) (hz:zeroOf P e=some z) (hem:emptyOK P e=true) (ht:tailOf h x=some (y,ps)) (hp:All ps) (hx:RepV ob γ G w x v)
    (happ:(emptySeq P e).app y=some s) (hby:s.len * bytesOf P e≤maxBytes) (hl:get ob l=none) :
    YieldsW P ob γ G w (Builtin.append_ #[t,u] ty #[.slice none 0 0,v]) (.v l s.len) (ins l (.vec false (szOf P e) s) ob):=by
  obtain ⟨he,he0⟩:=RepSeq_empty (G:=G) (w:=w) hem
  obtain ⟨ys,h1,h2,h3,h4⟩:=tail_sound (P:=P) H hh ht hp hx happ ⟨[],he⟩
  obtain ⟨h5,h6⟩:=app_sound he h1 happ
  simp only [List.nil_append] at h5
  have hn:s.len=tailLen y:=by omega
  by_cases hz0:s.len=0
  · have hyl:=RepT.len h1
    have hy1:ys=[]:=by
      rw [← hn,hz0,Nat.zero_mul] at hyl
      exact List.length_eq_zero_iff.1 hyl
    subst hy1
    have hrun:=run_append_room (P:=P) (w:=w) (t:=t) (u:=u) (ty:=ty) (base:=none) (sLen:=0) (cap:=0) (new:=[]) hk hu huk h2 (h4 w rfl) (by omega) (w':=w) (fun _ h=>by cases h) (fun _=>rfl)
    obtain ⟨q1,q2⟩:=dead_ok H l (fz:=false) (b:=0) hsz h5 (fun o ho=>by rw [hl] at ho; cases ho)
    refine ⟨_,_,G,w,hrun,q1,q2,RepV_cell rfl ?_⟩
    simp only [RepC]
    exact ⟨none,0,by rw [← hn,hz0],by omega,.inl ⟨false,szOf P e,s,by simp [get_ins],Nat.le_refl _,fun e=>absurd rfl e,fun _=>by rw [upd_same]⟩⟩
  obtain ⟨k,sp,w',g1,g2,g3,hio⟩:=run_append_grow (P:=P) (w:=w) (t:=t) (u:=u) (ty:=ty) (base:=none) (sLen:=0) (cap:=0) (old:=[]) (new:=ys) hk hu huk hb h2 h4 (fun w' _=>by simp [Builtin.firstCells]) (by omega) (by rw [Nat.zero_add,← hn]; exact hby) hz
  simp only [List.nil_append] at g3
  have hlen:=RepSeq.len h5
  obtain ⟨γ',q1,q2,q3⟩:=new_vec H hl (cap:=0 + tailLen y + k) (n:=s.len) h5 hsz (by simp [hlen,g2,hn,Nat.add_mul]) rfl (by omega) (w':=w') g3 hio
  refine ⟨_,γ',G,w',g1,q1,q2,?_⟩
  rw [Nat.zero_add,← hn] at *
  exact q3
theorem append_vec_sound (H : HeapOK ob γ G w) {h : Ob} (hh : ∀ l o, get h l = some o → get ob l = some o) {t u ty e : TypeId} {uk : TK} {x : AV} {v va : Value} {y s s' : PV} {z : AV} {ps : List Prop} {l n : Nat} {fz : Bool} (hk : kindOf P t = some (.slice e)) (hu : kindOf P u = some uk)
    (huk:uk.appends=true) (hsz:0 < szOf P e) (hb:0 < bytesOf P e) (hz:zeroOf P e=some z) (ht:tailOf h x=some (y,ps)) (hp:All ps) (hx:RepV ob γ G w x v) (ha:RepV ob γ G w (.v l n) va)
    (hg:get ob l=some (.vec fz (szOf P e) s)) (happ:s.app y=some s') (hby:s'.len * bytesOf P e≤maxBytes) (hn:s.len=n) :
    YieldsW P ob γ G w (Builtin.append_ #[t,u] ty #[va,v]) (.v l s'.len) (ins l (.vec fz (szOf P e) s') ob):=by
  have h0:=H.obj _ _ hg
  have hlt:=h0.lt
  simp only [ObjOK] at h0
  obtain ⟨_,cs,sp,hr,hcap,hX⟩:=h0
  have h1:=RepV_one rfl rfl ha
  simp only [RepC] at h1
  obtain ⟨a,cap,h1,h2,h3⟩:=h1
  simp only [List.cons.injEq,and_true] at h1
  subst h1
  obtain ⟨hc0,hd0⟩:(cap≠0→a=some ⟨(γ l).1,0,none⟩)∧cap=(γ l).2:=by
    rcases h3 with ⟨fz',sz2,x',g1,g2,g3,g4⟩ | ⟨xs,_,_,g1,_⟩
    · rw [hg] at g1; cases g1
      refine ⟨fun e=>?_,g4 hn⟩
      obtain ⟨b,e1,e2⟩:=g3 e
      rw [e1,e2 hn]
    · rw [hg] at g1; cases g1
  have hb2:(γ l).2=cap:=hd0.symm
  rw [hb2] at hcap hX
  obtain ⟨ys,t1,t2,t3,t4⟩:=tail_sound (P:=P) H hh ht hp hx happ ⟨cs,hr⟩
  obtain ⟨h5,h6⟩:=app_sound hr t1 happ
  have hcl:=RepSeq.len hr
  have hyl:=RepT.len t1
  have hnl:s'.len=n + tailLen y:=by omega
  have hspl:cap * szOf P e=cs.length + sp.length:=by rw [hcap]; simp
  by_cases hroom:n + tailLen y≤cap
  · by_cases hz0:cap=0
    · have hn0:n=0:=by omega
      have hy0:tailLen y=0:=by omega
      have hc1:cs=[]:=by
        rw [hn,hn0,Nat.zero_mul] at hcl
        exact List.length_eq_zero_iff.1 hcl
      have hy1:ys=[]:=by
        rw [hy0,Nat.zero_mul] at hyl
        exact List.length_eq_zero_iff.1 hyl
      subst hc1; subst hy1
      rw [List.append_nil] at h5
      have e0:upd γ l ((γ l).1,0)=γ:=by
        have:((γ l).1,0)=γ l:=by rw [← hz0,← hb2]
        rw [this,upd_self]
      have hT:=dead_ok H l (fz:=fz) (b:=(γ l).1) hsz h5 (fun o ho=>by rw [hg] at ho; cases ho; rw [e0]; exact ⟨by omega,fun _=>rfl⟩)
      rw [e0] at hT
      have hrun:=run_append_room (P:=P) (w:=w) (t:=t) (u:=u) (ty:=ty) (base:=a) (sLen:=n) (cap:=cap) (new:=[]) hk hu huk t2 (t4 w rfl) hroom (w':=w) (fun _ _=>rfl) (fun _=>rfl)
      refine ⟨_,γ,G,_,hrun,hT.1,hT.2,RepV_cell rfl ?_⟩
      simp only [RepC]
      exact ⟨a,cap,by rw [hnl],by omega,.inl ⟨fz,szOf P e,s',by simp [get_ins],Nat.le_refl _,fun e=>absurd hz0 e,fun _=>hd0⟩⟩
    obtain ⟨b,hbc⟩:∃ b,(b,cap)=γ l:=⟨(γ l).1,by rw [hd0]⟩
    have hb1:(γ l).1=b:=by rw [← hbc]
    obtain ⟨hblk,hG,hGfz⟩:=hX hz0
    have hlt:=hlt (show (γ l).2≠0 by rw [hb2]; exact hz0)
    rw [hb1] at hblk hG hGfz hlt
    have ha1:=hc0 hz0
    rw [hb1] at ha1
    subst ha1
    have hblk2:=hblk
    obtain ⟨el,fr,hbl,hfr⟩:=hblk
    have hle:ys.length≤sp.length:=by
      have:(n + tailLen y) * szOf P e≤cap * szOf P e:=Nat.mul_le_mul_right _ hroom
      rw [Nat.add_mul] at this
      rw [hn] at hcl
      omega
    have hsp:sp=sp.take ys.length++sp.drop ys.length:=(List.take_append_drop _ _).symm
    have hbl':w.heap[b]?=some (.cells (cs++sp.take ys.length++sp.drop ys.length).toArray el fr):=by rw [hbl,List.append_assoc,← hsp]
    have hst:=store_cells (P:=P) b el fr ys 0 w cs (sp.take ys.length) (sp.drop ys.length) (0 + n * szOf P e) hbl' (by simp; omega) (by rw [hcl,hn]; omega) (fun j h6 h7=>hfr j (by simp at h7 ⊢; omega)) t3
    have hrun:=run_append_room (P:=P) (w:=w) (t:=t) (u:=u) (ty:=ty) (base:=some ⟨b,0,none⟩) (sLen:=n) (cap:=cap) (new:=ys) hk hu huk t2 (t4 w rfl) hroom (w':={ w with heap:=w.heap.setIfInBounds b (.cells (cs++ys++sp.drop ys.length).toArray el fr) })
      (fun a ha=>by cases ha; rw [addr_add]; exact hst) (fun h=>by cases h)
    let G':Gh:=fun b' i=>G b' i∨(fz=true∧b'=b∧i < (cs++ys).length)
    have hcell:∀ i,i < cs.length→({ w with heap:=w.heap.setIfInBounds b (.cells (cs++ys++sp.drop ys.length).toArray el fr) }:World).cell? ⟨b,i,none⟩=w.cell? ⟨b,i,none⟩:=fun i hi=>by
      simp only [World.cell?,set_same _ _ _ hlt,hbl,Option.isSome_none,Bool.false_eq_true,if_false,List.getElem?_toArray]
      rw [List.append_assoc,List.getElem?_append_left hi,List.getElem?_append_left hi]
    have hT:=turn_ok H hg (.vec fz (szOf P e) s') G' { w with heap:=w.heap.setIfInBounds b (.cells (cs++ys++sp.drop ys.length).toArray el fr) } (by simp) (fun b' hb'=>by rw [hb1] at hb'; simp only; exact set_other _ _ _ _ hb')
      ⟨fun _ _ h=>.inl h,fun b' i h=>by
        by_cases e:b'=b
        · subst e; exact hcell i (hG i h).2
        · simp only [World.cell?,set_other _ _ _ _ e]⟩
      (fun b' i h h'=>by
        rcases h with h | ⟨_,h,_⟩
        · exact absurd h h'
        · rw [hb1]; exact h) ⟨by omega,fun _=>rfl⟩ (fun n hn=>by simp [AObj.names] at hn) (fun T=>by
        simp only [ObjOK,hb1,hb2]
        refine ⟨hsz,cs++ys,sp.drop ys.length,RepSeq.mono T.keeps h5,by simp; omega,fun _=>⟨⟨el,fr,set_same _ _ _ hlt,fun j hj=>hfr j (by simp at hj ⊢; omega)⟩,fun o ho=>?_,fun hf j hj=>.inr ⟨hf,rfl,by simpa using hj⟩⟩⟩
        rcases ho with ho | ⟨h1,_,h2⟩
        · exact ⟨(hG o ho).1,by have:=(hG o ho).2; simp; omega⟩
        · exact ⟨h1,h2⟩) (hv:=show (γ l).2≠0 by rw [hb2]; exact hz0)
    refine ⟨_,γ,G',_,hrun,hT.1,hT.2,RepV_cell rfl ?_⟩
    simp only [RepC]
    exact ⟨_,cap,by rw [hnl],by omega,.inl ⟨fz,szOf P e,s',by simp [get_ins],Nat.le_refl _,fun _=>⟨b,rfl,fun _=>hb1.symm⟩,fun _=>hd0⟩⟩
  ·
    have hold:∀ w':World,w'.heap=w.heap→(Builtin.firstCells (szOf P e) n (.slice a n cap)).run P w'=.ok cs.toArray w':=fun w' hw=>by
      by_cases hz0:cap=0
      · have hn0:n=0:=by omega
        have hc1:cs=[]:=by
          rw [hn,hn0,Nat.zero_mul] at hcl
          exact List.length_eq_zero_iff.1 hcl
        subst hc1
        rw [hn0]
        exact firstCells_none _ _ _ _
      · rw [hc0 hz0]
        obtain ⟨hblk2,_⟩:=hX hz0
        simp only [Builtin.firstCells]
        rw [← hn,← hcl]
        exact load_list (cellsAt_heap hw fun j hj=>by rw [block_cells hblk2 j (by simp; omega),List.getElem?_append_left hj])
    obtain ⟨k,sp',w',g1,g2,g3,hio⟩:=run_append_grow (P:=P) (w:=w) (t:=t) (u:=u) (ty:=ty) (base:=a) (sLen:=n) (cap:=cap) (old:=cs) (new:=ys) hk hu huk hb t2 t4 hold (by omega) (by rw [← hnl]; exact hby) hz
    let G':Gh:=fun b' i=>G b' i∨(fz=true∧b'=w.heap.size∧i < (cs++ys).length)
    have hno:∀ i,¬ G w.heap.size i:=fun i hi=>by have:=H.gok _ _ hi; omega
    have hT:=put_ok H l (.vec fz (szOf P e) s') (w.heap.size,n + tailLen y + k) G' w' (by rw [g3]; simp) (fun b' hb' _=>by rw [g3]; exact heap_push w _ b' hb') ⟨fun _ _ h=>.inl h,fun b' i h=>by simp only [World.cell?,g3,heap_push w _ b' (H.gok b' i h)]⟩
      (fun b' i h h'=>by
        rcases h with h | ⟨_,h,_⟩
        · exact absurd h h'
        · exact h) (by rw [g3]; simp) (.inl (Nat.le_refl _)) (fun o ho=>by rw [hg] at ho; cases ho; exact ⟨by omega,fun e=>by omega⟩) (fun n hn=>by simp [AObj.names] at hn) (fun T=>by
        simp only [ObjOK,upd_same]
        refine ⟨hsz,cs++ys,sp',RepSeq.mono T.keeps h5,?_,fun _=>⟨⟨e,(0,0),by simp [g3],fun o _=>by simp⟩,fun o ho=>?_,fun hf j hj=>.inr ⟨hf,rfl,by simpa using hj⟩⟩⟩
        · simp only [List.length_append,hcl,hyl,g2,hn,Nat.add_mul]
        · rcases ho with ho | ⟨h1,_,h2⟩
          · exact absurd ho (hno o)
          · exact ⟨h1,h2⟩) hio
    refine ⟨_,_,G',w',g1,hT.1,hT.2,RepV_cell rfl ?_⟩
    simp only [RepC,upd_same]
    exact ⟨_,_,by rw [hnl],by omega,.inl ⟨fz,szOf P e,s',by simp [get_ins],Nat.le_refl _,fun _=>⟨_,rfl,fun _=>rfl⟩,fun _=>rfl⟩⟩
end g
end Go.Rx
end
noncomputable section
namespace Go.Rx
section g
variable {P:Program} {ob:Ob} {γ:Hm} {G:Gh} {w:World}
theorem fns_vals {e : TypeId} {val : Operand → AV} {ρ : Operand → Value} (S : Stands ob γ G w val ρ) (h1 : szOf P e = 1) : ∀ (l : List (Nat × Operand)) (k : Nat), (l.map fun q => val q.2).all (fun x => fitT P e x) = true → dense k l = true →
    ∃ css,denseV (szOf P e) k (l.map fun q=>(q.1,ρ q.2)) css∧RepCs ob γ G w (l.map fun q=>val q.2) css.flatten∧∀ x∈l.map fun q=>val q.2,x.size=1
  | [],k,_,_=>⟨[],trivial,rfl,by simp⟩
  | (i,o)::r,k,hf,hd=>by
    simp only [List.map_cons,List.all_cons,Bool.and_eq_true] at hf
    simp only [dense,Bool.and_eq_true,beq_iff_eq] at hd
    obtain ⟨css,g1,g2,g3⟩:=fns_vals S h1 r (k + 1) hf.2 hd.2
    have hf1:=hf.1
    simp only [fitT,Bool.and_eq_true,beq_iff_eq] at hf1
    obtain ⟨c,g4,g5⟩:=fit_RepV hf1.2 (S o)
    have hl:=RepC.len _ _ g4
    refine ⟨c::css,⟨hd.1,rep_cells g4 g5,by omega,g1⟩,by simp only [List.map_cons,RepCs,List.flatten_cons]; exact ⟨c,_,rfl,g4,g2⟩,?_⟩
    intro x hx
    simp only [List.map_cons,List.mem_cons] at hx
    rcases hx with rfl | hx
    · omega
    · exact g3 x hx
theorem fns_sound (H : HeapOK ob γ G w) {t e : TypeId} {n l : Nat} {parts : Array (Nat × Operand)} {val : Operand → AV} {ρ : Operand → Value} (S : Stands ob γ G w val ρ) (hk : kindOf P t = some (.slice e)) (hd : dense 0 parts.toList = true) (hn : n = parts.size)
    (hm:n * szOf P e≤16777216) (hz:zeroKnown P e=true) (h1:szOf P e=1) (hf:(parts.toList.map fun q=>val q.2).all (fun x=>fitT P e x)=true) (hl:get ob l=none) :
    YieldsW P ob γ G w (Instr.buildSlice t n (parts.map fun q=>(q.1,ρ q.2))) (.v l n) (ins l (.fns (parts.toList.map fun q=>val q.2)) ob):=by
  obtain ⟨css,g1,g2,g3⟩:=fns_vals S h1 parts.toList 0 hf hd
  have hmap:(parts.map fun q=>(q.1,ρ q.2))=(parts.toList.map fun q=>(q.1,ρ q.2)).toArray:=by apply Array.ext'; simp
  have he:∃ d,P.underlying e=some d:=by
    simp only [zeroKnown,Bool.and_eq_true] at hz
    exact Option.isSome_iff_exists.1 hz.2
  have hrun:=run_buildSlice (P:=P) (w:=w) (kind_slice hk) he hz hm g1 (by simp [hn])
  have:=new_ok H hl (.fns (parts.toList.map fun q=>val q.2)) n (w':={ w with heap:=w.heap.push (.cells css.flatten.toArray e) }) (obj:=.cells css.flatten.toArray e) rfl (RepCs_names _ _ g2) (fun T hg=>by
    simp only [ObjOK,upd_same]
    exact ⟨css.flatten,⟨e,(0,0),by simp,fun o _=>by simp⟩,RepCs.step T _ _ g2,g3,hg,by simp [hn]⟩)
  refine ⟨_,_,G,_,by rw [hmap]; exact hrun,this.1,this.2,RepV_cell rfl ?_⟩
  simp only [RepC,upd_same]
  exact ⟨_,_,rfl,Nat.le_refl _,.inr ⟨parts.toList.map fun q=>val q.2,_,rfl,by simp [get_ins],by simp [hn],rfl⟩⟩
theorem vec_sound (H : HeapOK ob γ G w) {t e : TypeId} {n l : Nat} {parts : Array (Nat × Operand)} {val : Operand → AV} {ρ : Operand → Value} (S : Stands ob γ G w val ρ) (hk : kindOf P t = some (.slice e)) (hd : dense 0 parts.toList = true) (hn : n = parts.size)
    (hm:n * szOf P e≤16777216) (hz:zeroKnown P e=true) (h0:0 < szOf P e) {an:Option Ans} {xs:List PV} (hx:AV.asPVs (parts.toList.map fun q=>val q.2)=some xs) {s:PV} {ps:List Prop} (hs:seqOf P an e xs=some (s,ps)) (hp:All ps) (hl:get ob l=none) :
    YieldsW P ob γ G w (Instr.buildSlice t n (parts.map fun q=>(q.1,ρ q.2))) (.v l n) (ins l (.vec false (szOf P e) s) ob):=by
  obtain ⟨cs,h1,h2,h3,h4,h5⟩:=buildSlice_run S hk hd hn hm hz hx hs hp
  obtain ⟨γ',q1,q2,q3⟩:=new_vec H hl (sp:=[]) (cap:=n) (n:=n) (el:=e) h2 h0 (by simp [h5]) h4 (Nat.le_refl _) (w':={ w with heap:=w.heap.push (.cells cs.toArray e) }) (by simp)
  refine ⟨_,γ',G,_,h1,q1,q2,?_⟩
  rw [h4]; exact q3
theorem rep_zeros (zs:List Value) (k:Nat):((Array.range (k * zs.length)).map (fun i=>zs.toArray[i % zs.toArray.size]!)).toList=(List.replicate k zs).flatten:=by
  induction k with
  | zero=>simp
  | succ k ih=>
    apply List.ext_getElem
    · simp [List.length_flatten]
    · intro i h1 h2
      have hz:0 < zs.length:=by
        simp at h1
        rcases Nat.eq_zero_or_pos zs.length with h | h
        · rw [h] at h1; simp at h1
        · exact h
      have hm:i % zs.length < zs.length:=Nat.mod_lt _ hz
      have hl:((Array.range ((k + 1) * zs.length)).map (fun i=>zs.toArray[i % zs.toArray.size]!)).toList[i]=zs[i % zs.length]:=by
        simp [getElem!_pos,hm]
      rw [hl]
      simp only [List.replicate_succ,List.flatten_cons]
      by_cases hi:i < zs.length
      · rw [List.getElem_append_left hi]
        congr 1
        exact Nat.mod_eq_of_lt hi
      · rw [List.getElem_append_right (by omega)]
        have h3:i - zs.length < k * zs.length:=by
          simp only [List.length_map,Array.length_toList,Array.size_map,Array.size_range] at h1
          rw [Nat.succ_mul] at h1; omega
        have h4:(List.replicate k zs).flatten[i - zs.length]'(by simp [List.length_flatten]; exact h3)=((Array.range (k * zs.length)).map (fun i=>zs.toArray[i % zs.toArray.size]!)).toList[i - zs.length]'(by simpa using h3):=by
          congr 1
          exact ih.symm
        rw [h4]
        have hm2:(i - zs.length) % zs.length < zs.length:=Nat.mod_lt _ hz
        simp only [Array.getElem_toList,Array.getElem_map,Array.getElem_range,List.size_toArray]
        rw [getElem!_pos _ _ (by simpa using hm2)]
        simp only [List.getElem_toArray]
        congr 1
        rw [← Nat.mod_eq_sub_mod (by omega)]
theorem RepPs_replicate {z:PV} {cs:List Value} (h:RepP G w z cs):∀ k,RepPs G w (List.replicate k z) (List.replicate k cs).flatten
  | 0=>rfl
  | k + 1=>⟨cs,_,by simp [List.replicate_succ],h,RepPs_replicate h k⟩
theorem makeSlice_sound (H : HeapOK ob γ G w) {t e : TypeId} {k l : Nat} {z : PV} (hk : kindOf P t = some (.slice e)) (hz : zeroOf P e = some (.pv z)) (h0 : 0 < szOf P e) (hb : 0 < bytesOf P e) (hem : emptyOK P e = true) (hby : k * bytesOf P e ≤ maxBytes) (hl : get ob l = none) :
    YieldsW P ob γ G w (Instr.makeSlice t (.int .i64 k) (.int .i64 k)) (.v l k) (ins l (.vec false (szOf P e) (match isU8 P e with | true=>.bl (List.replicate k 0) | false=>.l (szOf P e) (List.replicate k z))) ob):=by
  obtain ⟨zv,cs,h1,h2,h3,h4,h5⟩:=zeroOf_sound (ob:=ob) (γ:=γ) (G:=G) (w:=w) hz
  simp only [fitT,Bool.and_eq_true,beq_iff_eq] at h5
  have hzl:=RepC.len _ _ h2
  have h2':RepP G w z cs:=by simpa only [RepC] using h2
  have hseq:∃ s,s=(match isU8 P e with | true=>PV.bl (List.replicate k 0) | false=>PV.l (szOf P e) (List.replicate k z))∧RepSeq G w (szOf P e) s (List.replicate k cs).flatten∧s.len=k:=by
    refine ⟨_,rfl,?_⟩
    cases hu:isU8 P e with
    | true=>
      simp only [emptyOK,hu,beq_iff_eq] at hem
      have hzz:z=.i .u8 0:=by
        have hki:kindOf P e=some (.int .u8):=by
          unfold isU8 at hu; split at hu
          · rename_i h; exact h
          · simp at hu
        unfold zeroOf at hz
        simp only [zeroAV,hki] at hz
        split at hz
        · simp only [Option.some.injEq,AV.pv.injEq] at hz; exact hz.symm
        · simp at hz
      subst hzz
      simp only [RepP] at h2'
      subst h2'
      refine ⟨⟨hem,?_⟩,by simp [PV.len]⟩
      clear hby hl
      induction k with
      | zero=>rfl
      | succ k ih=>simp only [List.replicate_succ,List.flatten_cons,ih,List.map_cons]; rfl
    | false=>
      exact ⟨⟨rfl,RepPs_replicate h2' k,fun x hx=>by rw [(List.mem_replicate.1 hx).2]; simp only [AV.size] at h5; omega⟩,by simp [PV.len]⟩
  obtain ⟨s,hs,hr,hlen⟩:=hseq
  rw [← hs]
  have hcl:=RepSeq.len hr
  obtain ⟨γ',q1,q2,q3⟩:=new_vec H hl (sp:=[]) (cap:=k) (n:=k) (el:=e) hr h0 (by simp only [List.append_nil,hcl,hlen]) hlen (Nat.le_refl _) (w':={ w with heap:=w.heap.push (.cells (List.replicate k cs).flatten.toArray e) }) (by simp)
  refine ⟨_,γ',G,_,?_,q1,q2,q3⟩
  have hbi:∃ i,P.info? e=some i∧i.bytes=bytesOf P e:=by
    unfold bytesOf at hb
    cases hi:P.info? e with
    | none=>simp [hi] at hb
    | some i=>exact ⟨i,rfl,by simp [bytesOf,hi]⟩
  obtain ⟨i,hi,hib⟩:=hbi
  have hti:(typeInfo e).run P w=.ok i w:=by simp [typeInfo,hi]
  have hk1:k≤k * bytesOf P e:=Nat.le_mul_of_pos_right _ hb
  have hw:IntKind.i64.wrap (k:Int)=k:=by
    simp only [maxBytes] at hby
    simp only [IntKind.wrap,IntKind.signed,IntKind.bits]
    simp
    omega
  have hbk:¬ (281474976710656 < (bytesOf P e:Int) * (k:Int)):=by
    simp only [maxBytes] at hby
    have:((k * bytesOf P e:Nat):Int)=(bytesOf P e:Int) * (k:Int):=by push_cast; rw [Int.mul_comm]
    omega
  have hrow:((Array.range (k * szOf P e)).map fun i=>cs.toArray[i % cs.toArray.size]!)=(List.replicate k cs).flatten.toArray:=by
    apply Array.ext'
    have:=rep_zeros cs k
    rw [show cs.length=szOf P e by omega] at this
    exact this
  have hneg:¬ ((k:Int) < 0):=by omega
  by_cases hk0:k * szOf P e=0
  · have hcs:(List.replicate k cs).flatten=[]:=List.length_eq_zero_iff.1 (by rw [hcl,hlen]; exact hk0)
    simp [Instr.makeSlice,run_underlying (kind_slice hk),Go.asInt,run_asIntOf,hti,hib,hw,hneg,hbk,run_szI (kind_slice_info hk),hk0,newRow,hcs]
    congr 2
    apply Array.ext'
    simp
  · simp [Instr.makeSlice,run_underlying (kind_slice hk),Go.asInt,run_asIntOf,hti,hib,hw,hneg,hbk,run_szI (kind_slice_info hk),hk0,newRow,h1,h4]
    rw [← hrow]
    simp
end g
end Go.Rx
end
noncomputable section
namespace Go.Rx
section g
variable {P:Program} {ob:Ob} {γ:Hm} {G:Gh} {w:World}
theorem seqSz_of {sz:Nat} {s:PV} {cs:List Value} (h:RepSeq G w sz s cs):seqSz s=sz∧s.isSeq=true:=by
  cases s<;>simp only [RepSeq] at h
  · exact ⟨h.1,rfl⟩
  · exact ⟨h.1.symm,rfl⟩
def RepSeq' (sz:Nat) (s:PV):Prop:=seqSz s=sz∧s.isSeq=true
theorem freeze_vec_sound (H:HeapOK ob γ G w) {l sz:Nat} {fz:Bool} {s:PV} (hg:get ob l=some (.vec fz sz s)):∃ G',HeapOK (ins l (.vec true sz s) ob) γ G' w∧Trans ob γ G w (ins l (.vec true sz s) ob) γ G' w:=by
  have h0:=H.obj _ _ hg
  have hlt:=h0.lt
  simp only [ObjOK] at h0
  obtain ⟨hsz,cs,sp,hr,hcap,hX⟩:=h0
  by_cases hz:(γ l).2=0
  · have hc1 : cs = [] := by
      rw [hz,Nat.zero_mul] at hcap
      have:=List.length_eq_zero_iff.1 hcap.symm
      exact (List.append_eq_nil_iff.1 this).1
    subst hc1
    have e0:upd γ l ((γ l).1,0)=γ:=by
      have:((γ l).1,0)=γ l:=by rw [← hz]
      rw [this,upd_self]
    have hT:=dead_ok H l (fz:=true) (b:=(γ l).1) hsz hr (fun o ho=>by rw [hg] at ho; cases ho; rw [e0]; exact ⟨Nat.le_refl _,fun _=>rfl⟩)
    rw [e0] at hT
    exact ⟨G,hT.1,hT.2⟩
  obtain ⟨hblk,hG,_⟩:=hX hz
  let G':Gh:=fun b i=>G b i∨(b=(γ l).1∧i < cs.length)
  have hk:Keeps G w G' w:=⟨fun _ _ h=>.inl h,fun _ _ _=>rfl⟩
  have hin:inG G' (γ l).1 0 cs.length:=fun j hj=>.inr ⟨rfl,by simpa using hj⟩
  have hT:=turn_ok H hg (.vec true sz s) G' w rfl (fun _ _=>rfl) hk (fun b i h h'=>by
    rcases h with h | ⟨h,_⟩
    · exact absurd h h'
    · exact h) ⟨Nat.le_refl _,fun _=>rfl⟩ (fun n hn=>by simp [AObj.names] at hn) (fun T=>by
    simp only [ObjOK]
    refine ⟨hsz,cs,sp,RepSeq.mono hk hr,hcap,fun _=>⟨hblk,fun o ho=>⟨trivial,?_⟩,fun _=>hin⟩⟩
    rcases ho with ho | ⟨_,ho⟩
    · exact (hG o ho).2
    · exact ho) (hv:=hz)
  exact ⟨G',hT.1,hT.2⟩
theorem frozen_rep (H:HeapOK ob γ G w) {l sz cap:Nat} {x:PV} {a:Option Addr} (hl:get ob l=some (.vec true sz x)) (hc:cap≠0→a=some ⟨(γ l).1,0,none⟩) (hd:cap=(γ l).2):RepP G w x [.slice a x.len cap]∧RepSeq' sz x:=by
  have h0:=H.obj _ _ hl
  simp only [ObjOK] at h0
  obtain ⟨hsz,cs,sp,hr,hcap,hX⟩:=h0
  refine ⟨?_,seqSz_of hr⟩
  have hcl:=RepSeq.len hr
  have hle:x.len≤cap:=by
    have:x.len * sz≤(γ l).2 * sz:=by rw [hcap,← hcl]; simp
    rw [hd]
    exact Nat.le_of_mul_le_mul_right this hsz
  by_cases hz:cap=0
  · have hx:x.len=0:=by omega
    cases x<;>simp only [RepSeq] at hr
    · rename_i sz' xs
      obtain rfl:xs=[]:=List.length_eq_zero_iff.1 hx
      simp only [RepP]
      exact ⟨a,cap,rfl,hle,by simp,.inl trivial⟩
    · rename_i xs
      obtain rfl:xs=[]:=List.length_eq_zero_iff.1 hx
      simp only [RepP]
      exact ⟨a,cap,rfl,hle,.inl trivial⟩
  · rw [hc hz]
    obtain ⟨hblk,_,hfz⟩:=hX (by rw [← hd]; exact hz)
    exact seq_rep hr (fun j hj=>by rw [block_cells hblk j (by simp; omega),List.getElem?_append_left hj]) (hfz trivial) hle
theorem vec_hdr {l n cap sz : Nat} {fz : Bool} {s : PV} {a : Option Addr} (hg : get ob l = some (.vec fz sz s)) (hn : s.len = n)
    (h:(∃ fz sz x,get ob l=some (.vec fz sz x)∧n≤x.len∧(cap≠0→∃ b,a=some ⟨b,0,none⟩∧(x.len=n→b=(γ l).1))∧(x.len=n→cap=(γ l).2))∨(∃ xs b,a=some ⟨b,0,none⟩∧get ob l=some (.fns xs)∧n=xs.length∧(b,cap)=γ l)) :
    (cap≠0→a=some ⟨(γ l).1,0,none⟩)∧cap=(γ l).2:=by
  rcases h with ⟨fz',sz2,x',g1,g2,g3,g4⟩ | ⟨xs,_,_,g1,_⟩
  · rw [hg] at g1; cases g1
    refine ⟨fun e=>?_,g4 hn⟩
    obtain ⟨b,e1,e2⟩:=g3 e
    rw [e1,e2 hn]
  · rw [hg] at g1; cases g1
theorem slice_vec_sound (H : HeapOK ob γ G w) {t e : TypeId} {x : Operand} {lo hi : Option Operand} {val : Operand → AV} {ρ : Operand → Value} (S : Stands ob γ G w val ρ) {l n sz a b : Nat} {fz : Bool} {s : PV} {an : Option Ans} {ps : List Prop}
    (hv:val x=.v l n) (hk:kindOf P t=some (.slice e)) (hg:get ob l=some (.vec fz sz s)) (hsz:sz=szOf P e) (hb:bounds an (lo.map val) (hi.map val) n=some ((a,b),ps)) (hp:All ps) (hn:s.len=n) :
    YieldsW P ob γ G w (Instr.sliceAt t (ρ x) (lo.map ρ) (hi.map ρ) none) (.pv (s.sub a b)) (ins l (.vec true sz s) ob):=by
  obtain ⟨G',h1,h2⟩:=freeze_vec_sound H hg
  have hx:=S x
  rw [hv] at hx
  have h3:=RepV_one rfl rfl hx
  simp only [RepC] at h3
  obtain ⟨ad,cap,h3,h4,h5⟩:=h3
  simp only [List.cons.injEq,and_true] at h3
  obtain ⟨hc,hd⟩:=vec_hdr hg hn h5
  obtain ⟨hrep,q1,q2⟩:=frozen_rep h1 (by rw [get_ins,if_pos rfl]) hc hd
  have hbd:=sliceBounds_ok (P:=P) (f:=true) S hb hp h4
  have hsub:=sub_rep q2 hrep hbd.2.1 (by rw [hn]; exact hbd.2.2)
  refine ⟨_,γ,G',w,?_,h1,h2,RepV_cell (by cases s<;>first | rfl | (simp [PV.isSeq] at q2)) (by simpa only [RepC] using hsub)⟩
  rw [h3,q1,hsz]
  simp only [Instr.sliceAt,Sem.run_bind,run_underlying (kind_slice hk),Result.andThen_ok,Instr.slice,Option.map_none,hbd.1,run_szI (kind_slice_info hk),Sem.run_pure]
theorem slice_cell_sound (H : HeapOK ob γ G w) {t : TypeId} {x : Operand} {val : Operand → AV} {ρ : Operand → Value} (S : Stands ob γ G w val ρ) {l n m off o : Nat} {path : List Nat} {ro : Bool} {c : AV} {bs : Vector UInt8 m}
    (hv:val x=.p l path off) (hk:kindOf P t=some (.bytes n)) (hg:get ob l=some (.cell ro c)) (hoff:AV.offAt path c=some o) (hat:AV.at path c=some (.pv (.ba m bs))) (ho:o=off) (hm:m=n) (hin:All (AV.inR path c)) :
    YieldsW P ob γ G w (Instr.sliceAt t (ρ x) none none none) (.pv (.bl bs.toList)) (ins l (.cell true c) ob):=by
  subst ho; subst hm
  have h0:=H.obj _ _ hg
  have hlt:=h0.lt trivial
  simp only [ObjOK] at h0
  obtain ⟨cs,hblk,hr,_⟩:=h0
  let G':Gh:=fun b i=>G b i∨(b=(γ l).1∧i < cs.length)
  have hk':Keeps G w G' w:=⟨fun _ _ h=>.inl h,fun _ _ _=>rfl⟩
  have hinG:inG G' (γ l).1 0 cs.length:=fun j hj=>.inr ⟨rfl,by simpa using hj⟩
  have hT:=turn_ok H hg (.cell true c) G' w rfl (fun _ _=>rfl) hk' (fun b i h h'=>by
    rcases h with h | ⟨h,_⟩
    · exact absurd h h'
    · exact h) rfl (fun n hn=>by
      obtain ⟨x,hx⟩:=RepC_names _ _ hr n hn
      rw [get_ins]; split
      · exact ⟨_,rfl⟩
      · exact ⟨x,hx⟩) (fun T=>by
    simp only [ObjOK]
    exact ⟨cs,hblk,RepC.step T _ _ hr,hinG⟩)
  obtain ⟨c1,d,e,rfl,h4,h5⟩:=at_sound _ _ _ _ _ hat hoff hin hr
  simp only [RepC,RepP] at h5
  subst h5
  have hx:=S x
  rw [hv] at hx
  have h3:=RepV_one rfl rfl hx
  simp only [RepC] at h3
  obtain ⟨h3,_⟩:=h3
  simp only [List.cons.injEq,and_true] at h3
  obtain ⟨eb,hu,he,hse⟩:=kind_bytes hk
  refine ⟨.slice (some ⟨(γ l).1,o,none⟩) m m,γ,G',w,?_,hT.1,hT.2,RepV_cell rfl ?_⟩
  · rw [h3]
    simp only [Instr.sliceAt,Sem.run_bind,run_underlying hu,Result.andThen_ok,Instr.sureAddr,Sem.run_pure,Instr.sliceBounds,run_szI (und_info he),Nat.zero_mul,addr_add,Nat.add_zero]
    simp
  · simp only [RepC,RepP]
    refine ⟨some ⟨(γ l).1,o,none⟩,m,by simp,by simp,.inr ⟨(γ l).1,o,rfl,?_,?_⟩⟩
    · have:=cells_sub (block_cells hblk)
      rwa [Nat.zero_add,h4] at this
    · have:=inG_sub hinG (o:=c1.length) (m:=(bs.toList.map cu8).length) (by simp)
      rw [Nat.zero_add,h4] at this
      simpa using this
theorem args_map {c:Call} {val:Operand→AV} {ρ:Operand→Value} (S:Stands ob γ G w val ρ) {x y:AV} (h:c.args.toList.map val=[x,y]):∃ v u,c.args.map ρ=#[v,u]∧RepV ob γ G w x v∧RepV ob γ G w y u:=by
  cases hl:c.args.toList with
  | nil=>simp [hl] at h
  | cons a r=>
    cases r with
    | nil=>simp [hl] at h
    | cons b r=>
      cases r with
      | cons=>simp [hl] at h
      | nil=>
        simp only [hl,List.map_cons,List.map_nil,List.cons.injEq,and_true] at h
        have:c.args.map ρ=#[ρ a,ρ b]:=by apply Array.ext'; simp [hl]
        exact ⟨_,_,this,h.1▸S a,h.2▸S b⟩
theorem types_two {c:Call} {t u:TypeId} (h:c.argTypes.toList=[t,u]):c.argTypes=#[t,u]:=Array.ext' h
theorem storeOp_sound (H : HeapOK ob γ G w) {lvl : Nat} {d : Option Tmp} {an : Option Ans} {val : Operand → AV} {ρ : Operand → Value} (S : Stands ob γ G w val ρ) {h h' : Ob} (hh : ∀ l o, get h l = some o → get ob l = some o) {t : TypeId} {a x : Operand} {out : Out} {ps : List Prop}
    (hs:writeOp P lvl d an val h (.store t a x)=some ((out,h'),ps)) (hp:All ps):WOut P ob γ G w (do Instr.storeAt t (ρ a) (ρ x); pure Next.skip) h h' out:=by
  simp only [writeOp] at hs
  have ha:=S a
  have fin:∀ {ad:Addr} {w':World},ρ a=.pointer (some ad)→(storeVar t ad (ρ x)).run P w=.ok () w'→(Instr.storeAt t (ρ a) (ρ x)).run P w=.ok () w':=fun e h=>by
    rw [e]; simp only [Instr.storeAt,Instr.sureAddr,Sem.run_bind,Sem.run_pure,Result.andThen_ok,h]
  split at hs
  · rename_i l path off hv
    rw [hv] at ha
    have h3:=RepV_one rfl rfl ha
    simp only [RepC] at h3
    obtain ⟨h3,_⟩:=h3
    simp only [List.cons.injEq,and_true] at h3
    split at hs
    · rename_i c hg
      split at hs
      · rename_i o y h1 h2
        obtain ⟨hc,hs⟩:=need_some hs
        simp only [Bool.and_eq_true,beq_iff_eq] at hc
        obtain ⟨_,p1,p2,e1,e2,hp1,hp2⟩:=with_some hs hp
        obtain ⟨c',p3,p4,e3,e4,hp3,hp4⟩:=with_some e2 hp2
        obtain ⟨rfl,rfl⟩:=done_some e4
        obtain ⟨w',g1,g2,g3⟩:=store_cell_sound H (hh _ _ hg) h1 h2 hc.1.1 hc.1.2 hc.2 (oweAll_some e1 hp1) e3 hp3 (S x)
        exact ⟨_,rfl,.inr (.inl ⟨l,_,rfl,.ofU (fin h3 g1) g2 g3⟩)⟩
      · simp at hs
    · simp at hs
  · rename_i l n path off hv
    rw [hv] at ha
    have h3:=RepV_one rfl rfl ha
    simp only [RepC] at h3
    obtain ⟨b,h3,h4⟩:=h3
    simp only [List.cons.injEq,and_true] at h3
    split at hs
    · rename_i sz s x' hg hx
      have hg':=hh _ _ hg
      have hb:s.len=n→b=(γ l).1:=fun hn=>by
        rcases h4 with ⟨fz',sz',x',g1,g2,g3⟩ | ⟨xs,g1,_⟩
        · rw [hg'] at g1; cases g1; exact g3 hn
        · rw [hg'] at g1; cases g1
      have hxx:=S x
      rw [hx] at hxx
      split at hs
      · rename_i k
        obtain ⟨hc,hs⟩:=need_some hs
        simp only [Bool.and_eq_true,beq_iff_eq] at hc
        obtain ⟨_,p1,p2,e1,e2,hp1,hp2⟩:=with_some hs hp
        obtain ⟨s',p3,p4,e3,e4,hp3,hp4⟩:=with_some e2 hp2
        obtain ⟨rfl,rfl⟩:=done_some e4
        obtain ⟨q1,q2,q3⟩:s.len=n∧k < n∧off=k * sz:=oweAll_some e1 hp1
        have hlen:s'.len=s.len:=by
          cases s<;>simp only [setSeq] at e3
          case l=>obtain ⟨_,e3⟩:=need_some e3; rw [pure0_some e3]; simp [PV.len]
          case bl=>obtain ⟨_,_,_,_,e5,_,_⟩:=with_some e3 hp3; rw [pure0_some e5]; simp [PV.len]
          all_goals simp at e3
        obtain ⟨w',g1,g2,g3⟩:=store_vec_sound (t:=t) (off:=off) (x:=x') H hg' q1 (by omega) hb (fun cs dy hr hy=>by
          have hk:k < s.len:=by omega
          have hcl:=RepSeq.len hr
          have hkl:k * sz + sz≤cs.length:=by
            rw [hcl,← Nat.succ_mul]; exact Nat.mul_le_mul_right _ hk
          have hsp:cs=cs.take (k * sz)++(cs.drop (k * sz)).take sz++cs.drop (k * sz + sz):=by
            rw [← List.drop_drop,List.append_assoc,List.take_append_drop,List.take_append_drop]
          have hd:((cs.drop (k * sz)).take sz).length=sz:=by simp; omega
          have hc':(cs.take (k * sz)).length=k * sz:=by simp; omega
          rw [hsp] at hr
          obtain ⟨r1,r2,r3⟩:=setSeq_sound hr hc' hd hk e3 hp3 hy
          exact ⟨_,_,_,hsp,by rw [hc',q3],by rw [hd,r3],r1⟩) hlen hc.1 hxx
        exact ⟨_,rfl,.inr (.inl ⟨l,_,rfl,.ofU (fin h3 g1) g2 g3⟩)⟩
      · rename_i k r _
        obtain ⟨y,p1,p2,e1,e2,hp1,hp2⟩:=with_some hs hp
        obtain ⟨hk0,hy⟩:=elemAt_some e1 hp1
        split at e2
        · rename_i o z h1 h2
          obtain ⟨hc,e2⟩:=need_some e2
          simp only [Bool.and_eq_true,beq_iff_eq] at hc
          obtain ⟨_,p3,p4,e3,e4,hp3,hp4⟩:=with_some e2 hp2
          obtain ⟨q1,q2⟩:s.len=n∧off=k * sz + o:=oweAll_some e3 hp3
          obtain ⟨_,p5,p6,e5,e6,hp5,hp6⟩:=with_some e4 hp4
          have hin:=oweAll_some e5 hp5
          obtain ⟨yy,p7,p8,e7,e8,hp7,hp8⟩:=with_some e6 hp6
          split at e8
          · rename_i y'
            obtain ⟨s',p9,p10,e9,e10,hp9,hp10⟩:=with_some e8 hp8
            obtain ⟨rfl,rfl⟩:=done_some e10
            have hlen:s'.len=s.len:=by
              cases s<;>simp only [setSeq] at e9
              case l=>obtain ⟨_,e9⟩:=need_some e9; rw [pure0_some e9]; simp [PV.len]
              case bl=>obtain ⟨_,_,_,_,e11,_,_⟩:=with_some e9 hp9; rw [pure0_some e11]; simp [PV.len]
              all_goals simp at e9
            obtain ⟨w',g1,g2,g3⟩:=store_vec_sound (t:=t) (off:=off) (x:=x') H hg' q1 (Nat.lt_of_le_of_lt (Nat.zero_le _) (getI_len hy)) hb (fun cs dy hr hdy=>by
              have hkl:=getI_len hy
              simp only [Int.toNat_natCast] at hy hkl
              obtain ⟨c,d,e,rfl,t1,t2,t3⟩:=seqcell_at hr hy
              obtain ⟨c1,d1,f1,rfl,t4,t5⟩:=at_sound (ob:=[]) (γ:=fun _=>(0,0)) r (.pv y) z o d h2 h1 hin (by simpa only [RepC] using t2)
              have t6:=RepC.len _ _ t5
              have t7:=RepP.len _ _ hdy
              have t8:=setAt_sound (ob:=[]) (γ:=fun _=>(0,0)) (G:=G) (w:=w) r (.pv y) (.pv x') (.pv y') z o c1 d1 f1 dy p7 e7 hp7 hin h2 h1 t4 t6 (by simpa only [RepC] using t2) (by simpa only [RepC] using hdy)
              have t9:=RepP.len _ _ t2
              obtain ⟨r1,r2,r3⟩:=setSeq_sound hr t1 (by rw [t9]; exact t3) hkl e9 hp9 (by simpa only [RepC] using t8)
              refine ⟨c++c1,d1,f1++e,by simp,by simp; omega,by rw [t6,hc.2]; exact t7.symm,by simpa [List.append_assoc] using r1⟩) hlen hc.1 hxx
            exact ⟨_,rfl,.inr (.inl ⟨l,_,rfl,.ofU (fin h3 g1) g2 g3⟩)⟩
          · simp at e8
        · simp at e2
      · simp at hs
    · simp at hs
  · simp at hs
theorem blt_pos {n:Nat} (h:Nat.blt 0 n=true):0 < n:=Nat.le_of_ble_eq_true h
theorem putO_some {an:Option Ans} {k:PV} {x:AV} {c:Nat} {es:Ents} {r:Nat×Ents} {ps:List Prop} (h:putO an k x c es=some (r,ps)) (hp:All ps):mapPut k x c es=some (r.1,r.2):=by
  unfold putO at h
  split at h
  · obtain ⟨rfl,h2⟩:=owe_some h hp; exact h2
  · exact ofO_some h
theorem findO_some {an:Option Ans} {k:PV} {es:Ents} {r:Option (AV×Nat)} {ps:List Prop} (h:findO an k es=some (r,ps)) (hp:All ps):mapFind k es=some r:=by
  unfold findO at h
  split at h
  · obtain ⟨rfl,h2⟩:=owe_some h hp; exact h2
  · exact ofO_some h
theorem delO_some {an:Option Ans} {k:PV} {es r:Ents} {ps:List Prop} (h:delO an k es=some (r,ps)) (hp:All ps):mapDel k es=some r:=by
  unfold delO at h
  split at h
  · obtain ⟨rfl,h2⟩:=owe_some h hp; exact h2
  · exact ofO_some h
theorem atO_some {an:Option Ans} {b:Int} {x:AV} {es r:Ents} {ps:List Prop} (h:atO an b x es=some (r,ps)) (hp:All ps):mapAt b x es=some r:=by
  unfold atO at h
  split at h
  · obtain ⟨rfl,h2⟩:=owe_some h hp; exact h2
  · exact ofO_some h
theorem update_sound (H : HeapOK ob γ G w) {val : Operand → AV} {ρ : Operand → Value} (S : Stands ob γ G w val ρ) {h h' : Ob} (hh : ∀ l o, get h l = some o → get ob l = some o) {an : Option Ans} {t : TypeId} {m k x : Operand} {out : Out} {ps : List Prop}
    (hs:(match kindOf P t,val m,val k with
    | some (.map kt e),.m l,.pv k=>match get h l with
      | some (.map c es)=>need (fitT P kt (.pv k)&&eqT P 30 kt&&fitT P e (val x)&&(val x).isPV) ((putO an k (val x) c es).with fun r=>done l (.map r.1 r.2) h)
      | _=>none
    | _,_,_=>none)=some ((out,h'),ps)) (hp:All ps):WOut P ob γ G w (do Instr.mapUpdate t (ρ m) (ρ k) (ρ x); pure Next.skip) h h' out:=by
  split at hs
  · rename_i kt e l kk h1 h2 h3
    split at hs
    · rename_i c es hg
      obtain ⟨hc,hs⟩:=need_some hs
      simp only [Bool.and_eq_true,fitT] at hc
      obtain ⟨r,p1,p2,e1,e2,hp1,hp2⟩:=with_some hs hp
      obtain ⟨rfl,rfl⟩:=done_some e2
      obtain ⟨G',w',g1,g2,g3⟩:=mapUpdate_sound H S h1 h2 h3 (hh _ _ hg) hc.1.1.1.2 hc.1.1.2 hc.2 (putO_some e1 hp1)
      exact ⟨_,rfl,.inr (.inl ⟨l,_,rfl,.ofU g1 g2 g3⟩)⟩
    · simp at hs
  · simp at hs
end g
end Go.Rx
end
noncomputable section
namespace Go.Rx
section g
variable {P:Program} {ob ob':Ob} {γ γ':Hm} {G:Gh} {w:World}
def Agree (ob ob':Ob) (γ γ':Hm) (ns:List Nat):Prop:=∀ n∈ns,get ob' n=get ob n∧γ' n=γ n
theorem Agree.left {ns ms:List Nat} (h:Agree ob ob' γ γ' (ns++ms)):Agree ob ob' γ γ' ns:=fun n hn=>h n (List.mem_append_left _ hn)
theorem Agree.right {ns ms:List Nat} (h:Agree ob ob' γ γ' (ns++ms)):Agree ob ob' γ γ' ms:=fun n hn=>h n (List.mem_append_right _ hn)
mutual
theorem RepC_agree:∀ (x:AV) (cs:List Value),Agree ob ob' γ γ' x.names→RepC ob γ G w x cs→RepC ob' γ' G w x cs
  | .pv _,_,_,h=>h
  | .ag xs,cs,ha,h=>by
    simp only [AV.names] at ha
    simp only [RepC] at h ⊢
    exact RepCs_agree xs cs ha h
  | .nils,_,_,h=>h
  | .v l n,cs,ha,h=>by
    obtain ⟨e1,e2⟩:=ha l (by simp [AV.names])
    simp only [RepC] at h ⊢
    rw [e1,e2]; exact h
  | .p l path off,cs,ha,h=>by
    obtain ⟨e1,e2⟩:=ha l (by simp [AV.names])
    simp only [RepC] at h ⊢
    rw [e1,e2]; exact h
  | .pe l n path off,cs,ha,h=>by
    obtain ⟨e1,e2⟩:=ha l (by simp [AV.names])
    simp only [RepC] at h ⊢
    rw [e1,e2]; exact h
  | .ro _,_,_,h=>h
  | .nilp,_,_,h=>h
  | .m l,cs,ha,h=>by
    obtain ⟨e1,e2⟩:=ha l (by simp [AV.names])
    simp only [RepC] at h ⊢
    rw [e1,e2]; exact h
  | .nilm,_,_,h=>h
  | .fn f a c,cs,ha,h=>by
    simp only [AV.names] at ha
    simp only [RepC] at h ⊢
    obtain ⟨va,vc,h1,h2,h3⟩:=h
    exact ⟨va,vc,h1,RepL_agree a va ha.left h2,RepL_agree c vc ha.right h3⟩
  | .nilf,_,_,h=>h
  | .iface t x,cs,ha,h=>by
    simp only [AV.names] at ha
    simp only [RepC] at h ⊢
    obtain ⟨c,v,h1,h2,h3⟩:=h
    exact ⟨c,v,h1,RepC_agree x c ha h2,h3⟩
  | .nili,_,_,h=>h
  | .yl l,cs,ha,h=>by
    obtain ⟨e1,e2⟩:=ha l (by simp [AV.names])
    simp only [RepC] at h ⊢
    rw [e1,e2]; exact h
  | .es _,_,_,h=>h
  | .tup _,_,_,h=>h
  | .undef,_,_,h=>h
theorem RepCs_agree:∀ (xs:List AV) (cs:List Value),Agree ob ob' γ γ' (AV.namesL xs)→RepCs ob γ G w xs cs→RepCs ob' γ' G w xs cs
  | [],_,_,h=>h
  | x::xs,cs,ha,h=>by
    simp only [AV.namesL] at ha
    simp only [RepCs] at h ⊢
    obtain ⟨c,d,e,h1,h2⟩:=h
    exact ⟨c,d,e,RepC_agree x c ha.left h1,RepCs_agree xs d ha.right h2⟩
theorem RepL_agree:∀ (xs:List AV) (vs:List Value),Agree ob ob' γ γ' (AV.namesL xs)→RepL ob γ G w xs vs→RepL ob' γ' G w xs vs
  | [],_,_,h=>h
  | x::xs,vs,ha,h=>by
    simp only [AV.namesL] at ha
    simp only [RepL] at h ⊢
    obtain ⟨c,v,r,e,h1,h2,h3⟩:=h
    exact ⟨c,v,r,e,RepC_agree x c ha.left h1,h2,RepL_agree xs r ha.right h3⟩
end
theorem RepV_agree {x:AV} {v:Value} (ha:Agree ob ob' γ γ' x.names) (h:RepV ob γ G w x v):RepV ob' γ' G w x v:=by
  rcases RepV_out h with ⟨xs,rfl⟩ | rfl | ⟨cs,h1,h2⟩
  · obtain ⟨vs,e,h⟩:=h
    simp only [AV.names] at ha
    exact ⟨vs,e,RepL_agree xs vs ha h⟩
  · trivial
  · exact RepV_of (RepC_agree x cs ha h1) h2
theorem RepEnts_agree:∀ (es:Ents) (l:List MapEntry),RepEnts ob γ G w es l→RepEnts ob' γ' G w es l
  | [],_,h=>h
  | (k,x,n)::r,l,h=>by
    simp only [RepEnts] at h ⊢
    obtain ⟨e,t,h1,h2,h3,h4,h5⟩:=h
    refine ⟨e,t,h1,RepV_agree (fun n hn=>by simp [AV.names] at hn) h2,⟨?_,h3.2⟩,h4,RepEnts_agree r t h5⟩
    cases x with
    | pv x=>exact RepV_agree (fun n hn=>by simp [AV.names] at hn) h3.1
    | _=>simp [AV.isPV] at h3
theorem slot_names {sl:List (Nat×AV)} {t:Nat} {x:AV} (h:get sl t=some x):∀ m∈x.names,m∈AV.namesL (sl.map (·.2)):=by
  induction sl with
  | nil=>simp [get_nil,get_cons] at h
  | cons e r ih=>
    obtain ⟨a,y⟩:=e
    intro m hm
    simp only [get_nil,get_cons] at h
    simp only [List.map_cons,AV.namesL,List.mem_append]
    split at h
    · cases h; exact .inl hm
    · exact .inr (ih h m hm)
theorem ObjOK_agree {l:Nat} {o:AObj} (ha:Agree ob ob' γ γ' o.names) (hl:γ' l=γ l) (h:ObjOK ob γ G w l o):ObjOK ob' γ' G w l o:=by
  cases o<;>simp only [ObjOK,hl] at h ⊢
  · obtain ⟨cs,h1,h2,h3⟩:=h; exact ⟨cs,h1,RepC_agree _ _ ha h2,h3⟩
  · exact h
  · obtain ⟨cs,h1,h2,h3⟩:=h; exact ⟨cs,h1,RepCs_agree _ _ ha h2,h3⟩
  · obtain ⟨e,h1,h2,h3⟩:=h; exact ⟨e,h1,RepEnts_agree _ _ h2,h3⟩
  · rename_i ps n sl as0 bd fn st pe d
    obtain ⟨tmps,fn',h1,h2,h3,h4,h5⟩:=h
    obtain ⟨e1,e2⟩:=ha d (by simp [AObj.names])
    refine ⟨tmps,fn',by rw [e2]; exact h1,h2,fun t x hx=>?_,by rw [e1]; exact h4,h5⟩
    obtain ⟨v,g1,g2⟩:=h3 t x hx
    refine ⟨v,g1,RepV_agree (fun m hm=>ha m ?_) g2⟩
    simp only [AObj.names,List.mem_cons]
    exact .inr (slot_names hx m hm)
  · exact h
theorem HeapOK.sub (H:HeapOK ob γ G w) (hs:∀ l o,get ob' l=some o→get ob l=some o) (hc:∀ l o,get ob' l=some o→∀ n∈o.names,∃ x,get ob' n=some x):HeapOK ob' γ G w:=by
  refine ⟨fun l o hl=>?_,fun l l' o o' h1 h2 v1 v2=>H.inj l l' o o' (hs l o h1) (hs l' o' h2) v1 v2,H.gok,hc⟩
  refine ObjOK_agree (fun n hn=>?_) rfl (H.obj l o (hs l o hl))
  obtain ⟨x,hx⟩:=hc l o hl n hn
  exact ⟨by rw [hx,hs n x hx],rfl⟩
theorem RepV_sub {x:AV} {v:Value} (hs:∀ l o,get ob' l=some o→get ob l=some o) (hc:∀ n∈x.names,∃ o,get ob' n=some o) (h:RepV ob γ G w x v):RepV ob' γ G w x v:=
  RepV_agree (fun n hn=>by obtain ⟨o,ho⟩:=hc n hn; exact ⟨by rw [ho,hs n o ho],rfl⟩) h
theorem Trans.drop {h₀:Ob} {γ₀:Hm} {G₀:Gh} {w₀:World} (T:Trans h₀ γ₀ G₀ w₀ ob γ G w) (hs:∀ l o,get ob' l=some o→get ob l=some o) (hk:∀ l o,get h₀ l=some o→∃ x,get ob' l=some x):Trans h₀ γ₀ G₀ w₀ ob' γ G w:=by
  refine ⟨T.keeps,T.size,T.frame,T.gnew,fun l o hl=>?_,fun l o hl hv=>T.fresh l o (hs l o hl) hv,T.io⟩
  obtain ⟨o',h1,h2⟩:=T.kept l o hl
  obtain ⟨x,hx⟩:=hk l o hl
  have:=hs l x hx
  rw [h1] at this; cases this
  exact ⟨o',hx,h2⟩
theorem get_merge (T:List Nat) (h ob:Ob) (j:Nat):get (merge T h ob) j=match get h j with | some x=>some x | none=>if has T j then none else get ob j:=by
  unfold merge
  rw [get_insAll,get_filter ob (fun n=>!has T n)]
  cases get h j with
  | some x=>rfl
  | none=>cases has T j<;>rfl
def joinM (h:Ob) (γ' γ:Hm):Hm:=fun l=>if has (dom h) l then γ' l else γ l
theorem joinM_in {h:Ob} {l:Nat} {x:AObj} (hl:get h l=some x):joinM h γ' γ l=γ' l:=by
  unfold joinM; rw [if_pos ((has_dom h l).2 ⟨x,hl⟩)]
theorem joinM_out {h:Ob} {l:Nat} (hl:get h l=none):joinM h γ' γ l=γ l:=by
  unfold joinM; rw [if_neg]; rw [(not_has_dom h l).2 hl]; simp
theorem keptM_congr {γ₁ γ₂ γ:Hm} {l:Nat} {o o':AObj} (h:keptM γ₁ γ l o o') (e:γ₂ l=γ₁ l):keptM γ₂ γ l o o':=by
  cases o<;>cases o'<;>simp only [keptM,e] at h ⊢<;>exact h
theorem merge_ok {T : List Nat} {h' : Ob} {G' : Gh} {w' : World} (H : HeapOK ob γ G w) (H' : HeapOK h' γ' G' w') (Tr : Trans (keepOnly T ob) γ G w h' γ' G' w') (hc : ∀ n x, get h' n = some x → has T n = true ∨ get ob n = none) :
    HeapOK (merge T h' ob) (joinM h' γ' γ) G' w'∧Trans ob γ G w (merge T h' ob) (joinM h' γ' γ) G' w':=by
  have hin:∀ l o,get (keepOnly T ob) l=some o↔has T l=true∧get ob l=some o:=fun l o=>by
    rw [get_keepOnly]; cases has T l<;>simp
  have hout:∀ {l:Nat} {o:AObj},get ob l=some o→has T l=false→get h' l=none:=fun {l o} h1 h2=>by
    cases hg:get h' l with
    | none=>rfl
    | some x => rcases hc l x hg with h | h
                · rw [h] at h2; cases h2
                · rw [h] at h1; cases h1
  have hget:∀ {l:Nat} {o:AObj},get (merge T h' ob) l=some o→get h' l=some o∨(get h' l=none∧has T l=false∧get ob l=some o):=fun {l o} hl=>by
    rw [get_merge] at hl
    cases hg:get h' l with
    | some x=>rw [hg] at hl; exact .inl hl
    | none=>
      rw [hg] at hl
      simp only at hl
      cases ht:has T l with
      | true=>rw [ht] at hl; simp at hl
      | false=>rw [ht] at hl; exact .inr ⟨rfl,rfl,by simpa using hl⟩
  have hnew:∀ {l:Nat} {o:AObj},get h' l=some o→get (merge T h' ob) l=some o:=fun hl=>by rw [get_merge,hl]
  have hold:∀ {l:Nat} {o:AObj},get ob l=some o→has T l=false→get (merge T h' ob) l=some o:=fun h1 h2=>by
    rw [get_merge,hout h1 h2]; simp [h2,h1]
  have hT:Trans ob γ G w (merge T h' ob) (joinM h' γ' γ) G' w':=by
    refine ⟨Tr.keeps,Tr.size,fun b hb hno=>Tr.frame b hb fun l o hl hv=>hno l o ((hin l o).1 hl).2 hv,fun b o h1 h2=>?_,fun l o hl=>?_,fun l o hl hv=>?_,Tr.io⟩
    · rcases Tr.gnew b o h1 h2 with h | ⟨l,x,hl,hv,he⟩
      · exact .inl h
      · exact .inr ⟨l,x,((hin l x).1 hl).2,hv,he⟩
    · cases ht:has T l with
      | true=>
        obtain ⟨o',h1,h2⟩:=Tr.kept l o ((hin l o).2 ⟨ht,hl⟩)
        exact ⟨o',hnew h1,keptM_congr h2 (joinM_in h1)⟩
      | false=>exact ⟨o,hold hl ht,keptM_self (H.obj l o hl) (joinM_out (hout hl ht))⟩
    · rcases hget hl with h | ⟨h1,h2,h3⟩
      · rw [joinM_in h]
        rcases Tr.fresh l o h ((live_congr (joinM_in h)).1 hv) with h | ⟨l₀,o₀,h4,hx,h5⟩
        · exact .inl h
        · exact .inr ⟨l₀,o₀,((hin _ _).1 h4).2,hx,h5⟩
      · exact .inr ⟨l,o,h3,(live_congr (joinM_out h1)).1 hv,by rw [joinM_out h1]⟩
  refine ⟨⟨fun l o hl=>?_,fun l l' o o' hl hl' v v' he=>?_,H'.gok,fun l o hl n hn=>?_⟩,hT⟩
  · rcases hget hl with h | ⟨h1,h2,h3⟩
    · refine ObjOK_agree (fun n hn=>?_) (joinM_in h) (H'.obj l o h)
      obtain ⟨x,hx⟩:=H'.closed l o h n hn
      exact ⟨by rw [hnew hx,hx],joinM_in hx⟩
    · have h0:=H.obj l o h3
      have hno:live γ l o→∀ l₁ o₁,get (keepOnly T ob) l₁=some o₁→live γ l₁ o₁→(γ l₁).1≠(γ l).1:=fun hv l₁ o₁ h4 hx he=>by
        obtain ⟨h5,h6⟩:=(hin _ _).1 h4
        have:=H.inj l₁ l o₁ o h6 h3 hx hv he
        subst this; rw [h5] at h2; cases h2
      refine ObjOK.step hT (fun hv=>Tr.frame _ (h0.lt hv) (hno hv)) (joinM_out h1) (fun hv i=>⟨fun hi=>?_,Tr.keeps.sub _ _⟩) h0
      by_cases hgi:G (γ l).1 i
      · exact hgi
      · rcases Tr.gnew _ _ hi hgi with h | ⟨l₁,x,h4,hx,h5⟩
        · have:=h0.lt hv; omega
        · exact absurd h5 (hno hv l₁ x h4 hx)
  · have mixed : ∀ {l l' : Nat} {o o' : AObj}, get h' l = some o → get h' l' = none → has T l' = false → get ob l' = some o' → live γ' l o → live γ l' o' → (γ' l).1 = (γ l').1 → False := fun {l l' o o'} h1 h2 h3 h4 v1 v2 h5 => by
      rcases Tr.fresh l o h1 v1 with h | ⟨l₀,o₀,h6,hx,h7⟩
      · have:=(H.obj l' o' h4).lt v2; omega
      · obtain ⟨h8,h9⟩:=(hin _ _).1 h6
        have:=H.inj l₀ l' o₀ o' h9 h4 hx v2 (by rw [h7,h5])
        subst this; rw [h8] at h3; cases h3
    rcases hget hl with h | ⟨h1,h2,h3⟩<;>rcases hget hl' with h' | ⟨h1',h2',h3'⟩
    · rw [joinM_in h,joinM_in h'] at he; exact H'.inj l l' o o' h h' ((live_congr (joinM_in h)).1 v) ((live_congr (joinM_in h')).1 v') he
    · rw [joinM_in h,joinM_out h1'] at he; exact (mixed h h1' h2' h3' ((live_congr (joinM_in h)).1 v) ((live_congr (joinM_out h1')).1 v') he).elim
    · rw [joinM_out h1,joinM_in h'] at he; exact (mixed h' h1 h2 h3 ((live_congr (joinM_in h')).1 v') ((live_congr (joinM_out h1)).1 v) he.symm).elim
    · rw [joinM_out h1,joinM_out h1'] at he; exact H.inj l l' o o' h3 h3' ((live_congr (joinM_out h1)).1 v) ((live_congr (joinM_out h1')).1 v') he
  · rcases hget hl with h | ⟨h1,h2,h3⟩
    · obtain ⟨x,hx⟩:=H'.closed l o h n hn; exact ⟨x,hnew hx⟩
    · obtain ⟨x,hx⟩:=H.closed l o h3 n hn
      cases ht:has T n with
      | true=>obtain ⟨o',h4,_⟩:=Tr.kept n x ((hin n x).2 ⟨ht,hx⟩); exact ⟨o',hnew h4⟩
      | false=>exact ⟨x,hold hx ht⟩
theorem merge_val {T:List Nat} {h':Ob} {G':Gh} {w':World} {x:AV} {v:Value} (h:RepV h' γ' G' w' x v):RepV (merge T h' ob) (joinM h' γ' γ) G' w' x v:=
  RepV_agree (fun n hn=>by
    obtain ⟨o,ho⟩:=RepV_names h n hn
    exact ⟨by rw [get_merge,ho],joinM_in ho⟩) h
end g
end Go.Rx
end
noncomputable section
namespace Go.Rx
section g
variable {P:Program} {ob:Ob} {γ:Hm} {G:Gh} {w:World}
def vecsAt (h:Ob) (fz:List Nat):Prop:=∀ l∈fz,∃ f sz x,get h l=some (.vec f sz x)
theorem freeze_ok : ∀ (fz : List Nat) (h : Ob) (G : Gh), HeapOK h γ G w → vecsAt h fz →
    ∃ G',HeapOK (freeze fz h) γ G' w∧Trans h γ G w (freeze fz h) γ G' w∧(∀ l f sz x,get h l=some (.vec f sz x)→∃ f',get (freeze fz h) l=some (.vec f' sz x)∧(l∈fz→f'=true))∧(∀ l o,get (freeze fz h) l=some o→∃ o',get h l=some o'∧o.names=o'.names)
  | [],h,G,H,_=>⟨G,H,Trans.refl H,fun l f sz x hl=>⟨f,hl,by simp⟩,fun l o hl=>⟨o,hl,rfl⟩⟩
  | l::r,h,G,H,hv=>by
    obtain ⟨f,sz,x,hl⟩:=hv l (by simp)
    obtain ⟨G1,H1,T1⟩:=freeze_vec_sound H hl
    have he:freeze (l::r) h=freeze r (ins l (.vec true sz x) h):=by simp only [freeze,hl,fzObj]
    have hv1:vecsAt (ins l (.vec true sz x) h) r:=fun l' hl'=>by
      obtain ⟨f',sz',x',h'⟩:=hv l' (by simp [hl'])
      rw [get_ins]; split
      · exact ⟨_,_,_,rfl⟩
      · exact ⟨_,_,_,h'⟩
    obtain ⟨G2,H2,T2,K,N⟩:=freeze_ok r _ G1 H1 hv1
    rw [he]
    refine ⟨G2,H2,T1.trans H T2,fun l' f' sz' x' h'=>?_,fun l' o hl'=>?_⟩
    · by_cases e:l=l'
      · subst e
        rw [hl] at h'; cases h'
        obtain ⟨f2,h2,h3⟩:=K l true sz x (by rw [get_ins,if_pos rfl])
        refine ⟨f2,h2,fun _=>?_⟩
        by_cases hm:l∈r
        · exact h3 hm
        ·
          have:∀ (r:List Nat) (h:Ob),l∉r→get (freeze r h) l=get h l:=by
            intro r
            induction r with
            | nil=>intro h _; rfl
            | cons a r ih=>
              intro h hn
              simp only [freeze]
              split
              · rw [ih _ (fun hm=>hn (by simp [hm])),get_ins,if_neg (fun e=>hn (by simp [e]))]
              · exact ih _ (fun hm=>hn (by simp [hm]))
          rw [this r _ hm,get_ins,if_pos rfl] at h2
          cases h2; rfl
      · obtain ⟨f2,h2,h3⟩:=K l' f' sz' x' (by rw [get_ins,if_neg e]; exact h')
        refine ⟨f2,h2,fun hm=>h3 ?_⟩
        rcases List.mem_cons.1 hm with rfl | hm
        · exact absurd rfl e
        · exact hm
    · obtain ⟨o',h1,h2⟩:=N l' o hl'
      rw [get_ins] at h1
      split at h1
      · rename_i e; subst e; cases h1; exact ⟨_,hl,h2⟩
      · exact ⟨o',h1,h2⟩
mutual
theorem snap_vecs (h:Ob):∀ (x:AV) (y:PV) (fz:List Nat) (ps:List Prop),snap h x=some (y,fz,ps)→vecsAt h fz
  | .pv x,y,fz,ps,hs=>by simp only [snap,Option.some.injEq,Prod.mk.injEq] at hs; obtain ⟨_,rfl,_⟩:=hs; intro l hl; simp at hl
  | .v l n,y,fz,ps,hs=>by
    simp only [snap] at hs
    split at hs
    · rename_i f sz x hg
      simp only [Option.some.injEq,Prod.mk.injEq] at hs
      obtain ⟨_,rfl,_⟩:=hs
      intro l' hl'; simp at hl'; subst hl'; exact ⟨_,_,_,hg⟩
    · simp at hs
  | .ag xs,y,fz,ps,hs=>by
    simp only [snap] at hs
    split at hs
    · rename_i ys a qs hq
      simp only [Option.some.injEq,Prod.mk.injEq] at hs
      obtain ⟨_,rfl,_⟩:=hs
      exact snaps_vecs h xs _ _ _ hq
    · simp at hs
  | .nils,y,fz,ps,hs=>by simp [snap] at hs
  | .p _ _ _,y,fz,ps,hs=>by simp [snap] at hs
  | .pe _ _ _ _,y,fz,ps,hs=>by simp [snap] at hs
  | .ro _,y,fz,ps,hs=>by simp [snap] at hs
  | .nilp,y,fz,ps,hs=>by simp [snap] at hs
  | .m _,y,fz,ps,hs=>by simp [snap] at hs
  | .nilm,y,fz,ps,hs=>by simp [snap] at hs
  | .fn _ _ _,y,fz,ps,hs=>by simp [snap] at hs
  | .nilf,y,fz,ps,hs=>by simp [snap] at hs
  | .iface _ _,y,fz,ps,hs=>by simp [snap] at hs
  | .nili,y,fz,ps,hs=>by simp [snap] at hs
  | .tup _,y,fz,ps,hs=>by simp [snap] at hs
  | .yl _,y,fz,ps,hs=>by simp [snap] at hs
  | .es _,y,fz,ps,hs=>by simp [snap] at hs
  | .undef,y,fz,ps,hs=>by simp [snap] at hs
theorem snaps_vecs (h:Ob):∀ (xs:List AV) (ys:List PV) (fz:List Nat) (ps:List Prop),snaps h xs=some (ys,fz,ps)→vecsAt h fz
  | [],ys,fz,ps,hs=>by simp only [snaps,Option.some.injEq,Prod.mk.injEq] at hs; obtain ⟨_,rfl,_⟩:=hs; intro l hl; simp at hl
  | x::xs,ys,fz,ps,hs=>by
    simp only [snaps] at hs
    split at hs
    · rename_i y a ps1 ys' b qs h1 h2
      simp only [Option.some.injEq,Prod.mk.injEq] at hs
      obtain ⟨_,rfl,_⟩:=hs
      intro l hl
      rcases List.mem_append.1 hl with hl | hl
      · exact snap_vecs h x _ _ _ h1 l hl
      · exact snaps_vecs h xs _ _ _ h2 l hl
    · simp at hs
end
end g
structure Frozen (h:Ob) (G:Gh) (w:World) (γ:Hm) (fz:List Nat) (h2:Ob) (G':Gh):Prop where
  ok:HeapOK h2 γ G' w
  tr:Trans h γ G w h2 γ G' w
  vec:∀ l f sz x,l∈fz→get h l=some (.vec f sz x)→get h2 l=some (.vec true sz x)
section g
variable {P:Program} {h h2:Ob} {γ:Hm} {G G':Gh} {w:World} {fz:List Nat}
theorem vec_isSeq (H:HeapOK h γ G w) {l sz:Nat} {f:Bool} {x:PV} (hl:get h l=some (.vec f sz x)):x.isSeq=true:=by
  have h0:=H.obj _ _ hl
  simp only [ObjOK] at h0
  obtain ⟨_,cs,sp,hr,_⟩:=h0
  exact (seqSz_of hr).2
mutual
theorem snap_sound (F:Frozen h G w γ fz h2 G'):∀ (x:AV) (y:PV) (a:List Nat) (ps:List Prop) (cs:List Value),snap h x=some (y,a,ps)→(∀ l∈a,l∈fz)→All ps→RepC h γ G w x cs→RepP G' w y cs
  | .pv x,y,a,ps,cs,hs,ha,hp,hr=>by
    simp only [snap,Option.some.injEq,Prod.mk.injEq] at hs
    obtain ⟨rfl,_⟩:=hs
    simp only [RepC] at hr
    exact RepP.mono F.tr.keeps _ _ hr
  | .v l n,y,a,ps,cs,hs,ha,hp,hr=>by
    simp only [snap] at hs
    split at hs
    · rename_i f sz x hg
      simp only [Option.some.injEq,Prod.mk.injEq] at hs
      obtain ⟨rfl,rfl,rfl⟩:=hs
      simp only [RepC] at hr
      obtain ⟨b,cap,rfl,h1,h3⟩:=hr
      have hn:x.len=n:=hp
      obtain ⟨hc,hd⟩:=vec_hdr hg hn h3
      have:=(frozen_rep F.ok (F.vec l f sz x (ha l (by simp)) hg) hc hd).1
      rw [hn] at this
      exact this
    · simp at hs
  | .ag xs,y,a,ps,cs,hs,ha,hp,hr=>by
    simp only [snap] at hs
    split at hs
    · rename_i ys b qs hq
      simp only [Option.some.injEq,Prod.mk.injEq] at hs
      obtain ⟨rfl,rfl,rfl⟩:=hs
      simp only [RepC] at hr
      simp only [RepP]
      exact snaps_sound F _ _ _ _ _ hq ha hp hr
    · simp at hs
  | .nils,y,a,ps,cs,hs,_,_,_=>by simp [snap] at hs
  | .p _ _ _,y,a,ps,cs,hs,_,_,_=>by simp [snap] at hs
  | .pe _ _ _ _,y,a,ps,cs,hs,_,_,_=>by simp [snap] at hs
  | .ro _,y,a,ps,cs,hs,_,_,_=>by simp [snap] at hs
  | .nilp,y,a,ps,cs,hs,_,_,_=>by simp [snap] at hs
  | .m _,y,a,ps,cs,hs,_,_,_=>by simp [snap] at hs
  | .nilm,y,a,ps,cs,hs,_,_,_=>by simp [snap] at hs
  | .fn _ _ _,y,a,ps,cs,hs,_,_,_=>by simp [snap] at hs
  | .nilf,y,a,ps,cs,hs,_,_,_=>by simp [snap] at hs
  | .iface _ _,y,a,ps,cs,hs,_,_,_=>by simp [snap] at hs
  | .nili,y,a,ps,cs,hs,_,_,_=>by simp [snap] at hs
  | .tup _,y,a,ps,cs,hs,_,_,_=>by simp [snap] at hs
  | .yl _,y,a,ps,cs,hs,_,_,_=>by simp [snap] at hs
  | .es _,y,a,ps,cs,hs,_,_,_=>by simp [snap] at hs
  | .undef,y,a,ps,cs,hs,_,_,_=>by simp [snap] at hs
theorem snaps_sound (F:Frozen h G w γ fz h2 G'):∀ (xs:List AV) (ys:List PV) (a:List Nat) (ps:List Prop) (cs:List Value),snaps h xs=some (ys,a,ps)→(∀ l∈a,l∈fz)→All ps→RepCs h γ G w xs cs→RepPs G' w ys cs
  | [],ys,a,ps,cs,hs,ha,hp,hr=>by
    simp only [snaps,Option.some.injEq,Prod.mk.injEq] at hs
    obtain ⟨rfl,_⟩:=hs
    exact hr
  | x::xs,ys,a,ps,cs,hs,ha,hp,hr=>by
    simp only [snaps] at hs
    split at hs
    · rename_i y a1 ps1 ys' b qs h1 h2
      simp only [Option.some.injEq,Prod.mk.injEq] at hs
      obtain ⟨rfl,rfl,rfl⟩:=hs
      simp only [RepCs] at hr
      obtain ⟨c,d,rfl,g1,g2⟩:=hr
      have:=All_append hp
      exact ⟨c,d,rfl,snap_sound F _ _ _ _ _ h1 (fun l hl=>ha l (by simp [hl])) this.1 g1,snaps_sound F _ _ _ _ _ h2 (fun l hl=>ha l (by simp [hl])) this.2 g2⟩
    · simp at hs
end
theorem emptySeq_rep {e:TypeId}:RepP G w (emptySeq P e) [.slice none 0 0]:=by
  unfold emptySeq
  split
  · simp only [RepP]; exact ⟨none,0,rfl,by simp,.inl trivial⟩
  · simp only [RepP]; exact ⟨none,0,rfl,by simp,by simp,.inl trivial⟩
theorem pureT_all (F : Frozen h G w γ fz h2 G') (d : Nat) :
    (∀ (t:TypeId) (x y:AV) (a:List Nat) (ps:List Prop) (cs:List Value),pureT P h d t x=some (y,a,ps)→(∀ l∈a,l∈fz)→All ps→RepC h γ G w x cs→RepC h2 γ G' w y cs∧y.isAgg=x.isAgg)∧
    (∀ (ts:List TypeId) (xs ys:List AV) (a:List Nat) (ps:List Prop) (cs:List Value),pureTs P h d ts xs=some (ys,a,ps)→(∀ l∈a,l∈fz)→All ps→RepCs h γ G w xs cs→RepCs h2 γ G' w ys cs)∧
    (∀ (ts:List TypeId) (xs ys:List AV) (a:List Nat) (ps:List Prop) (vs:List Value),pureTs P h d ts xs=some (ys,a,ps)→(∀ l∈a,l∈fz)→All ps→RepL h γ G w xs vs→RepL h2 γ G' w ys vs):=by
  induction d with
  | zero=>exact ⟨fun _ _ _ _ _ _ hs=>by simp [pureT] at hs,fun _ _ _ _ _ _ hs=>by simp [pureTs] at hs,fun _ _ _ _ _ _ hs=>by simp [pureTs] at hs⟩
  | succ d ih=>
    refine ⟨?_,?_,?_⟩
    · intro t x y a ps cs hs ha hp hr
      unfold pureT at hs
      split at hs
      · split at hs
        · simp only [Option.some.injEq,Prod.mk.injEq] at hs
          obtain ⟨rfl,_⟩:=hs
          simp only [RepC] at hr
          subst hr
          refine ⟨by simp only [RepC]; exact emptySeq_rep,?_⟩
          unfold emptySeq; split<;>rfl
        · simp at hs
      · rename_i l n
        split at hs
        · rename_i y' a' ps' hq
          simp only [Option.some.injEq,Prod.mk.injEq] at hs
          obtain ⟨rfl,rfl,rfl⟩:=hs
          have:=snap_sound F _ _ _ _ _ hq ha hp hr
          refine ⟨by simpa only [RepC] using this,?_⟩
          simp only [snap] at hq
          split at hq
          · rename_i f sz x hg
            simp only [Option.some.injEq,Prod.mk.injEq] at hq
            obtain ⟨rfl,rfl,_⟩:=hq
            have:=vec_isSeq F.ok (F.vec l f sz x (ha l (by simp)) hg)
            cases x<;>first | rfl | (simp [PV.isSeq] at this)
          · simp at hq
        · simp at hs
      · rename_i xs
        split at hs
        · rename_i fs hk
          split at hs
          · rename_i ys a' ps' hq
            simp only [Option.some.injEq,Prod.mk.injEq] at hs
            obtain ⟨rfl,rfl,rfl⟩:=hs
            simp only [RepC] at hr
            exact ⟨RepC_mk.2 (ih.2.1 _ _ _ _ _ _ hq ha hp hr),mk_isAgg _⟩
          · simp at hs
        · simp only [Option.some.injEq,Prod.mk.injEq] at hs
          obtain ⟨rfl,_⟩:=hs
          exact ⟨RepC.step F.tr _ _ hr,rfl⟩
      · simp only [Option.some.injEq,Prod.mk.injEq] at hs
        obtain ⟨rfl,_⟩:=hs
        exact ⟨RepC.step F.tr _ _ hr,rfl⟩
    · intro ts xs ys a ps cs hs ha hp hr
      cases ts with
      | nil=>
        cases xs with
        | nil=>simp only [pureTs,Option.some.injEq,Prod.mk.injEq] at hs; obtain ⟨rfl,_⟩:=hs; exact hr
        | cons=>simp [pureTs] at hs
      | cons t ts=>
        cases xs with
        | nil=>simp [pureTs] at hs
        | cons x xs=>
          simp only [pureTs] at hs
          split at hs
          · rename_i y a1 ps1 ys' b qs h1 h3
            simp only [Option.some.injEq,Prod.mk.injEq] at hs
            obtain ⟨rfl,rfl,rfl⟩:=hs
            simp only [RepCs] at hr ⊢
            obtain ⟨c,e,rfl,g1,g2⟩:=hr
            have:=All_append hp
            exact ⟨c,e,rfl,(ih.1 _ _ _ _ _ _ h1 (fun l hl=>ha l (by simp [hl])) this.1 g1).1,ih.2.1 _ _ _ _ _ _ h3 (fun l hl=>ha l (by simp [hl])) this.2 g2⟩
          · simp at hs
    · intro ts xs ys a ps vs hs ha hp hr
      cases ts with
      | nil=>
        cases xs with
        | nil=>simp only [pureTs,Option.some.injEq,Prod.mk.injEq] at hs; obtain ⟨rfl,_⟩:=hs; exact hr
        | cons=>simp [pureTs] at hs
      | cons t ts=>
        cases xs with
        | nil=>simp [pureTs] at hs
        | cons x xs=>
          simp only [pureTs] at hs
          split at hs
          · rename_i y a1 ps1 ys' b qs h1 h3
            simp only [Option.some.injEq,Prod.mk.injEq] at hs
            obtain ⟨rfl,rfl,rfl⟩:=hs
            simp only [RepL] at hr ⊢
            obtain ⟨c,v,r,rfl,g1,g2,g3⟩:=hr
            have:=All_append hp
            obtain ⟨q1,q2⟩:=ih.1 _ _ _ _ _ _ h1 (fun l hl=>ha l (by simp [hl])) this.1 g1
            exact ⟨c,v,r,rfl,q1,by rw [q2]; exact g2,ih.2.2 _ _ _ _ _ _ h3 (fun l hl=>ha l (by simp [hl])) this.2 g3⟩
          · simp at hs
theorem pureT_vecs (h:Ob) (d:Nat):(∀ (t:TypeId) (x y:AV) (a:List Nat) (ps:List Prop),pureT P h d t x=some (y,a,ps)→vecsAt h a)∧(∀ (ts:List TypeId) (xs ys:List AV) (a:List Nat) (ps:List Prop),pureTs P h d ts xs=some (ys,a,ps)→vecsAt h a):=by
  induction d with
  | zero=>exact ⟨fun _ _ _ _ _ hs=>by simp [pureT] at hs,fun _ _ _ _ _ hs=>by simp [pureTs] at hs⟩
  | succ d ih=>
    have no:vecsAt h []:=fun l hl=>by simp at hl
    constructor
    · intro t x y a ps hs
      unfold pureT at hs
      split at hs
      · split at hs
        · simp only [Option.some.injEq,Prod.mk.injEq] at hs; obtain ⟨_,rfl,_⟩:=hs; exact no
        · simp at hs
      · split at hs
        · rename_i hq
          simp only [Option.some.injEq,Prod.mk.injEq] at hs; obtain ⟨_,rfl,_⟩:=hs
          exact snap_vecs h _ _ _ _ hq
        · simp at hs
      · split at hs
        · split at hs
          · rename_i hq
            simp only [Option.some.injEq,Prod.mk.injEq] at hs; obtain ⟨_,rfl,_⟩:=hs
            exact ih.2 _ _ _ _ _ hq
          · simp at hs
        · simp only [Option.some.injEq,Prod.mk.injEq] at hs; obtain ⟨_,rfl,_⟩:=hs; exact no
      · simp only [Option.some.injEq,Prod.mk.injEq] at hs; obtain ⟨_,rfl,_⟩:=hs; exact no
    · intro ts xs ys a ps hs
      cases ts with
      | nil=>
        cases xs with
        | nil=>simp only [pureTs,Option.some.injEq,Prod.mk.injEq] at hs; obtain ⟨_,rfl,_⟩:=hs; exact no
        | cons=>simp [pureTs] at hs
      | cons t ts=>
        cases xs with
        | nil=>simp [pureTs] at hs
        | cons x xs=>
          simp only [pureTs] at hs
          split at hs
          · rename_i h1 h3
            simp only [Option.some.injEq,Prod.mk.injEq] at hs; obtain ⟨_,rfl,_⟩:=hs
            intro l hl
            rcases List.mem_append.1 hl with hl | hl
            · exact ih.1 _ _ _ _ _ h1 l hl
            · exact ih.2 _ _ _ _ _ h3 l hl
          · simp at hs
theorem frozen_of (H:HeapOK h γ G w) (hv:vecsAt h fz):∃ G',Frozen h G w γ fz (freeze fz h) G'∧∀ l o,get (freeze fz h) l=some o→∃ o',get h l=some o'∧o.names=o'.names:=by
  obtain ⟨G',h1,h2,h3,h4⟩:=freeze_ok fz h G H hv
  refine ⟨G',⟨h1,h2,fun l f sz x hl hg=>?_⟩,h4⟩
  obtain ⟨f',h5,h6⟩:=h3 l f sz x hg
  rw [h6 hl] at h5; exact h5
end g
end Go.Rx
end
noncomputable section
namespace Go.Rx
section g
variable {P:Program} {ob:Ob} {γ:Hm} {G:Gh} {w:World}
def CallsV (P:Program) (f:Value) (args:Array Value) (w:World) (R:Value→World→Prop):Prop:=
  match (do let d ← Deferred.ofValue f args; invoke d.target d.args:Sem Next).run P w with
  | .ok (.value v) w'=>R v w'
  | .ok (.enter k as0) w'=>Calls P k as0 w' fun e w''=>∃ v,e=.returned v∧R v w''
  | .ok (.round l fn tmps as0 bd) w'=>RoundIn Fence.wide 0 P l fn tmps as0 bd w' fun e w''=>∃ v,e=.returned v∧R v w''
  | _=>False
theorem CallsV.mono {f:Value} {args:Array Value} {R R':Value→World→Prop} (h:CallsV P f args w R) (hr:∀ v w',R v w'→R' v w'):CallsV P f args w R':=by
  unfold CallsV at *
  generalize (do let d ← Deferred.ofValue f args; invoke d.target d.args:Sem Next).run P w=r at *
  cases r with
  | ok n w'=>
    cases n<;>simp only at h ⊢<;>first
      | exact hr _ _ h
      | exact h.mono fun e w'' ⟨v,he,hv⟩=>⟨v,he,hr _ _ hv⟩
  | halt=>simp at h
def Valid (P:Program):CallR:=fun _ f args h o h'=>∀ (γ:Hm) (G:Gh) (w:World) (vf:Value) (vas:List Value),HeapOK h γ G w→RepV h γ G w f vf→RepL h γ G w args vas→
  ∃ r,o=.ret r∧CallsV P vf vas.toArray w fun v w'=>∃ γ' G',HeapOK h' γ' G' w'∧Trans h γ G w h' γ' G' w'∧RepV h' γ' G' w' r v
theorem Frozen.nil (H:HeapOK ob γ G w):Frozen ob G w γ [] ob G:=⟨H,Trans.refl H,fun _ _ _ _ h=>by simp at h⟩
theorem closedB_some {ns:List Nat} {h:Ob} (hc:closedB ns h=true):(∀ n∈ns,∃ o,get h n=some o)∧∀ l o,get h l=some o→∀ n∈o.names,∃ x,get h n=some x:=by
  simp only [closedB,allIn,Bool.and_eq_true,List.all_eq_true] at hc
  refine ⟨fun n hn=>(has_dom h n).1 (hc.1 n hn),fun l o hl n hn=>?_⟩
  have hmem:∀ {h:Ob} {l:Nat} {o:AObj},get h l=some o→(l,o)∈h:=by
    intro h l o
    induction h with
    | nil=>intro hg; simp [get_nil,get_cons] at hg
    | cons e r ih=>
      obtain ⟨a,y⟩:=e
      intro hg
      simp only [get_nil,get_cons] at hg
      split at hg
      · rename_i e; subst e; cases hg; simp
      · exact List.mem_cons_of_mem _ (ih hg)
  exact (has_dom h n).1 (hc.2 _ (hmem hl) n hn)
theorem get_only {T:List Nat} {h:Ob} {l:Nat} {o:AObj} (hl:get (keepOnly T h) l=some o):has T l=true∧get h l=some o:=by
  rw [get_keepOnly] at hl
  cases ht:has T l<;>simp [ht] at hl
  exact ⟨rfl,hl⟩
theorem namesL_mem {xs:List AV} {n:Nat}:n∈AV.namesL xs↔∃ x∈xs,n∈x.names:=by
  induction xs with
  | nil=>simp [AV.namesL]
  | cons x xs ih=>simp [AV.namesL,ih]
theorem RepL_sub {ob':Ob} {xs:List AV} {vs:List Value} (hs:∀ l o,get ob' l=some o→get ob l=some o) (hc:∀ n∈AV.namesL xs,∃ o,get ob' n=some o) (h:RepL ob γ G w xs vs):RepL ob' γ G w xs vs:=
  RepL_agree xs vs (fun n hn=>by obtain ⟨o,ho⟩:=hc n hn; exact ⟨by rw [ho,hs n o ho],rfl⟩) h
theorem tupL_vecs (h:Ob):∀ (xs ys:List AV) (fz:List Nat) (ps:List Prop),callOp.tupL h xs=some (ys,fz,ps)→vecsAt h fz
  | [],ys,fz,ps,hs=>by
    simp only [callOp.tupL,Option.some.injEq,Prod.mk.injEq] at hs
    obtain ⟨_,rfl,_⟩:=hs
    intro l hl; simp at hl
  | x::xs,ys,fz,ps,hs=>by
    unfold callOp.tupL at hs
    split at hs
    · rename_i heq; cases heq
    · rename_i l n xs' heq
      cases heq
      split at hs
      · rename_i y a ps1 ys' b qs h1 h2
        simp only [Option.some.injEq,Prod.mk.injEq] at hs
        obtain ⟨_,rfl,_⟩:=hs
        intro l' hl'
        rcases List.mem_append.1 hl' with hl' | hl'
        · exact snap_vecs h _ _ _ _ h1 l' hl'
        · exact tupL_vecs h _ _ _ _ h2 l' hl'
      · simp at hs
    · rename_i x' xs' _ heq
      cases heq
      split at hs
      · rename_i ys' b qs h2
        simp only [Option.some.injEq,Prod.mk.injEq] at hs
        obtain ⟨_,rfl,_⟩:=hs
        exact tupL_vecs h _ _ _ _ h2
      · simp at hs
theorem tupS_vecs (h:Ob) {x y:AV} {fz:List Nat} {ps:List Prop} (hs:callOp.tupS h x=some (y,fz,ps)):vecsAt h fz:=by
  unfold callOp.tupS at hs
  split at hs
  · split at hs
    · rename_i h1
      simp only [Option.some.injEq,Prod.mk.injEq] at hs
      obtain ⟨_,rfl,_⟩:=hs
      exact snap_vecs h _ _ _ _ h1
    · simp at hs
  · split at hs
    · rename_i h1
      simp only [Option.some.injEq,Prod.mk.injEq] at hs
      obtain ⟨_,rfl,_⟩:=hs
      exact tupL_vecs h _ _ _ _ h1
    · simp at hs
  · simp only [Option.some.injEq,Prod.mk.injEq] at hs
    obtain ⟨_,rfl,_⟩:=hs
    intro l hl; simp at hl
theorem snap_v {h h2 : Ob} {G' : Gh} {fz : List Nat} (F : Frozen h G w γ fz h2 G') {l n : Nat} {y : PV} {a : List Nat} {ps : List Prop} {cs : List Value} (hs : snap h (.v l n) = some (y, a, ps)) (ha : ∀ l ∈ a, l ∈ fz) (hp : All ps) (hr : RepC h γ G w (.v l n) cs) :
    RepC h2 γ G' w (.pv y) cs∧AV.isAgg (.pv y)=false:=by
  refine ⟨by simp only [RepC]; exact snap_sound F _ _ _ _ _ hs ha hp hr,?_⟩
  simp only [snap] at hs
  split at hs
  · rename_i f sz x hg
    simp only [Option.some.injEq,Prod.mk.injEq] at hs
    obtain ⟨rfl,rfl,_⟩:=hs
    have:=vec_isSeq F.ok (F.vec l f sz x (ha l (by simp)) hg)
    cases x<;>first | rfl | (simp [PV.isSeq] at this)
  · simp at hs
theorem tupL_sound {h h2:Ob} {G':Gh} {fz:List Nat} (F:Frozen h G w γ fz h2 G'):∀ (xs ys:List AV) (a:List Nat) (ps:List Prop) (vs:List Value),callOp.tupL h xs=some (ys,a,ps)→(∀ l∈a,l∈fz)→All ps→RepL h γ G w xs vs→RepL h2 γ G' w ys vs
  | [],ys,a,ps,vs,hs,_,_,hr=>by
    simp only [callOp.tupL,Option.some.injEq,Prod.mk.injEq] at hs
    obtain ⟨rfl,_⟩:=hs
    exact hr
  | x::xs,ys,a,ps,vs,hs,ha,hp,hr=>by
    unfold callOp.tupL at hs
    simp only [RepL] at hr
    obtain ⟨c,v,r,rfl,g1,g2,g3⟩:=hr
    split at hs
    · rename_i heq; cases heq
    · rename_i l n xs' heq
      cases heq
      split at hs
      · rename_i y a1 ps1 ys' b qs h1 h3
        simp only [Option.some.injEq,Prod.mk.injEq] at hs
        obtain ⟨rfl,rfl,rfl⟩:=hs
        have:=All_append hp
        obtain ⟨q1,q2⟩:=snap_v F h1 (fun l hl=>ha l (by simp [hl])) this.1 g1
        simp only [RepL]
        exact ⟨c,v,r,rfl,q1,by rw [q2]; exact g2,tupL_sound F _ _ _ _ _ h3 (fun l hl=>ha l (by simp [hl])) this.2 g3⟩
      · simp at hs
    · rename_i x' xs' _ heq
      cases heq
      split at hs
      · rename_i ys' b qs h3
        simp only [Option.some.injEq,Prod.mk.injEq] at hs
        obtain ⟨rfl,rfl,rfl⟩:=hs
        simp only [RepL]
        exact ⟨c,v,r,rfl,RepC.step F.tr _ _ g1,g2,tupL_sound F _ _ _ _ _ h3 ha hp g3⟩
      · simp at hs
theorem tupS_sound {h h2:Ob} {G':Gh} {fz:List Nat} (F:Frozen h G w γ fz h2 G') {x y:AV} {ps:List Prop} {v:Value} (hs:callOp.tupS h x=some (y,fz,ps)) (hp:All ps) (hr:RepV h γ G w x v):RepV h2 γ G' w y v:=by
  unfold callOp.tupS at hs
  split at hs
  · rename_i l n
    split at hs
    · rename_i y' a1 ps1 h1
      simp only [Option.some.injEq,Prod.mk.injEq] at hs
      obtain ⟨rfl,rfl,rfl⟩:=hs
      obtain ⟨cs,g1,g2⟩:∃ cs,RepC h γ G w (.v l n) cs∧ofCells (AV.isAgg (.v l n)) cs v:=hr
      obtain ⟨q1,q2⟩:=snap_v F h1 (fun _ h=>h) hp g1
      exact RepV_of q1 (by rw [q2]; exact g2)
    · simp at hs
  · rename_i xs
    split at hs
    · rename_i ys b qs h1
      simp only [Option.some.injEq,Prod.mk.injEq] at hs
      obtain ⟨rfl,rfl,rfl⟩:=hs
      obtain ⟨vs,e,g⟩:=hr
      exact ⟨vs,e,tupL_sound F _ _ _ _ _ h1 (fun _ h=>h) hp g⟩
    · simp at hs
  · simp only [Option.some.injEq,Prod.mk.injEq] at hs
    obtain ⟨rfl,rfl,_⟩:=hs
    exact RepV.step F.tr _ _ hr
theorem callOp_sound (H : HeapOK ob γ G w) {hn : Hint} {K lvl : Nat} {d : Option Tmp} {an : Option Ans} {f : AV} {ts : List TypeId} {args : List AV} {T : List Nat} {out : Out} {ho : Ob} {ps : List Prop} {vf : Value} {vas : List Value}
    (hs:callOp P hn (Valid P) K lvl d an f ts args (keepOnly T ob)=some ((out,ho),ps)) (hp:All ps) (hf:RepV ob γ G w f vf) (ha:args.all AV.solid=true→RepL ob γ G w args vas)
    (hc:∀ n x,get ho n=some x→has T n=true∨get ob n=none) :
    ∃ r,out=.ret r∧CallsV P vf vas.toArray w fun v w'=>∃ γ' G',HeapOK (merge T ho ob) γ' G' w'∧Trans ob γ G w (merge T ho ob) γ' G' w'∧RepV (merge T ho ob) γ' G' w' r v:=by
  unfold callOp at hs
  split at hs
  · rename_i r h'
    obtain ⟨hcl,hs⟩:=need_some hs
    simp only [Bool.and_eq_true] at hcl
    obtain ⟨hcn,hco⟩:=closedB_some hcl.1.1
    have HR:HeapOK (keepOnly T ob) γ G w:=H.sub (fun l o hl=>(get_only hl).2) hco
    have hfR:RepV (keepOnly T ob) γ G w f vf:=RepV_sub (fun l o hl=>(get_only hl).2) (fun n hn=>hcn n (by simp [hn])) hf
    have haR:RepL (keepOnly T ob) γ G w args vas:=RepL_sub (fun l o hl=>(get_only hl).2) (fun n hn=>hcn n (by simp [hn])) (ha hcl.2)
    have key : ∀ {args' : List AV} {fz : List Nat} {ps1 : List Prop}, (match (match f with | .fn (.func k) _ _ => hn.raw k | _ => false) with
        | true=>some (args,[],[])
        | false=>pureTs P (keepOnly T ob) 30 ts args)=some (args',fz,ps1)→All ps1→∃ G2,Frozen (keepOnly T ob) G w γ fz (freeze fz (keepOnly T ob)) G2∧RepL (freeze fz (keepOnly T ob)) γ G2 w args' vas:=fun {args' fz ps1} he hp1=>by
      split at he
      · simp only [Option.some.injEq,Prod.mk.injEq] at he
        obtain ⟨rfl,rfl,_⟩:=he
        exact ⟨G,Frozen.nil HR,haR⟩
      · obtain ⟨G2,F,_⟩:=frozen_of HR ((pureT_vecs (P:=P) _ 30).2 _ _ _ _ _ he)
        exact ⟨G2,F,(pureT_all F 30).2.2 _ _ _ _ _ _ he (fun _ h=>h) hp1 haR⟩
    split at hs
    · simp at hs
    · rename_i args' fz ps1 he
      split at hs
      · simp only [Option.some.injEq,Prod.mk.injEq] at hs
        obtain ⟨⟨rfl,rfl⟩,rfl⟩:=hs
        have hpp:=All_append hp
        obtain ⟨G2,F,haF⟩:=key he hpp.1
        have hv:Valid P lvl f args' (freeze fz (keepOnly T ob)) (.ret r) h':=hpp.2
        obtain ⟨r',e,hcall⟩:=hv γ G2 w vf vas F.ok (RepV.step F.tr _ _ hfR) haF
        cases e
        refine ⟨r,rfl,hcall.mono fun v w' ⟨γ',G',g1,g2,g3⟩=>?_⟩
        have:=merge_ok H g1 (F.tr.trans HR g2) hc
        exact ⟨_,G',this.1,this.2,merge_val g3⟩
      · split at hs
        · rename_i r' fz' qs hq
          obtain ⟨hcl2,hs⟩:=need_some hs
          simp only [Option.some.injEq,Prod.mk.injEq] at hs
          obtain ⟨⟨rfl,rfl⟩,rfl⟩:=hs
          have hpp:=All_append hp
          have hpp1:=All_append hpp.1
          obtain ⟨G2,F,haF⟩:=key he hpp1.1
          have hv:Valid P lvl f args' (freeze fz (keepOnly T ob)) (.ret r) h':=hpp1.2
          obtain ⟨r2,e,hcall⟩:=hv γ G2 w vf vas F.ok (RepV.step F.tr _ _ hfR) haF
          cases e
          refine ⟨r',rfl,hcall.mono fun v w' ⟨γ',G',g1,g2,g3⟩=>?_⟩
          obtain ⟨G3,F3,_⟩:=frozen_of g1 (tupS_vecs h' hq)
          have g4:=tupS_sound F3 hq hpp.2 g3
          obtain ⟨hcn2,hco2⟩:=closedB_some hcl2
          have hsub:∀ l o,get (keepOnly (dom (keepOnly T ob)) (freeze fz' h')) l=some o→get (freeze fz' h') l=some o:=fun l o hl=>(get_only hl).2
          have HK:=F3.ok.sub hsub hco2
          have T1:=(F.tr.trans HR g2).trans HR F3.tr
          have T2:=T1.drop hsub (fun l o hl=>by
            obtain ⟨o',h1,_⟩:=T1.kept l o hl
            exact ⟨o',by rw [get_keepOnly,if_pos ((has_dom _ l).2 ⟨o,hl⟩)]; exact h1⟩)
          have:=merge_ok H HK T2 hc
          exact ⟨_,G3,this.1,this.2,merge_val (RepV_sub hsub hcn2 g4)⟩
        · simp at hs
  · simp at hs
end g
end Go.Rx
end
noncomputable section
namespace Go.Rx
section g
variable {P:Program} {ob ob':Ob} {γ γ':Hm} {G G':Gh} {w w':World}
def SameO (ob ob':Ob):Prop:=∀ j,get ob' j=get ob j
theorem SameO.heap (h:SameO ob ob') (H:HeapOK ob γ G w):HeapOK ob' γ G w:=
  H.sub (fun l o hl=>by rw [← h l]; exact hl) (fun l o hl n hn=>by
    rw [h l] at hl
    obtain ⟨x,hx⟩:=H.closed l o hl n hn
    exact ⟨x,by rw [h n]; exact hx⟩)
theorem SameO.val (h:SameO ob ob') {x:AV} {v:Value} (hr:RepV ob γ G w x v):RepV ob' γ G w x v:=
  RepV_agree (fun n _=>⟨h n,rfl⟩) hr
theorem SameO.trans {h₀:Ob} {γ₀:Hm} {G₀:Gh} {w₀:World} (h:SameO ob ob') (T:Trans h₀ γ₀ G₀ w₀ ob γ G w):Trans h₀ γ₀ G₀ w₀ ob' γ G w:=
  T.drop (fun l o hl=>by rw [← h l]; exact hl) (fun l o hl=>by
    obtain ⟨o',h1,_⟩:=T.kept l o hl
    exact ⟨o',by rw [h l]; exact h1⟩)
theorem SameO.rfl' (ob:Ob):SameO ob ob:=fun _=>rfl
theorem merge_ins {T:List Nat} {l:Nat} {o:AObj} (hl:has T l=true∨get ob l=none):SameO (ins l o ob) (merge T (ins l o (keepOnly T ob)) ob):=fun j=>by
  rw [get_merge,get_ins,get_ins,get_keepOnly]
  by_cases e:l=j
  · simp [e]
  · simp only [e,if_false]
    cases ht:has T j
    · simp
    · cases get ob j<;>simp
theorem merge_self {T:List Nat}:SameO ob (merge T (keepOnly T ob) ob):=fun j=>by
  rw [get_merge,get_keepOnly]
  cases ht:has T j
  · simp
  · cases get ob j<;>simp
def StepTo (P:Program) (s:Sem Next) (w:World) (R:Value→World→Prop):Prop:=
  match s.run P w with
  | .ok (.value v) w'=>R v w'
  | .ok .skip w'=>R undef w'
  | .ok (.enter k as0) w'=>Calls P k as0 w' fun e w''=>∃ v,e=.returned v∧R v w''
  | .ok (.round l fn tmps as0 bd) w'=>RoundIn Fence.wide 0 P l fn tmps as0 bd w' fun e w''=>∃ v,e=.returned v∧R v w''
  | _=>False
def FW (ro:Option Nat):Fence:={ Fence.wide with round:=ro }
theorem StepTo.wp {ro:Option Nat} {nn:Nat} {o:Oper} {a:Act} {R:Value→World→Prop} {next:Act→World→Prop} {Q:Exit→Act→World→Prop} (h:StepTo P (execOp a.eval o) w R) (hn:∀ v w',R v w'→next (a.put o.dst v) w'):o.wpIn (FW ro) nn P a w next Q:=by
  refine ⟨fun _ _=>trivial,?_⟩
  have hnd:∀ c,o.op≠.defer c:=by
    intro c hc
    unfold StepTo at h
    simp only [execOp,hc,Sem.run_bind] at h
    cases hr:(resolve a.eval c o.type).run P w with
    | ok d w1=>simp [hr] at h
    | halt x w1=>simp [hr] at h
  rw [Oper.semAt_eq _ _ _ hnd]
  unfold StepTo at h
  generalize (execOp a.eval o).run P w=r at *
  cases r with
  | ok n w1=>
    cases n<;>simp only at h
    · exact hn _ _ h
    · exact hn _ _ h
    · refine ⟨fun hd=>by simp [FW,Fence.wide] at hd,trivial,?_⟩
      have:=(callsIn_wide (n:=nn - 1)).2 (h.mono (R':=fun
        | .returned v,w''=>next (a.put o.dst v) w''
        | .panicked chain,w''=>Q (.panic chain) a w''
        | .outgrown,_=>LetsOut Q) fun e w2 ⟨v,he,hv⟩=>by subst he; exact hn _ _ hv)
      exact this.2
    · refine ⟨fun hd=>by simp [FW,Fence.wide] at hd,trivial,?_⟩
      have:=h.mono (R':=fun
        | .returned v,w''=>next (a.put o.dst v) w''
        | .panicked chain,w''=>Q (.panic chain) a w''
        | .outgrown,_=>LetsOut Q) fun e w2 ⟨v,he,hv⟩=>by subst he; exact hn _ _ hv
      exact fun c cs _=>this.2 c cs (room_wide _)
  | halt x w1=>simp at h
def Behind (ob:Ob) (γ:Hm) (G:Gh) (w:World) (ob':Ob) (r:AV) (v:Value) (w':World):Prop:=
  ∃ γ' G',HeapOK ob' γ' G' w'∧Trans ob γ G w ob' γ' G' w'∧RepV ob' γ' G' w' r v
theorem Behind.same {ob'':Ob} {r:AV} {v:Value} (h:SameO ob' ob'') (hb:Behind ob γ G w ob' r v w'):Behind ob γ G w ob'' r v w':=by
  obtain ⟨γ',G',h1,h2,h3⟩:=hb
  exact ⟨γ',G',h.heap h1,h.trans h2,h.val h3⟩
theorem StepTo.mono {s:Sem Next} {R R':Value→World→Prop} (h:StepTo P s w R) (hr:∀ v w',R v w'→R' v w'):StepTo P s w R':=by
  unfold StepTo at *
  generalize s.run P w=r at *
  cases r with
  | ok n w1=>
    cases n<;>simp only at h ⊢<;>first
      | exact hr _ _ h
      | exact h.mono fun e w'' ⟨v,he,hv⟩=>⟨v,he,hr _ _ hv⟩
  | halt=>simp at h
theorem StepTo.ofN {s:Sem Next} {r:AV} (h:YieldsN P ob γ G w s r):StepTo P s w (Behind ob γ G w ob r):=by
  obtain ⟨v,G',w',h1,h2,h3,h4⟩:=h
  unfold StepTo; rw [h1]; exact ⟨γ,G',h2,h3,h4⟩
theorem StepTo.ofM {s:Sem Next} {r:AV} (h:YieldsM P ob γ G w s r ob'):StepTo P s w (Behind ob γ G w ob' r):=by
  obtain ⟨v,γ',G',w',h1 | ⟨h1,rfl⟩,h2,h3,h4⟩:=h
  · unfold StepTo; rw [h1]; exact ⟨γ',G',h2,h3,h4⟩
  · unfold StepTo; rw [h1]; exact ⟨γ',G',h2,h3,h4⟩
theorem StepTo.ofC {ρ:Operand→Value} {o:Oper} {f:Operand} {args:Array Operand} {ts:Array TypeId} {R:Value→World→Prop} (ho:o.op=.call { callee:=.value f,args:=args,argTypes:=ts }) (h:CallsV P (ρ f) (args.map ρ) w R):StepTo P (execOp ρ o) w R:=by
  unfold CallsV at h
  unfold StepTo
  have:execOp ρ o=(do let d ← Deferred.ofValue (ρ f) (args.map ρ); invoke d.target d.args:Sem Next):=by simp only [execOp,ho,resolve]
  rw [this]
  generalize (do let d ← Deferred.ofValue (ρ f) (args.map ρ); invoke d.target d.args:Sem Next).run P w=r at *
  cases r with
  | ok n w1=>cases n<;>simp only at h ⊢<;>exact h
  | halt=>simp at h
theorem readOp_sound (H : HeapOK ob γ G w) {an : Option Ans} {val : Operand → AV} {ρ : Operand → Value} (S : Stands ob γ G w val ρ) {h : Ob} (hh : ∀ l o, get h l = some o → get ob l = some o) {o : Oper} {r : AV} {ps : List Prop}
    (hs:readOp P an val h o.op=some (r,ps)) (hp:All ps):YieldsN P ob γ G w (execOp ρ o) r:=by
  cases ho:o.op<;>rw [ho] at hs
  case load t a=>
    obtain ⟨v,h1,h2⟩:=loadOp_sound H S hh hs hp
    simp only [execOp,ho]
    exact .of0 (.same H h1 h2)
  case lookup t m k ok=>
    obtain ⟨v,h1,h2⟩:=lookupOp_sound H S hh hs hp
    simp only [execOp,ho]
    exact .of0 (.same H h1 h2)
  case call c=>
    simp only [readOp] at hs
    simp only [execOp,ho]
    split at hs
    · rename_i hc
      split at hs
      · rename_i kt e l ht ha
        split at hs
        · rename_i cl es hg
          rw [pure0_some hs]
          have h0:=H.obj _ _ (hh _ _ hg)
          simp only [ObjOK] at h0
          obtain ⟨ents,hb,hents,_⟩:=h0
          obtain ⟨t,htt,hk⟩:∃ t,c.argTypes=#[t]∧kindOf P t=some (.map kt e):=by
            cases hl:c.argTypes.toList with
            | nil=>simp [hl] at ht
            | cons t r=>
              cases r with
              | nil=>simp [hl] at ht; exact ⟨t,Array.ext' hl,ht⟩
              | cons=>simp [hl] at ht
          obtain ⟨a,haa,hv⟩:∃ a,c.args=#[a]∧val a=.m l:=by
            cases hl:c.args.toList with
            | nil=>simp [hl] at ha
            | cons t r=>
              cases r with
              | nil=>simp [hl] at ha; exact ⟨t,Array.ext' hl,ha⟩
              | cons=>simp [hl] at ha
          have hx:=S a
          rw [hv] at hx
          have h3:=RepV_one rfl rfl hx
          simp only [RepC] at h3
          obtain ⟨h3,_⟩:=h3
          simp only [List.cons.injEq,and_true] at h3
          refine .same H (v:=.int .i64 es.length) ?_ (RepV_i.2 rfl)
          have hl:es.length=ents.size:=by rw [RepEnts.len hents]; simp
          simp [resolve,hc,invoke,builtin,htt,haa,h3,Builtin.len_,run_underlying (kind_map hk),run_getMap hb,goInt,hl]
        · simp at hs
      · simp at hs
    · simp at hs
  all_goals (simp [readOp] at hs)
end g
end Go.Rx
end
noncomputable section
namespace Go.Rx
section g
variable {P:Program} {ob:Ob} {γ:Hm} {G:Gh} {w:World}
theorem vals_L {ob:Ob} {γ:Hm}:∀ (xs:List PV) (vs:List Value),RepL ob γ G w (xs.map AV.pv) vs→∃ css,vals G w xs vs css
  | [],vs,h=>by simp only [List.map_nil,RepL] at h; subst h; exact ⟨[],trivial⟩
  | x::xs,vs,h=>by
    simp only [List.map_cons,RepL] at h
    obtain ⟨c,v,r,rfl,h1,h2,h3⟩:=h
    obtain ⟨css,hc⟩:=vals_L xs r h3
    have h1':RepP G w x c:=by simpa only [RepC] using h1
    exact ⟨c::css,h1',rep_cells (ob:=ob) (γ:=γ) (x:=.pv x) h1 h2,hc⟩
theorem vals_len:∀ {xs:List PV} {vs:List Value} {css:List (List Value)},vals G w xs vs css→xs.length=vs.length
  | [],[],[],_=>rfl
  | [],[],_::_,h=>by simp [vals] at h
  | [],_::_,_,h=>by simp [vals] at h
  | _::_,[],_,h=>by simp [vals] at h
  | _::_,_::_,[],h=>by simp [vals] at h
  | x::xs,v::vs,c::css,h=>by
    simp only [vals] at h
    simp [vals_len h.2.2]
theorem buildSlice_pure (H : HeapOK ob γ G w) {h : Ob} {t e : TypeId} {n : Nat} {parts : Array (Nat × Operand)} {val : Operand → AV} {ρ : Operand → Value} (S : Stands ob γ G w val ρ) {T : List Nat} (hT : h = keepOnly T ob) (hk : kindOf P t = some (.slice e)) (hd : dense 0 parts.toList = true) (hn : n = parts.size)
    (hm:n * szOf P e≤16777216) (hz:zeroKnown P e=true) {an:Option Ans} {x:PV} {h1:Ob} {ps:List Prop} (hs:pureAll P an h e (parts.toList.map fun q=>val q.2)=some ((x,h1),ps)) (hp:All ps)
    (hc:∀ n x,get h1 n=some x→has T n=true∨get ob n=none):YieldsM P ob γ G w (do pure (Next.value (← Instr.buildSlice t n (parts.map fun q=>(q.1,ρ q.2))))) (.pv x) (merge T h1 ob):=by
  subst hT
  unfold pureAll at hs
  split at hs
  case h_2=>simp at hs
  rename_i hcl
  simp only [Bool.and_eq_true] at hcl
  split at hs
  case h_2=>simp at hs
  rename_i rs fz ps1 he
  split at hs
  case h_2=>simp at hs
  rename_i xs hx
  split at hs
  case h_2=>simp at hs
  rename_i x' ps2 hsq
  simp only [Option.some.injEq,Prod.mk.injEq] at hs
  obtain ⟨⟨rfl,rfl⟩,rfl⟩:=hs
  have hpp:=All_append hp
  have hsub:∀ l o,get (keepOnly T ob) l=some o→get ob l=some o:=fun l o hl=>(get_only hl).2
  obtain ⟨hcn,hco⟩:=closedB_some hcl.1
  have HR:=H.sub hsub hco
  obtain ⟨G2,F,_⟩:=frozen_of HR ((pureT_vecs (P:=P) _ 30).2 _ _ _ _ _ he)
  have hL0:RepL ob γ G w (parts.toList.map fun q=>val q.2) (parts.toList.map fun q=>ρ q.2):=by
    have:=RepL_of S (parts.toList.map (·.2)) (by simpa [List.map_map,Function.comp_def] using hcl.2)
    simpa [List.map_map,Function.comp_def] using this
  have hL:=RepL_sub hsub (fun n hn=>hcn n hn) hL0
  have hL2:=(pureT_all F 30).2.2 _ _ _ _ _ _ he (fun _ h=>h) hpp.1 hL
  rw [asPVs_some hx] at hL2
  obtain ⟨css,hv⟩:=vals_L xs _ hL2
  obtain ⟨h1,h2,h3,h4,h5⟩:=seqOf_sound hsq hpp.2 hv
  have hM:=merge_ok H F.ok F.tr hc
  have hxl:xs.length=n:=by
    have hl1:=vals_len hv
    simp at hl1; omega
  have hmap:(parts.map fun q=>(q.1,ρ q.2))=(parts.toList.map fun q=>(q.1,ρ q.2)).toArray:=by apply Array.ext'; simp
  have hdn:denseV (szOf P e) 0 (parts.toList.map fun q=>(q.1,ρ q.2)) css:=by
    refine vals_dense (xs:=xs) (by simpa [Function.comp_def] using hv) h4 fun j q hq=>?_
    simp only [List.getElem?_map,Option.map_eq_some_iff] at hq
    obtain ⟨p,hp1,rfl⟩:=hq
    exact dense_get _ 0 hd j p hp1
  have hee:∃ d,P.underlying e=some d:=by
    simp only [zeroKnown,Bool.and_eq_true] at hz
    exact Option.isSome_iff_exists.1 hz.2
  have hrun:(Instr.buildSlice t n (parts.map fun q=>(q.1,ρ q.2))).run P w=.ok (.slice (some ⟨w.heap.size,0,none⟩) x'.len x'.len) { w with heap:=w.heap.push (.cells css.flatten.toArray e) }:=by
    rw [hmap,run_buildSlice (kind_slice hk) hee hz hm hdn (by simp [hn]),h2,hxl]
  obtain ⟨G',g1,g2,g3,g4⟩:=fresh_ro (sp:=[]) hM.1 (w':={ w with heap:=w.heap.push (.cells css.flatten.toArray e) }) (cs:=css.flatten) (el:=e) (fr:=(0,0)) (by simp)
  refine YieldsM.ofW ⟨_,_,G',_,hrun,g1,hM.2.trans H g2,RepV_cell (by cases x'<;>first | rfl | (simp [PV.isSeq] at h3)) ?_⟩
  simp only [RepC]
  exact seq_rep (RepSeq.mono g2.keeps h1) g3 g4 (Nat.le_refl _)
theorem writeOp_sound (H : HeapOK ob γ G w) {lvl : Nat} {d : Option Tmp} {an : Option Ans} {val : Operand → AV} {ρ : Operand → Value} (S : Stands ob γ G w val ρ) {h h' : Ob} (hh : ∀ l o, get h l = some o → get ob l = some o) {o : Oper} {out : Out} {ps : List Prop}
    (hs:writeOp P lvl d an val h o.op=some ((out,h'),ps)) (hp:All ps) (hfresh:∀ l,(∃ x,get h' l=some x)→get h l=none→get ob l=none):WOut P ob γ G w (execOp ρ o) h h' out:=by
  have new:∀ {o':AObj} {r:Nat→AV} {ps:List Prop},newObj d lvl h o' r=some ((out,h'),ps)→∃ l,out=.ret (r l)∧h'=ins l o' h∧get ob l=none:=fun hs=>by
    obtain ⟨l,h1,h2,h3⟩:=newObj_some hs
    exact ⟨l,h1,h2,hfresh l ⟨_,by rw [h2,get_ins,if_pos rfl]⟩ h3⟩
  cases ho:o.op<;>rw [ho] at hs
  case alloc t=>
    simp only [writeOp] at hs
    split at hs
    · rename_i z hz
      obtain ⟨l,rfl,rfl,hl⟩:=new hs
      simp only [execOp,ho]
      exact ⟨_,rfl,.inr (.inl ⟨l,_,rfl,.ofW (alloc_sound H hz hl)⟩)⟩
    · simp at hs
  case box t x=>
    simp only [writeOp] at hs
    obtain ⟨hf,hs⟩:=need_some hs
    obtain ⟨l,rfl,rfl,hl⟩:=new hs
    simp only [execOp,ho]
    exact ⟨_,rfl,.inr (.inl ⟨l,_,rfl,.ofW (box_sound H hf (S x) hl)⟩)⟩
  case buildSlice t n parts=>
    simp only [writeOp] at hs
    split at hs
    · rename_i e hk
      obtain ⟨hc,hs⟩:=need_some hs
      simp only [Bool.and_eq_true,decide_eq_true_eq,beq_iff_eq] at hc
      obtain ⟨⟨⟨hd,hn⟩,hm⟩,hz⟩:=hc
      simp only [execOp,ho]
      split at hs
      · rename_i xs hx
        obtain ⟨h0,hs⟩:=need_some hs
        obtain ⟨s,p1,p2,e1,e2,hp1,hp2⟩:=with_some hs hp
        obtain ⟨l,rfl,rfl,hl⟩:=new e2
        exact ⟨_,rfl,.inr (.inl ⟨l,_,rfl,.ofW (vec_sound H S hk hd hn hm hz (blt_pos h0) hx e1 hp1 hl)⟩)⟩
      · split at hs
        · rename_i x h1 ps' hq
          simp only [Option.some.injEq,Prod.mk.injEq] at hs
          obtain ⟨⟨rfl,rfl⟩,rfl⟩:=hs
          exact ⟨_,rfl,.inr (.inr fun T hT hc=>buildSlice_pure H S hT hk hd hn hm hz hq hp hc)⟩
        obtain ⟨h0,hs⟩:=need_some hs
        simp only [Bool.and_eq_true,beq_iff_eq] at h0
        obtain ⟨l,rfl,rfl,hl⟩:=new hs
        exact ⟨_,rfl,.inr (.inl ⟨l,_,rfl,.ofW (fns_sound H S hk hd hn hm hz h0.1 h0.2 hl)⟩)⟩
    · simp at hs
  case makeMap t r=>
    cases r with
    | some _=>simp [writeOp] at hs
    | none=>
      simp only [writeOp] at hs
      split at hs
      · obtain ⟨l,rfl,rfl,hl⟩:=new hs
        simp only [execOp,ho]
        exact ⟨_,rfl,.inr (.inl ⟨l,_,rfl,.ofW (makeMap_sound H hl)⟩)⟩
      · simp at hs
  case makeSlice t n c=>
    simp only [writeOp] at hs
    split at hs
    · rename_i e n' c' hk hn hc
      split at hs
      · rename_i k z hz
        obtain ⟨hq,hs⟩:=need_some hs
        simp only [Bool.and_eq_true] at hq
        obtain ⟨_,p1,p2,e1,e2,hp1,hp2⟩:=with_some hs hp
        obtain ⟨_,q1,q2,q3⟩:=owe_some e1 hp1
        obtain ⟨l,rfl,rfl,hl⟩:=new e2
        have hN:=S n
        have hC:=S c
        rw [hn,RepV_i] at hN
        rw [hc,RepV_i] at hC
        simp only [execOp,ho]
        rw [hN,hC,q1,q2]
        exact ⟨_,rfl,.inr (.inl ⟨l,_,rfl,.ofW (makeSlice_sound H hk hz (blt_pos hq.1.1) (blt_pos hq.1.2) hq.2 q3 hl)⟩)⟩
      · simp at hs
    · simp at hs
  case store t a x=>simp only [execOp,ho]; exact storeOp_sound H S hh hs hp
  case mapUpdate t m k x=>simp only [execOp,ho]; simp only [writeOp] at hs; exact update_sound H S hh hs hp
  case insert t m k x=>simp only [execOp,ho]; simp only [writeOp] at hs; exact update_sound H S hh hs hp
  case mapEntry t m k=>
    simp only [writeOp] at hs
    split at hs
    · rename_i kt e l kk h1 h2 h3
      split at hs
      · rename_i c es hg
        obtain ⟨hc,hs⟩:=need_some hs
        simp only [Bool.and_eq_true,fitT] at hc
        obtain ⟨r,p1,p2,e1,e2,hp1,hp2⟩:=with_some hs hp
        have hfind:=findO_some e1 hp1
        simp only [execOp,ho]
        split at e2
        · rename_i x n
          obtain ⟨hsol,e2⟩:=need_some e2
          obtain ⟨r,p3,p4,e3,e4,hp3,hp4⟩:=with_some e2 hp2
          have:=pure0_some e4
          simp only [Prod.mk.injEq] at this
          obtain ⟨rfl,rfl⟩:=this
          exact ⟨_,rfl,.inr (.inl ⟨l,_,rfl,.ofW (mapEntry_sound H S h1 h2 h3 (hh _ _ hg) hc.1.2 hc.2 hfind ⟨rfl,rfl⟩ (putO_some e3 hp3))⟩)⟩
        · obtain ⟨z,p5,p6,e5,e6,hp5,hp6⟩:=with_some e2 hp2
          obtain ⟨hzp,e6⟩:=need_some e6
          obtain ⟨r,p3,p4,e3,e4,hp3,hp4⟩:=with_some e6 hp6
          have:=pure0_some e4
          simp only [Prod.mk.injEq] at this
          obtain ⟨rfl,rfl⟩:=this
          exact ⟨_,rfl,.inr (.inl ⟨l,_,rfl,.ofW (mapEntry_sound H S h1 h2 h3 (hh _ _ hg) hc.1.2 hc.2 hfind ⟨ofO_some e5,rfl,hzp⟩ (putO_some e3 hp3))⟩)⟩
      · simp at hs
    · simp at hs
  case entryStore t m s x=>
    simp only [writeOp] at hs
    split at hs
    · rename_i kt e l kd born h1 h2 h3
      split at hs
      · rename_i c es hg
        obtain ⟨hc,hs⟩:=need_some hs
        obtain ⟨es',p1,p2,e1,e2,hp1,hp2⟩:=with_some hs hp
        obtain ⟨rfl,rfl⟩:=done_some e2
        obtain ⟨G',w',g1,g2,g3⟩:=entryStore_sound (P:=P) (t:=t) H S h2 h3 (hh _ _ hg) (by simp only [Bool.and_eq_true] at hc; exact hc.2) (atO_some e1 hp1)
        simp only [execOp,ho]
        exact ⟨_,rfl,.inr (.inl ⟨l,_,rfl,.ofU g1 g2 g3⟩)⟩
      · simp at hs
    · simp at hs
  case slice t x lo hi mx=>
    cases mx with
    | some m=>simp [writeOp] at hs
    | none=>
      simp only [writeOp] at hs
      simp only [execOp,ho]
      split at hs
      · rename_i l n hv
        split at hs
        · rename_i e fz sz s hk hg
          obtain ⟨hsz,hs⟩:=need_some hs
          simp only [beq_iff_eq] at hsz
          obtain ⟨⟨a,b⟩,p1,p2,e1,e2,hp1,hp2⟩:=with_some hs hp
          obtain ⟨_,p3,p4,e3,e4,hp3,hp4⟩:=with_some e2 hp2
          have hn:=(owe_some e3 hp3).2
          have:=pure0_some e4
          simp only [Prod.mk.injEq] at this
          obtain ⟨rfl,rfl⟩:=this
          exact ⟨_,rfl,.inr (.inl ⟨l,_,rfl,.ofW (slice_vec_sound H S hv hk (hh _ _ hg) hsz e1 hp1 hn)⟩)⟩
        · simp at hs
      · rename_i l path off hv
        split at hs
        · rename_i n ro c hk hg
          split at hs
          · rename_i o m bs h1 h2
            obtain ⟨hc,hs⟩:=need_some hs
            simp only [Bool.and_eq_true,beq_iff_eq] at hc
            obtain ⟨_,p1,p2,e1,e2,hp1,hp2⟩:=with_some hs hp
            have hin:=oweAll_some e1 hp1
            have:=pure0_some e2
            simp only [Prod.mk.injEq] at this
            obtain ⟨rfl,rfl⟩:=this
            exact ⟨_,rfl,.inr (.inl ⟨l,_,rfl,.ofW (slice_cell_sound H S hv hk (hh _ _ hg) h1 h2 hc.1 hc.2 hin)⟩)⟩
          · simp at hs
        · simp at hs
      · simp at hs
  case call c=>
    simp only [writeOp] at hs
    simp only [execOp,ho]
    have call2 : ∀ {b : Builtin} {v u : Value} {t1 t2 : TypeId} {s : Sem Value} {r : AV} {ob' : Ob}, c.callee = .builtin b → c.args.map ρ = #[v, u] → c.argTypes = #[t1, t2] → (∀ consts, builtin b #[t1, t2] o.type consts #[v, u] = (do pure (Next.value (← s)))) → YieldsW P ob γ G w s r ob' →
        YieldsM P ob γ G w (do let d ← resolve ρ c o.type; invoke d.target d.args) r ob':=fun h1 h2 h3 h4 h5=>by
      have:=YieldsM.ofW h5
      obtain ⟨v,γ',G',w',g1,g2⟩:=this
      refine ⟨v,γ',G',w',?_,g2⟩
      simp only [resolve,h1,Sem.run_bind,Sem.run_pure,Result.andThen_ok,invoke,h2,h3,h4]
      simpa only [Sem.run_bind,Sem.run_pure] using g1
    split at hs
    · rename_i hc
      split at hs
      · rename_i t u a x ht ha
        obtain ⟨va,vx,h1,h2,h3⟩:=args_map S ha
        have htt:=types_two ht
        split at hs
        · rename_i e uk hk hu
          obtain ⟨hq,hs⟩:=need_some hs
          simp only [Bool.and_eq_true] at hq
          obtain ⟨⟨⟨⟨huk,q1⟩,q2⟩,q3⟩,q4⟩:=hq
          obtain ⟨z,hz⟩:=Option.isSome_iff_exists.1 q3
          have hap:∀ {s:Sem Value},s=Builtin.append_ #[t,u] o.type #[va,vx]→∀ consts,builtin .append #[t,u] o.type consts #[va,vx]=(do pure (Next.value (← s))):=fun h _=>by rw [h]; rfl
          split at hs
          · rw [RepV_nils] at h2
            subst h2
            split at hs
            · rw [RepV_nils] at h3
              subst h3
              have:=pure0_some hs
              simp only [Prod.mk.injEq] at this
              obtain ⟨rfl,rfl⟩:=this
              refine ⟨_,rfl,.inl ⟨rfl,call2 hc h1 htt (hap rfl) ⟨_,γ,G,w,run_append_room hk hu huk (n:=0) (new:=[]) rfl (by simp [Builtin.firstCells]) (Nat.le_refl _) (w':=w) (fun a h=>by cases h) (fun _=>rfl),H,Trans.refl H,RepV_nils.2 rfl⟩⟩⟩
            · have:=pure0_some hs
              simp only [Prod.mk.injEq] at this
              obtain ⟨rfl,rfl⟩:=this
              simp only [RepV,RepC,AV.isAgg] at h3
              obtain ⟨cs3,⟨a3,cap3,rfl,_⟩,ho3⟩:=h3
              cases (ofCells_false ho3)
              refine ⟨_,rfl,.inl ⟨rfl,call2 hc h1 htt (hap rfl) ⟨_,γ,G,w,run_append_room hk hu huk (n:=0) (new:=[]) rfl (firstCells_none a3 _ _ _) (Nat.le_refl _) (w':=w) (fun a h=>by cases h) (fun _=>rfl),H,Trans.refl H,RepV_nils.2 rfl⟩⟩⟩
            · split at hs
              · obtain ⟨y,p1,p2,e1,e2,hp1,hp2⟩:=with_some hs hp
                obtain ⟨s,p3,p4,e3,e4,hp3,hp4⟩:=with_some e2 hp2
                obtain ⟨_,p5,p6,e5,e6,hp5,hp6⟩:=with_some e4 hp4
                obtain ⟨_,g0⟩:=owe_some e5 hp5
                have:=pure0_some e6
                simp only [Prod.mk.injEq] at this
                obtain ⟨rfl,rfl⟩:=this
                obtain ⟨he,he0⟩:=RepSeq_empty (G:=G) (w:=w) q4
                obtain ⟨ys,k1,k2,k3,k4⟩:=tail_sound (P:=P) H hh e1 hp1 h3 (ofO_some e3) ⟨[],he⟩
                obtain ⟨k5,k6⟩:=app_sound he k1 (ofO_some e3)
                have hy0:tailLen y=0:=by omega
                have hys:ys=[]:=by have:=RepT.len k1; rw [hy0] at this; simpa using this
                subst hys
                rw [hy0] at k2 k4
                refine ⟨_,rfl,.inl ⟨rfl,call2 hc h1 htt (hap rfl) ⟨_,γ,G,w,run_append_room hk hu huk (n:=0) (new:=[]) k2 (k4 w rfl) (Nat.le_refl _) (w':=w) (fun a h=>by cases h) (fun _=>rfl),H,Trans.refl H,RepV_nils.2 rfl⟩⟩⟩
              obtain ⟨y,p1,p2,e1,e2,hp1,hp2⟩:=with_some hs hp
              obtain ⟨s,p3,p4,e3,e4,hp3,hp4⟩:=with_some e2 hp2
              obtain ⟨_,p5,p6,e5,e6,hp5,hp6⟩:=with_some e4 hp4
              have g1:s.len * bytesOf P e≤maxBytes:=oweAll_some e5 hp5
              obtain ⟨l,rfl,rfl,hl⟩:=new e6
              exact ⟨_,rfl,.inr (.inl ⟨l,_,rfl,call2 hc h1 htt (hap rfl) (append_nil_sound H hh hk hu huk (blt_pos q1) (blt_pos q2) hz q4 e1 hp1 h3 (ofO_some e3) g1 hl)⟩)⟩
          · rename_i l n _
            split at hs
            · rename_i fz sz s hg
              split at hs
              · rw [RepV_nils] at h3
                subst h3
                obtain ⟨_,p1,p2,e1,e2,hp1,hp2⟩:=with_some hs hp
                have:=pure0_some e2
                simp only [Prod.mk.injEq] at this
                obtain ⟨rfl,rfl⟩:=this
                have hv:=RepV_one rfl rfl h2
                simp only [RepC] at hv
                obtain ⟨b,cap,g1,g2,_⟩:=hv
                simp only [List.cons.injEq,and_true] at g1
                refine ⟨_,rfl,.inl ⟨rfl,call2 hc h1 htt (hap rfl) ⟨va,γ,G,w,?_,H,Trans.refl H,h2⟩⟩⟩
                rw [g1]
                exact run_append_room hk hu huk (n:=0) (new:=[]) rfl (by simp [Builtin.firstCells]) (by omega) (w':=w) (fun a h=>rfl) (fun _=>rfl)
              · obtain ⟨_,p1,p2,e1,e2,hp1,hp2⟩:=with_some hs hp
                have:=pure0_some e2
                simp only [Prod.mk.injEq] at this
                obtain ⟨rfl,rfl⟩:=this
                simp only [RepV,RepC,AV.isAgg] at h3
                obtain ⟨cs3,⟨a3,cap3,rfl,_⟩,ho3⟩:=h3
                cases (ofCells_false ho3)
                have hv:=RepV_one rfl rfl h2
                simp only [RepC] at hv
                obtain ⟨b,cap,g1,g2,_⟩:=hv
                simp only [List.cons.injEq,and_true] at g1
                refine ⟨_,rfl,.inl ⟨rfl,call2 hc h1 htt (hap rfl) ⟨va,γ,G,w,?_,H,Trans.refl H,h2⟩⟩⟩
                rw [g1]
                exact run_append_room hk hu huk (n:=0) (new:=[]) rfl (firstCells_none a3 _ _ _) (by omega) (w':=w) (fun a h=>rfl) (fun _=>rfl)
              · obtain ⟨hsz,hs⟩:=need_some hs
                simp only [beq_iff_eq] at hsz
                subst hsz
                obtain ⟨y,p1,p2,e1,e2,hp1,hp2⟩:=with_some hs hp
                obtain ⟨s',p3,p4,e3,e4,hp3,hp4⟩:=with_some e2 hp2
                obtain ⟨_,p5,p6,e5,e6,hp5,hp6⟩:=with_some e4 hp4
                obtain ⟨g1,g2⟩:s.len=n∧s'.len * bytesOf P e≤maxBytes:=oweAll_some e5 hp5
                have:=pure0_some e6
                simp only [Prod.mk.injEq] at this
                obtain ⟨rfl,rfl⟩:=this
                exact ⟨_,rfl,.inr (.inl ⟨l,_,rfl,call2 hc h1 htt (hap rfl) (append_vec_sound H hh hk hu huk (blt_pos q1) (blt_pos q2) hz e1 hp1 h3 h2 (hh _ _ hg) (ofO_some e3) g2 g1)⟩)⟩
            · simp at hs
          · simp at hs
        · simp at hs
      · simp at hs
    · rename_i hc
      split at hs
      · rename_i t u l k ht ha
        obtain ⟨va,vx,h1,h2,h3⟩:=args_map S ha
        have htt:=types_two ht
        split at hs
        · rename_i kt e c0 es hk hg
          obtain ⟨hq,hs⟩:=need_some hs
          simp only [Bool.and_eq_true,fitT] at hq
          obtain ⟨es',p1,p2,e1,e2,hp1,hp2⟩:=with_some hs hp
          obtain ⟨rfl,rfl⟩:=done_some e2
          obtain ⟨om,ok,hom⟩:∃ om ok,c.args.toList=[om,ok]:=by
            cases hl:c.args.toList with
            | nil=>simp [hl] at ha
            | cons a r=>
              cases r with
              | nil=>simp [hl] at ha
              | cons b r=>
                cases r with
                | cons=>simp [hl] at ha
                | nil=>exact ⟨a,b,rfl⟩
          simp only [hom,List.map_cons,List.map_nil,List.cons.injEq,and_true] at ha
          have hargs:c.args.map ρ=#[ρ om,ρ ok]:=by apply Array.ext'; simp [hom]
          obtain ⟨G',w',g1,g2,g3⟩:=delete_sound (P:=P) (u:=u) (ty:=o.type) H S hk ha.1 ha.2 (hh _ _ hg) hq.1.2 hq.2 (delO_some e1 hp1)
          exact ⟨_,rfl,.inr (.inl ⟨l,_,rfl,call2 (s:=Builtin.delete_ #[t,u] o.type #[ρ om,ρ ok]) hc hargs htt (fun _=>rfl) ⟨_,_,G',w',g1,g2,g3,RepV_unit⟩⟩)⟩
        · simp at hs
      · simp at hs
    · simp at hs
  all_goals (simp [writeOp] at hs)
end g
end Go.Rx
end
noncomputable section
namespace Go.Rx
section g
variable {P:Program}
structure StOK (h₀:Ob) (γ₀:Hm) (G₀:Gh) (w₀:World) (σ:St) (γ:Hm) (G:Gh) (a:Act) (w:World):Prop where
  heap:HeapOK σ.ob γ G w
  slots:∀ t x,get σ.sl t=some x→∃ v,a.tmps[t]?=some v∧RepV σ.ob γ G w x v
  size:a.tmps.size=σ.n
  tr:Trans h₀ γ₀ G₀ w₀ σ.ob γ G w
  keep:∀ l o,get h₀ l=some o→l∈σ.keep
  defers:a.defers=σ.dfs.map (fun d=>{ target:=.collected (γ d).1,args:=#[] })
  dfr:∀ d∈σ.dfs,(∃ b,get σ.ob d=some (.dfr b))∧get h₀ d=none
  dfk:∀ d∈σ.dfs,d∈σ.keep
def Fits (h₀:Ob) (γ₀:Hm) (G₀:Gh) (w₀:World) (σ:St) (a:Act) (w:World):Prop:=∃ γ G,StOK h₀ γ₀ G₀ w₀ σ γ G a w
variable {h₀:Ob} {γ₀:Hm} {G₀:Gh} {w₀:World} {σ σ':St} {γ:Hm} {G:Gh} {a:Act} {w:World}
theorem StOK.stands (h:StOK h₀ γ₀ G₀ w₀ σ γ G a w):Stands σ.ob γ G w (opdA σ) a.eval:=by
  intro x
  cases x with
  | tmp t=>
    simp only [opdA]
    cases hg:get σ.sl t with
    | none=>trivial
    | some y=>
      obtain ⟨v,h1,h2⟩:=h.slots t y hg
      have:a.eval (.tmp t)=v:=by
        simp only [Act.eval]
        rw [Array.getD_eq_getD_getElem?,h1]; rfl
      rw [this]; exact h2
  | const v=>exact opd_const
  | func f=>
    refine RepV_cell (x:=.fn (.func f) [] []) (v:=.func (.func f) #[] #[]) rfl ?_
    simp only [RepC]
    exact ⟨[],[],rfl,rfl,rfl⟩
  | global g=>trivial
theorem Trans.then {ob ob' ob'':Ob} {γ γ' γ'':Hm} {G G' G'':Gh} {w w' w'':World} (h:Trans ob γ G w ob' γ' G' w') (k:Trans ob' γ' G' w' ob'' γ'' G'' w''):Trans ob γ G w ob'' γ'' G'' w'':=by
  refine ⟨h.keeps.trans k.keeps,Nat.le_trans h.size k.size,?_,?_,?_,?_,k.io.1.trans h.io.1,k.io.2.trans h.io.2⟩
  · intro b hb hno
    rw [k.frame b (Nat.lt_of_lt_of_le hb h.size),h.frame b hb hno]
    intro l o hl hv e
    rcases h.fresh l o hl hv with h1 | ⟨l₀,o₀,h1,hx,h2⟩
    · omega
    · exact hno l₀ o₀ h1 hx (by rw [h2,e])
  · intro b o h1 h2
    by_cases h3:G' b o
    · exact h.gnew b o h3 h2
    · rcases k.gnew b o h1 h3 with h4 | ⟨l,x,h4,hv,h5⟩
      · exact .inl (Nat.le_trans h.size h4)
      · rcases h.fresh l x h4 hv with h6 | ⟨l₀,o₀,h6,hx,h7⟩
        · exact .inl (by omega)
        · exact .inr ⟨l₀,o₀,h6,hx,by rw [h7,h5]⟩
  · intro l o hl
    obtain ⟨o',h1,h2⟩:=h.kept l o hl
    obtain ⟨o'',h3,h4⟩:=k.kept l o' h1
    refine ⟨o'',h3,?_⟩
    cases o<;>cases o'<;>simp only [keptM] at h2<;>cases o''<;>simp only [keptM] at h4 ⊢
    · rw [h4,h2]
    · refine ⟨by omega,fun e=>?_⟩
      rw [h4.2 (by omega),h2.2 (by omega)]
    · exact ⟨by omega,by rw [h4.2,h2.2]⟩
    · rw [h4,h2]
    · rw [h4,h2]
    · rw [h4,h2]
  · intro l o hl hv
    rcases k.fresh l o hl hv with h1 | ⟨l₀,o₀,h1,hx,h2⟩
    · exact .inl (Nat.le_trans h.size h1)
    · rcases h.fresh l₀ o₀ h1 hx with h3 | ⟨l₁,o₁,h3,hy,h4⟩
      · exact .inl (by omega)
      · exact .inr ⟨l₁,o₁,h3,hy,by rw [h4,h2]⟩
theorem dfr_home {ob ob':Ob} {γ γ':Hm} {G G':Gh} {w w':World} (h:Trans ob γ G w ob' γ' G' w') {d:Nat} (hd:∃ b,get ob d=some (.dfr b)):γ' d=γ d∧∃ b,get ob' d=some (.dfr b):=by
  obtain ⟨b,hd⟩:=hd
  obtain ⟨o',h1,h2⟩:=h.kept d _ hd
  cases o'<;>simp only [keptM] at h2
  exact ⟨h2,_,h1⟩
theorem dfr_kept {ob ob':Ob} {γ γ':Hm} {G G':Gh} {w w':World} (h:Trans ob γ G w ob' γ' G' w') {d:Nat} (hd:∃ b,get ob d=some (.dfr b)):∃ b,get ob' d=some (.dfr b):=(dfr_home h hd).2
theorem dfr_map {ob ob' : Ob} {γ γ' : Hm} {G G' : Gh} {w w' : World} (h : Trans ob γ G w ob' γ' G' w') {ds : List Nat} (hd : ∀ d ∈ ds, ∃ b, get ob d = some (.dfr b)) :
    ds.map (fun d=>({ target:=.collected (γ d).1,args:=#[] }:Deferred))=ds.map (fun d=>{ target:=.collected (γ' d).1,args:=#[] }):=
  List.map_congr_left fun d hm=>by rw [(dfr_home h (hd d hm)).1]
section ops
variable (hn:Hint) (K:FuncId) (O:Orc)
theorem effOp_sound (h : StOK h₀ γ₀ G₀ w₀ σ γ G a w) {o : Oper} {an : Option Ans} {e : Eff} {ps : List Prop} (hs : effOp P hn (Valid P) K σ.lvl o.dst an (opdA σ) σ.ob o.op = some (e, ps)) (hp : All ps) :
    match e with
    | .val r=>StepTo P (execOp a.eval o) w (Behind σ.ob γ G w σ.ob r)
    | .read _ r=>StepTo P (execOp a.eval o) w (Behind σ.ob γ G w σ.ob r)
    | .write T out h'=>(∀ n x,get h' n=some x→has T n=true∨get σ.ob n=none)→∃ r,out=.ret r∧StepTo P (execOp a.eval o) w (Behind σ.ob γ G w (merge T h' σ.ob) r):=by
  have S:=h.stands
  have hh:∀ l o',get (keepOnly (touch (opdA σ) σ.ob o.op) σ.ob) l=some o'→get σ.ob l=some o':=fun l o' hl=>(get_only hl).2
  unfold effOp at hs
  split at hs
  · rename_i r ps' hq
    simp only [Option.some.injEq,Prod.mk.injEq] at hs
    obtain ⟨rfl,rfl⟩:=hs
    exact .ofN (pureOp_sound h.heap S hq hp)
  · split at hs
    · rename_i r ps' hq
      simp only [Option.some.injEq,Prod.mk.injEq] at hs
      obtain ⟨rfl,rfl⟩:=hs
      exact .ofN (readOp_sound h.heap S hh hq hp)
    · split at hs
      · rename_i out h' ps' hq
        simp only [Option.some.injEq,Prod.mk.injEq] at hs
        obtain ⟨rfl,rfl⟩:=hs
        simp only
        intro hc
        split at hq
        · rename_i f args ts ho
          obtain ⟨r,h1,h2⟩:=callOp_sound (vas:=args.toList.map a.eval) h.heap hq hp (S f) (fun hs=>RepL_of S _ hs) hc
          refine ⟨r,h1,.ofC ho ?_⟩
          have:args.map a.eval=(args.toList.map a.eval).toArray:=by apply Array.ext'; simp
          rw [this]; exact h2
        · have hW := writeOp_sound h.heap S hh hq hp (fun l ⟨x, hx⟩ hl => by
            rcases hc l x hx with ht | hg
            · rw [get_keepOnly,ht] at hl; simpa using hl
            · exact hg)
          obtain ⟨r,rfl,⟨rfl,hY⟩ | ⟨l,o',rfl,hY⟩ | hY⟩:=hW
          · exact ⟨r,rfl,(StepTo.ofM hY).mono fun v w' hb=>hb.same merge_self⟩
          · refine ⟨r,rfl,(StepTo.ofM hY).mono fun v w' hb=>hb.same (merge_ins (hc l o' (by rw [get_ins,if_pos rfl])))⟩
          · exact ⟨r,rfl,StepTo.ofM (hY _ rfl hc)⟩
      · simp at hs
theorem put_slots (h : StOK h₀ γ₀ G₀ w₀ σ γ G a w) {d : Option Tmp} (hd : dstOK σ d = true) {ob' : Ob} {r : AV} {v : Value} {w' : World} (hb : Behind σ.ob γ G w ob' r v w') :
    Fits h₀ γ₀ G₀ w₀ { σ with sl:=put d r σ.sl,ob:=ob' } (a.put d v) w':=by
  obtain ⟨γ',G',h1,h2,h3⟩:=hb
  refine ⟨γ',G',h1,fun t x hx=>?_,?_,?_,h.keep,?_,fun d hd=>⟨dfr_kept h2 (h.dfr d hd).1,(h.dfr d hd).2⟩,h.dfk⟩
  · cases d with
    | none=>
      obtain ⟨u,g1,g2⟩:=h.slots t x hx
      exact ⟨u,g1,RepV.step h2 _ _ g2⟩
    | some d=>
      simp only [put] at hx
      rw [get_ins] at hx
      have hdn:d < a.tmps.size:=by
        rw [h.size]; simp only [dstOK] at hd; exact Nat.le_of_ble_eq_true hd
      by_cases e:d=t
      · subst e
        rw [if_pos rfl] at hx
        cases hx
        exact ⟨v,by simp only [Act.put]; exact set_same _ _ _ hdn,h3⟩
      · rw [if_neg e] at hx
        obtain ⟨u,g1,g2⟩:=h.slots t x hx
        exact ⟨u,by simp only [Act.put]; rw [set_other _ _ _ _ (fun h=>e h.symm)]; exact g1,RepV.step h2 _ _ g2⟩
  · cases d with
    | none=>exact h.size
    | some d=>simp only [Act.put,Array.size_setIfInBounds]; exact h.size
  · exact h.tr.then h2
  · have:(a.put d v).defers=a.defers:=by cases d<;>rfl
    rw [this,h.defers]
    exact dfr_map h2 fun d hd=>(h.dfr d hd).1
end ops
end g
end Go.Rx
end
noncomputable section
namespace Go.Rx
section g
variable {P:Program} {h₀:Ob} {γ₀:Hm} {G₀:Gh} {w₀:World} {σ σ':St} {γ:Hm} {G:Gh} {a:Act} {w:World} {hn:Hint} {K:FuncId} {O:Orc} {ro:Option Nat} {nn:Nat}
theorem nameV_some {key:Nat} {r r':AV} {ps:List Prop} (h:nameV O key r=some (r',ps)) (hp:All ps):r'=r:=by
  unfold nameV at h
  split at h
  · obtain ⟨rfl,h2⟩:=owe_some h hp; exact h2.symm
  · exact pure0_some h
theorem nameO_some {key:Nat} {h h':Ob} {ps:List Prop} (hs:nameO O key h=some (h',ps)) (hp:All ps):SameO h h':=by
  unfold nameO at hs
  split at hs
  · rename_i l o' _
    split at hs
    · rename_i o hg
      obtain ⟨_,hs⟩:=need_some hs
      obtain ⟨rfl,h2⟩:=owe_some hs hp
      subst h2
      intro j
      rw [get_ins]; split
      · rename_i e; subst e; exact hg.symm
      · rfl
    · simp at hs
  · rw [pure0_some hs]; exact fun _=>rfl
theorem merge_same {T:List Nat} {h h' ob:Ob} (hs:SameO h h'):SameO (merge T h ob) (merge T h' ob):=fun j=>by
  rw [get_merge,get_merge,hs j]
theorem all_dom {h:Ob} {p:Nat→Bool} (ha:(dom h).all p=true) {n:Nat} {x:AObj} (hx:get h n=some x):p n=true:=
  List.all_eq_true.1 ha n ((mem_dom h n).2 ⟨x,hx⟩)
theorem applyEff_sound (h : StOK h₀ γ₀ G₀ w₀ σ γ G a w) {o : Oper} {key : Nat} {e : Eff} {ps ps' : List Prop} {s : SR} (he : effOp P hn (Valid P) K σ.lvl o.dst (get O.an key) (opdA σ) σ.ob o.op = some (e, ps)) (hp : All ps)
    (hs:applyEff O key o.dst σ e=some (s,ps')) (hp':All ps'):∃ σ' lab,s=.next σ' lab∧StepTo P (execOp a.eval o) w (fun v w'=>Fits h₀ γ₀ G₀ w₀ σ' (a.put o.dst v) w'):=by
  have key:=effOp_sound hn K h he hp
  cases e with
  | val r=>
    simp only [applyEff] at hs
    obtain ⟨r',p1,p2,e1,e2,hp1,hp2⟩:=with_some hs hp'
    have:=nameV_some e1 hp1
    subst this
    obtain ⟨hc,e2⟩:=need_some e2
    exact ⟨_,_,pure0_some e2,key.mono fun v w' hb=>put_slots h hc hb⟩
  | read T r=>
    simp only [applyEff] at hs
    obtain ⟨r',p1,p2,e1,e2,hp1,hp2⟩:=with_some hs hp'
    have:=nameV_some e1 hp1
    subst this
    obtain ⟨hc,e2⟩:=need_some e2
    exact ⟨_,_,pure0_some e2,key.mono fun v w' hb=>put_slots h hc hb⟩
  | write T out h'=>
    simp only [applyEff] at hs
    obtain ⟨h1,p1,p2,e1,e2,hp1,hp2⟩:=with_some hs hp'
    have hsame:=nameO_some e1 hp1
    obtain ⟨hc,e2⟩:=need_some e2
    simp only [Bool.and_eq_true] at hc
    obtain ⟨r,rfl,hst⟩:=key (fun n x hx=>by
      have:=all_dom hc.1 (n:=n) (x:=x) (by rw [hsame n]; exact hx)
      simp only [Bool.or_eq_true,Bool.not_eq_true'] at this
      rcases this with h | h
      · exact .inl h
      · exact .inr ((not_has_dom _ n).1 h))
    simp only at e2
    obtain ⟨r',p3,p4,e3,e4,hp3,hp4⟩:=with_some e2 hp2
    have:=nameV_some e3 hp3
    subst this
    obtain ⟨hc2,e4⟩:=need_some e4
    exact ⟨_,_,pure0_some e4,hst.mono fun v w' hb=>put_slots h hc2 (hb.same (merge_same hsame))⟩
theorem wanted_sound (h:StOK h₀ γ₀ G₀ w₀ σ γ G a w) {ops:Array Oper} {o:Oper} {b:Bool} (hs:wantedA ops σ o=some b):Region.wanted o (yielded ops a.tmps)=b:=by
  unfold wantedA at hs
  unfold Region.wanted
  split at hs
  · rename_i hg; rw [hg]; simpa using hs
  · rename_i j want hg
    rw [hg]
    simp only
    split at hs
    · rename_i t _ _ _ _ _ hj
      split at hs
      · rename_i x hx
        obtain ⟨v,h1,h2⟩:=h.slots t _ hx
        rw [RepV_b] at h2
        subst h2
        have hy:yielded ops a.tmps j=some x:=by simp only [yielded,hj,Option.bind_some,h1]
        rw [hy]
        simp only [Option.some.injEq] at hs
        rw [← hs]
        cases x<;>cases want<;>rfl
      · rename_i hx
        obtain ⟨v,h1,h2⟩:=h.slots t _ hx
        obtain ⟨vs,rfl,h3⟩:=h2
        have hy:yielded ops a.tmps j=none:=by simp only [yielded,hj,Option.bind_some,h1]
        rw [hy]
        simp only [Option.some.injEq] at hs
        rw [← hs]; rfl
      · simp at hs
    · rename_i hno
      simp only [Option.some.injEq] at hs
      have hy:yielded ops a.tmps j=none:=by
        unfold yielded
        cases hj:ops[j]? with
        | none=>rfl
        | some q=>
          obtain ⟨dst,op,ty,pos,af,gd⟩:=q
          cases dst with
          | none=>rfl
          | some t=>exact absurd hj (hno _ _ _ _ _ _)
      rw [hy,← hs]; rfl
theorem stepA_sound (h : StOK h₀ γ₀ G₀ w₀ σ γ G a w) {ops : Array Oper} {o : Oper} {key : Nat} {s : SR} {ps : List Prop} (hs : stepA P hn (Valid P) K O key ops o σ = some (s, ps)) (hp : All ps) :
    ∃ σ' lab,s=.next σ' lab∧∀ (next:Act→World→Prop) (Q:Exit→Act→World→Prop),(∀ a' w',Fits h₀ γ₀ G₀ w₀ σ' a' w'→next a' w')→
      if Region.wanted o (yielded ops a.tmps) then o.wpIn (FW ro) nn P a w next Q else ((∀ f,o.about P w a.eval=some f→(FW ro).fn f)∧next (a.put o.dst undef) w):=by
  unfold stepA at hs
  split at hs
  · rename_i hw
    obtain ⟨e,p1,p2,e1,e2,hp1,hp2⟩:=with_some hs hp
    obtain ⟨σ',lab,h1,h2⟩:=applyEff_sound h e1 hp1 e2 hp2
    refine ⟨σ',lab,h1,fun next Q hn=>?_⟩
    rw [wanted_sound h hw,if_pos rfl]
    exact h2.wp fun v w' hf=>hn _ _ hf
  · rename_i hw
    obtain ⟨hd,hs⟩:=need_some hs
    refine ⟨_,_,pure0_some hs,fun next Q hn=>?_⟩
    rw [wanted_sound h hw,if_neg (by simp)]
    refine ⟨fun _ _=>trivial,?_⟩
    exact hn _ _ (put_slots h hd ⟨γ,G,h.heap,Trans.refl h.heap,RepV_unit⟩)
  · simp at hs
theorem opsA_normal {C:CallR} {ops:Array Oper}:∀ (l:List Oper) (key:Nat) (σ:St) (e:Ex) (σ':St) (labs:List (List Nat)) (ps:List Prop),opsA P hn C K O ops key l σ=some ((e,σ',labs),ps)→e=.normal
  | [],key,σ,e,σ',labs,ps,hs=>by
    have:=pure0_some hs
    simp only [Prod.mk.injEq] at this
    exact this.1
  | o::l,key,σ,e,σ',labs,ps,hs=>by
    simp only [opsA] at hs
    unfold R.with at hs
    split at hs
    · rename_i s p1 _
      cases s with
      | pan=>simp at hs
      | next σ1 lab=>
        simp only at hs
        split at hs
        · rename_i b qs hb
          split at hb
          · rename_i r p2 hr
            obtain ⟨e',σ2,labs'⟩:=r
            have h1:=opsA_normal l _ _ _ _ _ _ hr
            subst h1
            simp only [pure0] at hb
            simp only [Option.some.injEq,Prod.mk.injEq] at hs hb
            obtain ⟨hb1,_⟩:=hb
            obtain ⟨hs1,_⟩:=hs
            rw [← hb1] at hs1
            simp only [Prod.mk.injEq] at hs1
            exact hs1.1.symm
          · simp at hb
        · simp at hs
    · simp at hs
theorem opsA_sound {ops : Array Oper} {Q : Exit → Act → World → Prop} : ∀ (l : List Oper) (k key : Nat) (σ : St) (a : Act) (w : World) (e : Ex) (σ' : St) (labs : List (List Nat)) (ps : List Prop), (∀ j, l[j]? = ops[k + j]?) →
    opsA P hn (Valid P) K O ops key l σ=some ((e,σ',labs),ps)→All ps→Fits h₀ γ₀ G₀ w₀ σ a w→e=.normal∧((∀ a' w',Fits h₀ γ₀ G₀ w₀ σ' a' w'→Q .normal a' w')→wpOpsIn (FW ro) nn P ops Q (List.range' k l.length) a w)
  | [],k,key,σ,a,w,e,σ',labs,ps,hl,hs,hp,hf=>by
    have:=pure0_some hs
    simp only [Prod.mk.injEq] at this
    obtain ⟨rfl,rfl,_⟩:=this
    exact ⟨rfl,fun hq=>hq _ _ hf⟩
  | o::l,k,key,σ,a,w,e,σ',labs,ps,hl,hs,hp,hf=>by
    obtain ⟨γ,G,h⟩:=hf
    simp only [opsA] at hs
    obtain ⟨s,p1,p2,e1,e2,hp1,hp2⟩:=with_some hs hp
    obtain ⟨σ1,lab,rfl,hstep⟩:=stepA_sound h e1 hp1
    simp only at e2
    obtain ⟨⟨e',σ2,labs'⟩,p3,p4,e3,e4,hp3,hp4⟩:=with_some e2 hp2
    have:=pure0_some e4
    simp only [Prod.mk.injEq] at this
    obtain ⟨rfl,rfl,_⟩:=this
    have h0:ops[k]?=some o:=by simpa using (hl 0).symm
    have hl':∀ j,l[j]?=ops[k + 1 + j]?:=fun j=>by have:=hl (j + 1); simpa [Nat.add_assoc,Nat.add_comm 1 j] using this
    have rest:∀ a' w',Fits h₀ γ₀ G₀ w₀ σ1 a' w'→e=.normal∧((∀ a' w',Fits h₀ γ₀ G₀ w₀ σ' a' w'→Q .normal a' w')→wpOpsIn (FW ro) nn P ops Q (List.range' (k + 1) l.length) a' w'):=fun a' w' hf'=>
      opsA_sound l (k + 1) (key + 1) σ1 a' w' e σ' labs' p3 hl' e3 hp3 hf'
    have hnorm:e=.normal:=opsA_normal l _ _ _ _ _ _ e3
    refine ⟨hnorm,fun hq=>?_⟩
    simp only [List.length_cons,List.range'_succ,wpOpsIn,h0]
    have:=hstep (wpOpsIn (FW ro) nn P ops Q (List.range' (k + 1) l.length)) Q (fun a' w' hf'=>(rest a' w' hf').2 hq)
    split
    · rename_i hw; rw [if_pos hw] at this; exact this
    · rename_i hw; rw [if_neg hw] at this; exact this
end g
end Go.Rx
end
noncomputable section
namespace Go.Rx
section g
variable {P:Program} {h₀:Ob} {γ₀:Hm} {G₀:Gh} {w₀:World} {hn:Hint} {K:FuncId} {ro:Option Nat} {nn:Nat}
theorem gc_sound {live:List Nat} {σ σ':St} {a:Act} {w:World} (hs:gc live σ=some σ') (h:Fits h₀ γ₀ G₀ w₀ σ a w):Fits h₀ γ₀ G₀ w₀ σ' a w:=by
  obtain ⟨γ,G,h⟩:=h
  unfold gc at hs
  simp only at hs
  split at hs
  · rename_i hc
    simp only [Bool.and_eq_true] at hc
    simp only [Option.some.injEq] at hs
    subst hs
    obtain ⟨hcn,hco⟩:=closedB_some hc.1
    have hsub:∀ l o,get (keepOnly (reach σ.ob 500 (AV.namesL ((keepOnly live σ.sl).map (·.2))++σ.keep) []) σ.ob) l=some o→get σ.ob l=some o:=fun l o hl=>(get_only hl).2
    refine ⟨γ,G,h.heap.sub hsub hco,fun t x hx=>?_,h.size,h.tr.drop hsub fun l o hl=>?_,h.keep,h.defers,fun d hd=>?_,h.dfk⟩
    · have hx' : get σ.sl t = some x := by
        have:=hx
        rw [get_keepOnly] at this
        cases ht:has live t<;>simp [ht] at this
        exact this
      obtain ⟨v,h1,h2⟩:=h.slots t x hx'
      refine ⟨v,h1,RepV_sub hsub (fun n hn=>hcn n ?_) h2⟩
      have hmem:∀ {h:Sl} {l:Nat} {o:AV},get h l=some o→(l,o)∈h:=by
        intro h l o
        induction h with
        | nil=>intro hg; simp [get_nil,get_cons] at hg
        | cons e r ih=>
          obtain ⟨a,y⟩:=e
          intro hg
          simp only [get_nil,get_cons] at hg
          split at hg
          · rename_i e; subst e; cases hg; simp
          · exact List.mem_cons_of_mem _ (ih hg)
      exact namesL_mem.2 ⟨x,List.mem_map.2 ⟨(t,x),hmem hx,rfl⟩,hn⟩
    · have hk:=h.keep l o hl
      have:has (dom (keepOnly (reach σ.ob 500 (AV.namesL ((keepOnly live σ.sl).map (·.2))++σ.keep) []) σ.ob)) l=true:=List.all_eq_true.1 hc.2 l hk
      exact (has_dom _ l).1 this
    · obtain ⟨⟨b,hb⟩,h2⟩:=h.dfr d hd
      have:has (dom (keepOnly (reach σ.ob 500 (AV.namesL ((keepOnly live σ.sl).map (·.2))++σ.keep) []) σ.ob)) d=true:=List.all_eq_true.1 hc.2 d (h.dfk d hd)
      obtain ⟨x,hx⟩:=(has_dom _ d).1 this
      have:=hsub d x hx
      rw [hb] at this
      cases this
      exact ⟨⟨b,hx⟩,h2⟩
  · simp at hs
theorem stepR_scope {P : Program} {b : Frame} {a : Act} {k : List Item} {cs : List Frame} {w : World} {c : Code} :
    step P (lone (b.atR a (.code (.scope c)::k)) cs w)=.next (lone (b.atR a (.code c::.inScope c::k)) cs w):=
  step_lone_go (by simp [stepG,stepG.exec,Frame.atR])
theorem stepR_inScope {P : Program} {b : Frame} {a : Act} {k : List Item} {cs : List Frame} {w : World} {c : Code} :
    step P (lone (b.atR a (.inScope c::k)) cs w)=.next (lone (b.atR a k) cs w):=
  step_lone_go (by simp [stepG,stepG.exec,Frame.atR])
theorem wpIn_scope_straight {F:Fence} {n:Nat} {P:Program} {Q:Exit→Act→World→Prop} {a:Act} {w:World} {c:Code} (h:c.wpIn F n P (Exit.noGoto Q) a w):(Code.scope c).wpIn F n P Q a w:=by
  intro b k cs hro hb hr
  obtain ⟨e,a₁,w₁,hq,harr⟩:=h b (.inScope c::k) cs hro hb hr
  have h1:StepsIn (Machine.fenced P F) P (lone (b.atR a (.code (.scope c)::k)) cs w) (lone (b.atR a (.code c::.inScope c::k)) cs w):=.one (fenced_calm hb hr rfl) stepR_scope
  cases e with
  | normal=>exact ⟨.normal,a₁,w₁,hq,.of_steps h1 (StepsIn.trans harr (.one (fenced_calm hb hr rfl) stepR_inScope))⟩
  | exit id=>exact ⟨.exit id,a₁,w₁,hq,.of_steps h1 ⟨fun k' hk=>harr.1 k' (by simp [exitTo,hk]),fun hr' hk=>harr.2 hr' (by simp [exitTo,hk])⟩⟩
  | goto l=>exact hq.elim
  | ret=>exact ⟨_,a₁,w₁,hq,.of_steps h1 harr⟩
  | panic ch=>exact ⟨_,a₁,w₁,hq,.of_steps h1 harr⟩
  | outgrown=>exact ⟨_,a₁,w₁,hq,.of_steps h1 harr⟩
def exOf:Ex→Exit
  | .normal=>.normal
  | .exit i=>.exit i
  | .goto l=>.goto l
  | .ret=>.ret
  | .pan v=>.panic []
def DrawOK (P:Program) (hn:Hint) (K:FuncId):Prop:=∀ (O:Orc) (id:Nat) (ops:Array Oper) (σ σ':St) (e:Ex) (ps:List Prop),regionA P hn (Valid P) K O id ops true σ=some ((e,σ'),ps)→All ps→
  ∀ (h₀:Ob) (γ₀:Hm) (G₀:Gh) (w₀:World) (a:Act) (w:World) (Q:Exit→Act→World→Prop),Fits h₀ γ₀ G₀ w₀ σ a w→(∀ a' w',Fits h₀ γ₀ G₀ w₀ σ' a' w'→Q (exOf e) a' w')→∀ (ro:Option Nat) (nn:Nat),(Code.region id ops true).wpIn (FW ro) nn P Q a w
theorem region_sound {O : Orc} {id : Nat} {ops : Array Oper} {σ σ' : St} {e : Ex} {ps : List Prop} (hs : regionA P hn (Valid P) K O id ops false σ = some ((e, σ'), ps)) (hp : All ps) {a : Act} {w : World} {Q : Exit → Act → World → Prop} (hf : Fits h₀ γ₀ G₀ w₀ σ a w)
    (hq:∀ a' w',Fits h₀ γ₀ G₀ w₀ σ' a' w'→Q (exOf e) a' w'):(Code.region id ops false).wpIn (FW ro) nn P Q a w:=by
  unfold regionA at hs
  obtain ⟨⟨e1,σ1,labs⟩,p1,p2,g1,g2,hp1,hp2⟩:=with_some hs hp
  have hnorm:=opsA_normal _ _ _ _ _ _ _ g1
  subst hnorm
  simp only at g2
  obtain ⟨_,g2⟩:=need_some g2
  split at g2
  · rename_i σ2 hgc
    have:=pure0_some g2
    simp only [Prod.mk.injEq] at this
    obtain ⟨rfl,rfl⟩:=this
    refine wpIn_region ?_
    have:=(opsA_sound (ro:=ro) (nn:=nn) (Q:=Q) ops.toList 0 _ _ a w _ _ _ _ (by simp) g1 hp1 hf).2 (fun a' w' hf'=>hq _ _ (gc_sound hgc hf'))
    rw [List.range_eq_range']
    simpa using this
  · simp at g2
theorem with_some0 {α β:Type} {x:R α} {f:α→R β} {b:β} {qs:List Prop} (h:x.with f=some (b,qs)):∃ a p q,x=some (a,p)∧f a=some (b,q):=by
  unfold R.with at h
  split at h
  · rename_i a p
    split at h
    · rename_i b' q hf
      simp only [Option.some.injEq,Prod.mk.injEq] at h
      obtain ⟨rfl,rfl⟩:=h
      exact ⟨a,p,q,rfl,hf⟩
    · simp at h
  · simp at h
theorem need_some0 {α:Type} {b:Bool} {x:R α} {y:α} {ps:List Prop} (h:need b x=some (y,ps)):x=some (y,ps):=by
  cases b
  · simp [need] at h
  · exact h
theorem stepA_rnd {C:CallR} {O:Orc} {key:Nat} {ops:Array Oper} {o:Oper} {σ σ':St} {lab:List Nat} {ps:List Prop} (h:stepA P hn C K O key ops o σ=some (.next σ' lab,ps)):σ'.rnd=σ.rnd:=by
  unfold stepA at h
  split at h
  · obtain ⟨e,p,q,h1,h2⟩:=with_some0 h
    cases e<;>simp only [applyEff] at h2
    · obtain ⟨r,p,q,h3,h4⟩:=with_some0 h2
      have:=need_some0 h4
      simp only [pure0,Option.some.injEq,Prod.mk.injEq,SR.next.injEq] at this
      rw [← this.1.1]
    · obtain ⟨r,p,q,h3,h4⟩:=with_some0 h2
      have:=need_some0 h4
      simp only [pure0,Option.some.injEq,Prod.mk.injEq,SR.next.injEq] at this
      rw [← this.1.1]
    · obtain ⟨r,p,q,h3,h4⟩:=with_some0 h2
      have h4:=need_some0 h4
      split at h4
      · obtain ⟨r,p,q,h3,h4⟩:=with_some0 h4
        have:=need_some0 h4
        simp only [pure0,Option.some.injEq,Prod.mk.injEq,SR.next.injEq] at this
        rw [← this.1.1]
      · simp at h4
  · have:=need_some0 h
    simp only [pure0,Option.some.injEq,Prod.mk.injEq,SR.next.injEq] at this
    rw [← this.1.1]
  · simp at h
theorem opsA_rnd {C:CallR} {O:Orc} {ops:Array Oper}:∀ (l:List Oper) (key:Nat) (σ:St) (e:Ex) (σ':St) (labs:List (List Nat)) (ps:List Prop),opsA P hn C K O ops key l σ=some ((e,σ',labs),ps)→σ'.rnd=σ.rnd
  | [],key,σ,e,σ',labs,ps,h=>by
    simp only [opsA,pure0,Option.some.injEq,Prod.mk.injEq] at h
    rw [← h.1.2.1]
  | o::l,key,σ,e,σ',labs,ps,h=>by
    simp only [opsA] at h
    obtain ⟨s,p,q,h1,h2⟩:=with_some0 h
    cases s with
    | pan=>simp at h2
    | next σ1 lab=>
      simp only at h2
      obtain ⟨⟨e',σ2,labs'⟩,p',q',h3,h4⟩:=with_some0 h2
      simp only [pure0,Option.some.injEq,Prod.mk.injEq] at h4
      rw [← h4.1.2.1,opsA_rnd l _ _ _ _ _ _ h3,stepA_rnd h1]
theorem codeO_rnd {C:CallR}:∀ (c:Code) (O:Orc) (σ σ':St) (e:Ex) (ps:List Prop),codeO P hn C K c O σ=some ((e,σ'),ps)→σ'.rnd=σ.rnd
  | .skip,O,σ,σ',e,ps,h=>by simp only [codeO,pure0,Option.some.injEq,Prod.mk.injEq] at h; rw [← h.1.2]
  | .label _,O,σ,σ',e,ps,h=>by simp only [codeO,pure0,Option.some.injEq,Prod.mk.injEq] at h; rw [← h.1.2]
  | .region id ops draw,O,σ,σ',e,ps,h=>by
    simp only [codeO,regionA] at h
    obtain ⟨⟨e1,σ1,labs⟩,p,q,h1,h2⟩:=with_some0 h
    cases e1<;>simp only at h2<;>try (simp at h2; done)
    have h2:=need_some0 h2
    split at h2
    · rename_i σ2 hgc
      simp only [pure0,Option.some.injEq,Prod.mk.injEq] at h2
      rw [← h2.1.2,← opsA_rnd _ _ _ _ _ _ _ h1]
      unfold gc at hgc
      simp only at hgc
      split at hgc
      · simp only [Option.some.injEq] at hgc; rw [← hgc]
      · simp at hgc
    · simp at h2
  | .seq a b,O,σ,σ',e,ps,h=>by
    simp only [codeO] at h
    obtain ⟨⟨e1,σ1⟩,p,q,h1,h2⟩:=with_some0 h
    cases e1<;>simp only at h2
    · rw [codeO_rnd b O σ1 σ' e q h2,codeO_rnd a O σ σ1 _ p h1]
    all_goals
      simp only [pure0,Option.some.injEq,Prod.mk.injEq] at h2
      rw [← h2.1.2,codeO_rnd a O σ σ1 _ p h1]
  | .cond c a b,O,σ,σ',e,ps,h=>by
    simp only [codeO] at h
    split at h
    · exact codeO_rnd a O σ σ' e ps h
    · exact codeO_rnd b O σ σ' e ps h
    · simp at h
  | .block id c,O,σ,σ',e,ps,h=>by
    simp only [codeO] at h
    obtain ⟨⟨e1,σ1⟩,p,q,h1,h2⟩:=with_some0 h
    have key:σ'=σ1:=by
      cases e1<;>simp only at h2
      case exit i=>split at h2<;>(simp only [pure0,Option.some.injEq,Prod.mk.injEq] at h2; exact h2.1.2.symm)
      all_goals (simp only [pure0,Option.some.injEq,Prod.mk.injEq] at h2; exact h2.1.2.symm)
    rw [key,codeO_rnd c O σ σ1 _ p h1]
  | .loop c,O,σ,σ',e,ps,h=>by
    simp only [codeO] at h
    split at h
    · rename_i e1 σ1 hlo
      obtain ⟨hc,h⟩:beqB σ1.rnd σ.rnd=true∧_:=by
        unfold need at h
        split at h
        · exact ⟨by assumption,h⟩
        · simp at h
      simp only [Option.some.injEq,Prod.mk.injEq] at h
      rw [← h.1.2]
      revert hc; cases σ1.rnd<;>cases σ.rnd<;>simp [beqB]
    · simp at h
  | .exit id,O,σ,σ',e,ps,h=>by simp only [codeO,pure0,Option.some.injEq,Prod.mk.injEq] at h; rw [← h.1.2]
  | .goto l,O,σ,σ',e,ps,h=>by simp only [codeO,pure0,Option.some.injEq,Prod.mk.injEq] at h; rw [← h.1.2]
  | .ret,O,σ,σ',e,ps,h=>by simp only [codeO,pure0,Option.some.injEq,Prod.mk.injEq] at h; rw [← h.1.2]
  | .scope c,O,σ,σ',e,ps,h=>by
    simp only [codeO] at h
    obtain ⟨⟨e1,σ1⟩,p,q,h1,h2⟩:=with_some0 h
    cases e1<;>simp only at h2<;>try (simp at h2; done)
    all_goals
      simp only [pure0,Option.some.injEq,Prod.mk.injEq] at h2
      rw [← h2.1.2,codeO_rnd c O σ σ1 _ p h1]
  | .rangeFunc g pa as0 bd,O,σ,σ',e,ps,h=>by
    simp only [codeO,rangeA] at h
    repeat' split at h
    all_goals first
      | (simp at h; done)
      | skip
    all_goals
      have h:=need_some0 h
      first
        | (simp at h; done)
        | (simp only [Option.some.injEq,Prod.mk.injEq] at h; rw [← h.1.2])
  | .refuse ..,O,σ,σ',e,ps,h=>by simp [codeO] at h
def RangeOK (P:Program) (hn:Hint) (K:FuncId):Prop:=∀ (O:Orc) (g:Operand) (ps:Array Tmp) (as0 bd:Code) (σ σ':St) (e:Ex) (qs:List Prop),rangeA P (Valid P) K O g ps as0 bd σ=some ((e,σ'),qs)→All qs→
  ∀ (h₀:Ob) (γ₀:Hm) (G₀:Gh) (w₀:World) (a:Act) (w:World) (Q:Exit→Act→World→Prop),Fits h₀ γ₀ G₀ w₀ σ a w→(∀ a' w',Fits h₀ γ₀ G₀ w₀ σ' a' w'→Q (exOf e) a' w')→∀ (nn:Nat),(Code.rangeFunc g ps as0 bd).wpIn (FW none) nn P Q a w
theorem codeO_sound (hD : DrawOK P hn K) (hR : RangeOK P hn K) (ro : Option Nat) (nn : Nat) : ∀ (c : Code) (O : Orc) (σ σ' : St) (e : Ex) (ps : List Prop), codeO P hn (Valid P) K c O σ = some ((e, σ'), ps) → All ps → (σ.rnd = false → ro = none) →
    ∀ (a:Act) (w:World) (Q:Exit→Act→World→Prop),Fits h₀ γ₀ G₀ w₀ σ a w→(∀ a' w',Fits h₀ γ₀ G₀ w₀ σ' a' w'→Q (exOf e) a' w')→c.wpIn (FW ro) nn P Q a w
  | .skip,O,σ,σ',e,ps,hs,hp,hr,a,w,Q,hf,hq=>by
    simp only [codeO] at hs
    have:=pure0_some hs
    simp only [Prod.mk.injEq] at this
    obtain ⟨rfl,rfl⟩:=this
    exact wpIn_skip (hq _ _ hf)
  | .label _,O,σ,σ',e,ps,hs,hp,hr,a,w,Q,hf,hq=>by
    simp only [codeO] at hs
    have:=pure0_some hs
    simp only [Prod.mk.injEq] at this
    obtain ⟨rfl,rfl⟩:=this
    exact wpIn_label (hq _ _ hf)
  | .region id ops draw,O,σ,σ',e,ps,hs,hp,hr,a,w,Q,hf,hq=>by
    simp only [codeO] at hs
    cases draw with
    | false=>exact region_sound hs hp hf hq
    | true=>exact hD O id ops σ σ' e ps hs hp _ _ _ _ a w Q hf hq _ _
  | .seq x y,O,σ,σ',e,ps,hs,hp,hr,a,w,Q,hf,hq=>by
    simp only [codeO] at hs
    obtain ⟨⟨e1,σ1⟩,p1,p2,g1,g2,hp1,hp2⟩:=with_some hs hp
    refine wpIn_seq (codeO_sound hD hR ro nn x O σ σ1 e1 p1 g1 hp1 hr a w _ hf fun a' w' hf'=>?_)
    cases e1 with
    | normal=>exact codeO_sound hD hR ro nn y O σ1 σ' e p2 g2 hp2 (by rw [codeO_rnd x O σ σ1 _ p1 g1]; exact hr) a' w' Q hf' hq
    | _=>
      have:=pure0_some g2
      simp only [Prod.mk.injEq] at this
      obtain ⟨rfl,rfl⟩:=this
      exact hq _ _ hf'
  | .cond c x y,O,σ,σ',e,ps,hs,hp,hr,a,w,Q,hf,hq=>by
    simp only [codeO] at hs
    obtain ⟨γ,G,h⟩:=hf
    have hc:=h.stands c
    split at hs
    · rename_i hx
      rw [hx,RepV_b] at hc
      exact wpIn_cond_true hc (codeO_sound hD hR ro nn x O σ σ' e ps hs hp hr a w Q ⟨γ,G,h⟩ hq)
    · rename_i hx
      rw [hx,RepV_b] at hc
      exact wpIn_cond_false hc (codeO_sound hD hR ro nn y O σ σ' e ps hs hp hr a w Q ⟨γ,G,h⟩ hq)
    · simp at hs
  | .block id c,O,σ,σ',e,ps,hs,hp,hr,a,w,Q,hf,hq=>by
    simp only [codeO] at hs
    obtain ⟨⟨e1,σ1⟩,p1,p2,g1,g2,hp1,hp2⟩:=with_some hs hp
    refine wpIn_block (codeO_sound hD hR ro nn c O σ σ1 e1 p1 g1 hp1 hr a w _ hf fun a' w' hf'=>?_)
    cases e1 with
    | exit i=>
      simp only at g2
      split at g2
      · rename_i hi
        have:=pure0_some g2
        simp only [Prod.mk.injEq] at this
        obtain ⟨rfl,rfl⟩:=this
        simp only [exOf,Exit.inBlock]
        rw [if_pos (Nat.eq_of_beq_eq_true hi)]
        exact hq _ _ hf'
      · rename_i hi
        have:=pure0_some g2
        simp only [Prod.mk.injEq] at this
        obtain ⟨rfl,rfl⟩:=this
        simp only [exOf,Exit.inBlock]
        rw [if_neg (fun e=>by subst e; rw [Nat.beq_refl] at hi; cases hi)]
        exact hq _ _ hf'
    | _=>
      have:=pure0_some g2
      simp only [Prod.mk.injEq] at this
      obtain ⟨rfl,rfl⟩:=this
      exact hq _ _ hf'
  | .loop c,O,σ,σ',e,ps,hs,hp,hr,a,w,Q,hf,hq=>by
    simp only [codeO] at hs
    split at hs
    · rename_i e1 σ1 hlo
      obtain ⟨_,hs⟩:=need_some hs
      simp only [Option.some.injEq,Prod.mk.injEq] at hs
      obtain ⟨⟨rfl,rfl⟩,rfl⟩:=hs
      obtain ⟨n,hL⟩:LoopP (codeO P hn (Valid P) K c) σ e1 σ1:=hp
      refine wpIn_loop_rounds n ?_
      have key:∀ (n:Nat) (σ:St) (a:Act) (w:World),(σ.rnd=false→ro=none)→LoopN (codeO P hn (Valid P) K c) n σ e1 σ1→Fits h₀ γ₀ G₀ w₀ σ a w→Code.roundsIn (FW ro) nn P c Q n a w:=by
        intro n
        induction n with
        | zero=>intro σ a w _ h; exact h.elim
        | succ n ih=>
          intro σ a w hr h hf
          obtain ⟨O',e2,σ2,ps2,g1,g2,g3⟩:=h
          rw [roundsIn_succ]
          refine codeO_sound hD hR ro nn c O' σ σ2 e2 ps2 g1 g2 hr a w _ hf fun a' w' hf'=>?_
          cases e2 with
          | normal=>exact ih σ2 a' w' (by rw [codeO_rnd c O' σ σ2 _ ps2 g1]; exact hr) g3 hf'
          | _=>
            obtain ⟨rfl,rfl⟩:=g3
            exact hq _ _ hf'
      exact key n σ a w hr hL hf
    · simp at hs
  | .exit id,O,σ,σ',e,ps,hs,hp,hr,a,w,Q,hf,hq=>by
    simp only [codeO] at hs
    have:=pure0_some hs
    simp only [Prod.mk.injEq] at this
    obtain ⟨rfl,rfl⟩:=this
    exact wpIn_exit (hq _ _ hf)
  | .goto l,O,σ,σ',e,ps,hs,hp,hr,a,w,Q,hf,hq=>by
    simp only [codeO] at hs
    have:=pure0_some hs
    simp only [Prod.mk.injEq] at this
    obtain ⟨rfl,rfl⟩:=this
    exact wpIn_goto (hq _ _ hf)
  | .ret,O,σ,σ',e,ps,hs,hp,hr,a,w,Q,hf,hq=>by
    simp only [codeO] at hs
    have:=pure0_some hs
    simp only [Prod.mk.injEq] at this
    obtain ⟨rfl,rfl⟩:=this
    exact wpIn_ret (hq _ _ hf)
  | .scope c,O,σ,σ',e,ps,hs,hp,hr,a,w,Q,hf,hq=>by
    simp only [codeO] at hs
    obtain ⟨⟨e1,σ1⟩,p1,p2,g1,g2,hp1,hp2⟩:=with_some hs hp
    refine wpIn_scope_straight (codeO_sound hD hR ro nn c O σ σ1 e1 p1 g1 hp1 hr a w _ hf fun a' w' hf'=>?_)
    cases e1 with
    | goto l=>simp at g2
    | _=>
      have:=pure0_some g2
      simp only [Prod.mk.injEq] at this
      obtain ⟨rfl,rfl⟩:=this
      exact hq _ _ hf'
  | .rangeFunc g pa as0 bd,O,σ,σ',e,ps,hs,hp,hr,a,w,Q,hf,hq=>by
    simp only [codeO] at hs
    have hrnd:σ.rnd=false:=by
      unfold rangeA at hs
      split at hs
      · assumption
      · simp at hs
    have:=hr hrnd
    subst this
    exact hR O g pa as0 bd σ σ' e ps hs hp _ _ _ _ a w Q hf hq nn
  | .refuse ..,O,σ,σ',e,ps,hs,_,_,_,_,_,_,_=>by simp [codeO] at hs
end g
end Go.Rx
end
noncomputable section
namespace Go.Rx
section g
variable {P:Program} {h₀:Ob} {γ₀:Hm} {G₀:Gh} {w₀:World} {hn:Hint} {K:FuncId}
def resVar (tmps:Array Value):ResultVar→Sem Value
  | .tmp t=>pure (tmps.getD t undef)
  | .cell b t=>do loadVar t (← asAddr (tmps.getD b undef))
theorem results_eq (fn:Func) (tmps:Array Value):results fn tmps=(do let vs ← fn.results.mapM (resVar tmps); pure (if h:vs.size=1 then vs[0] else .tuple vs)):=by
  unfold results
  rfl
theorem results_list {σ : St} {γ : Hm} {G : Gh} {a : Act} {w : World} (h : StOK h₀ γ₀ G₀ w₀ σ γ G a w) : ∀ (l : List ResultVar) (rs : List AV) (ps : List Prop), resultsA P σ l = some (rs, ps) → All ps →
    ∃ vs,(l.mapM (resVar a.tmps)).run P w=.ok vs w∧RepL σ.ob γ G w rs vs
  | [],rs,ps,hs,_=>by
    simp only [resultsA] at hs
    rw [pure0_some hs]
    exact ⟨[],rfl,rfl⟩
  | .tmp t::l,rs,ps,hs,hp=>by
    simp only [resultsA] at hs
    split at hs
    · rename_i x hx
      obtain ⟨hsol,hs⟩:=need_some hs
      obtain ⟨xs,p1,p2,e1,e2,hp1,hp2⟩:=with_some hs hp
      rw [pure0_some e2]
      obtain ⟨vs,g1,g2⟩:=results_list h l xs p1 e1 hp1
      obtain ⟨v,g3,g4⟩:=h.slots t x hx
      obtain ⟨c,g5,g6⟩:=solid_out hsol g4
      refine ⟨v::vs,?_,by simp only [RepL]; exact ⟨c,v,vs,rfl,g5,g6,g2⟩⟩
      have hv:a.tmps.getD t undef=v:=by rw [Array.getD_eq_getD_getElem?,g3]; rfl
      simp only [List.mapM_cons,resVar,Sem.run_bind,Sem.run_pure,Result.andThen_ok,hv,g1]
    · simp at hs
  | .cell b t::l,rs,ps,hs,hp=>by
    simp only [resultsA] at hs
    split at hs
    · rename_i n path off hx
      split at hs
      · rename_i ro c hg
        obtain ⟨x,p1,p2,e1,e2,hp1,hp2⟩:=with_some hs hp
        obtain ⟨xs,p3,p4,e3,e4,hp3,hp4⟩:=with_some e2 hp2
        rw [pure0_some e4]
        obtain ⟨vs,g1,g2⟩:=results_list h l xs p3 e3 hp3
        obtain ⟨v,g3,g4⟩:=h.slots b _ hx
        have h3:=RepV_one rfl rfl g4
        simp only [RepC] at h3
        obtain ⟨h3,_⟩:=h3
        simp only [List.cons.injEq,and_true] at h3
        have h0:=h.heap.obj _ _ hg
        simp only [ObjOK] at h0
        obtain ⟨cs,q1,q2,_⟩:=h0
        obtain ⟨u,q3,q4⟩:=partAt_sound e1 hp1 q2 (block_cells q1)
        have hfit:∃ d t',fit P d t' x=true:=by
          unfold partAt at e1
          split at e1
          · obtain ⟨q,e1⟩:=need_some e1
            simp only [Bool.and_eq_true,fitT] at q
            simp only [Option.some.injEq,Prod.mk.injEq] at e1
            rw [← e1.1]; exact ⟨30,t,q.2.2⟩
          · simp at e1
        obtain ⟨d,t',hfit⟩:=hfit
        obtain ⟨cc,g5,g6⟩:=fit_RepV hfit q4
        refine ⟨u::vs,?_,by simp only [RepL]; exact ⟨cc,u,vs,rfl,g5,g6,g2⟩⟩
        have hv:a.tmps.getD b undef=.pointer (some ⟨(γ n).1,off,none⟩):=by rw [Array.getD_eq_getD_getElem?,g3]; exact h3
        have has:(asAddr (a.tmps.getD b undef)).run P w=.ok ⟨(γ n).1,off,none⟩ w:=by rw [hv]; rfl
        simp only [List.mapM_cons,resVar,Sem.run_bind,Sem.run_pure,Result.andThen_ok,has,q3,g1]
      · simp at hs
    · simp at hs
theorem leave1_sound {fn : Func} {σ : St} {a : Act} {w : World} {out : Out} {h' : Ob} {ps : List Prop} (hs : leave1 P hn K fn σ = some ((out, h'), ps)) (hp : All ps) (hf : Fits h₀ γ₀ G₀ w₀ σ a w) :
    ∃ r v,out=.ret r∧(results fn a.tmps).run P w=.ok v w∧Behind h₀ γ₀ G₀ w₀ h' r v w:=by
  obtain ⟨γ,G,h⟩:=hf
  unfold leave1 at hs
  obtain ⟨rs,p1,p2,e1,e2,hp1,hp2⟩:=with_some hs hp
  obtain ⟨vs,g1,g2⟩:=results_list h fn.results.toList rs p1 e1 hp1
  simp only at e2
  have key:∀ {rs':List AV} {fz:List Nat} {ps1:List Prop},(match hn.esc K with | true=>some (rs,[],[]) | false=>pureTs P σ.ob 30 fn.resultTypes.toList rs)=some (rs',fz,ps1)→All ps1→∃ G2,Frozen σ.ob G w γ fz (freeze fz σ.ob) G2∧RepL (freeze fz σ.ob) γ G2 w rs' vs:=fun {rs' fz ps1} he hp1=>by
    split at he
    · simp only [Option.some.injEq,Prod.mk.injEq] at he
      obtain ⟨rfl,rfl,_⟩:=he
      exact ⟨G,Frozen.nil h.heap,g2⟩
    · obtain ⟨G2,F,_⟩:=frozen_of h.heap ((pureT_vecs (P:=P) _ 30).2 _ _ _ _ _ he)
      exact ⟨G2,F,(pureT_all F 30).2.2 _ _ _ _ _ _ he (fun _ h=>h) hp1 g2⟩
  split at e2
  · simp at e2
  · rename_i rs' fz ps1 he
    split at e2
    · rename_i hc
      simp only [Bool.and_eq_true] at hc
      simp only [Option.some.injEq,Prod.mk.injEq] at e2
      obtain ⟨⟨rfl,rfl⟩,rfl⟩:=e2
      obtain ⟨G2,F,g3⟩:=key he hp2
      obtain ⟨hcn,hco⟩:=closedB_some hc.1
      have hsub:∀ l o,get (keepOnly (reach (freeze fz σ.ob) 500 (AV.namesL rs'++σ.keep) []) (freeze fz σ.ob)) l=some o→get (freeze fz σ.ob) l=some o:=fun l o hl=>(get_only hl).2
      have HK:=F.ok.sub hsub hco
      have T1:=(h.tr.then F.tr).drop hsub (fun l o hl=>(has_dom _ l).1 (List.all_eq_true.1 hc.2 l (h.keep l o hl)))
      have g4:=RepL_sub hsub hcn g3
      have hrun:(fn.results.mapM (resVar a.tmps)).run P w=.ok vs.toArray w:=by
        rw [Array.mapM_eq_mapM_toList]
        simp only [Sem.run_map,g1,Result.andThen_ok]
      refine ⟨_,if hv:vs.toArray.size=1 then vs.toArray[0] else .tuple vs.toArray,rfl,?_,γ,G2,HK,T1,?_⟩
      · rw [results_eq]
        simp only [Sem.run_bind,hrun,Result.andThen_ok,Sem.run_pure]
      · cases rs' with
        | nil=>
          have:vs=[]:=g4
          subst this
          exact ⟨[],rfl,rfl⟩
        | cons x xs=>
          cases xs with
          | nil=>
            simp only [RepL] at g4
            obtain ⟨c,v,r,rfl,q1,q2,rfl⟩:=g4
            exact RepV_of q1 q2
          | cons y ys=>
            have hl:vs.toArray.size≠1:=by
              simp only [RepL] at g4
              obtain ⟨_,_,_,rfl,_,_,_,_,_,rfl,_⟩:=g4
              simp
            rw [dif_neg hl]
            exact ⟨vs,rfl,g4⟩
    · simp at e2
theorem shut_sound {F : Fence} {n : Nat} {fn : Func} {tmps : Array Value} {R : Ending → World → Prop} {γ : Hm} {G : Gh} {ob1 : Ob} : ∀ (ds : List Nat) (ob : Ob) (w : World), HeapOK ob γ G w → shut ds ob = some ob1 →
    (∀ w',HeapOK ob1 γ G w'→Trans ob γ G w ob1 γ G w'→LeavesInM F n P fn tmps R [] .returning w')→LeavesInM F n P fn tmps R (ds.map fun d=>({ target:=.collected (γ d).1,args:=#[] }:Deferred)) .returning w
  | [],ob,w,H,hs,hk=>by
    simp only [shut,Option.some.injEq] at hs
    subst hs
    exact hk w H (Trans.refl H)
  | d::r,ob,w,H,hs,hk=>by
    simp only [shut] at hs
    split at hs
    · rename_i hd
      have h0:=H.obj _ _ hd
      have hlt:=h0.lt trivial
      simp only [ObjOK] at h0
      have hT:=turn_ok H hd (.dfr false) G (w.putObj (γ d).1 (.deferred none)) (by simp [World.putObj]) (fun b hb=>World.putObj_heap_other hb)
        (keeps_block h0.2 fun b' hb'=>World.putObj_heap_other hb') (fun _ _ h h'=>absurd h h') rfl (fun n hn=>by simp [AObj.names] at hn) (fun T=>by
          simp only [ObjOK]
          exact ⟨World.putObj_heap_same hlt,h0.2⟩)
      refine ⟨by simp,.inl ⟨_,_,rfl,run_takeDeferred h0.1,?_⟩⟩
      exact shut_sound r _ _ hT.1 hs fun w' H' T'=>hk w' H' (hT.2.trans H T')
    · simp at hs
theorem leave_sound {fn : Func} {σ : St} {a : Act} {w : World} {out : Out} {h' : Ob} {ps : List Prop} (hs : leave P hn K fn σ = some ((out, h'), ps)) (hp : All ps) (hf : Fits h₀ γ₀ G₀ w₀ σ a w)
    {F:Fence} {n:Nat} {R:Ending→World→Prop} (hR:∀ r v w',out=.ret r→Behind h₀ γ₀ G₀ w₀ h' r v w'→R (.returned v) w'):LeavesInM F n P fn a.tmps R a.defers .returning w:=by
  obtain ⟨γ,G,h⟩:=hf
  unfold leave at hs
  split at hs
  · rename_i ob1 hsh
    rw [h.defers]
    refine shut_sound σ.dfs σ.ob w h.heap hsh fun w' H' T'=>?_
    have hf':Fits h₀ γ₀ G₀ w₀ { σ with ob:=ob1,dfs:=[],keep:=σ.keep.filter fun n=>!has σ.dfs n } { a with defers:=[] } w':=by
      refine ⟨γ,G,H',fun t x hx=>?_,h.size,h.tr.then T',fun l o hl=>?_,rfl,fun d hd=>by simp at hd,fun d hd=>by simp at hd⟩
      · obtain ⟨v,g1,g2⟩:=h.slots t x hx
        exact ⟨v,g1,RepV.step T' _ _ g2⟩
      · refine List.mem_filter.2 ⟨h.keep l o hl,?_⟩
        simp only [Bool.not_eq_true']
        cases hb:has σ.dfs l
        · rfl
        · have:=(h.dfr l ((has_iff _ _).1 hb)).2
          rw [hl] at this; cases this
    obtain ⟨r,v,e1,e2,e3⟩:=leave1_sound hs hp hf'
    exact ⟨v,e2,hR r v w' e1 e3⟩
  · simp at hs
theorem get_number:∀ (xs:List AV) (n t:Nat),get (number n xs) t=if n≤t then xs[t - n]? else none
  | [],n,t=>by simp [number,get_nil,get_cons]
  | x::xs,n,t=>by
    simp only [number,get_nil,get_cons,get_number xs (n + 1) t]
    by_cases h:n=t
    · subst h; simp
    · simp only [h,if_false]
      by_cases h2:n≤t
      · rw [if_pos (by omega),if_pos h2]
        have:t - n=(t - (n + 1)) + 1:=by omega
        rw [this,List.getElem?_cons_succ]
      · rw [if_neg (by omega),if_neg h2]
theorem RepL_append {ob:Ob} {γ:Hm} {G:Gh} {w:World}:∀ {xs ys:List AV} {vs us:List Value},RepL ob γ G w xs vs→RepL ob γ G w ys us→RepL ob γ G w (xs++ys) (vs++us)
  | [],_,vs,_,h,k=>by simp only [RepL] at h; subst h; simpa using k
  | x::xs,_,vs,_,h,k=>by
    simp only [RepL] at h
    obtain ⟨c,v,r,rfl,h1,h2,h3⟩:=h
    simp only [List.cons_append,RepL]
    exact ⟨c,v,_,rfl,h1,h2,RepL_append h3 k⟩
theorem RepL_len {ob:Ob} {γ:Hm} {G:Gh} {w:World}:∀ {xs:List AV} {vs:List Value},RepL ob γ G w xs vs→xs.length=vs.length
  | [],vs,h=>by simp only [RepL] at h; subst h; rfl
  | x::xs,vs,h=>by
    simp only [RepL] at h
    obtain ⟨c,v,r,rfl,_,_,h3⟩:=h
    simp [RepL_len h3]
theorem valid_fun (hD : DrawOK P hn K) (hR : RangeOK P hn K) {fn : Func} {c : Code} (hf : P.funcs[K]? = some fn) (hb : fn.body = some c) (hname : (fn.name == "runtime.NumGoroutine") = false) {lvl : Nat} {first cap args : List AV} {h h' : Ob} {O : Orc} {out : Out} {ps : List Prop}
    (hs:funO P hn (Valid P) K fn lvl (first++args++cap) h O=some ((out,h'),ps)) (hp:All ps) (l:Nat):Valid P l (.fn (.func K) first cap) args h out h':=by
  intro γ G w vf vas H hvf hva
  have h1:=RepV_one rfl rfl hvf
  simp only [RepC] at h1
  obtain ⟨va,vc,h1,h2,h3⟩:=h1
  simp only [List.cons.injEq,and_true] at h1
  subst h1
  simp only [funO,hb] at hs
  obtain ⟨hle,hs⟩:=need_some hs
  obtain ⟨⟨e,σ'⟩,p1,p2,e1,e2,hp1,hp2⟩:=with_some hs hp
  have hL:=RepL_append (RepL_append h2 hva) h3
  have hlen:=RepL_len hL
  have hnt:(first++args++cap).length≤fn.ntmps:=Nat.le_of_ble_eq_true hle
  have hfit:∀ lv,Fits h γ G w { lvl:=lv,n:=fn.ntmps,keep:=dom h,sl:=number 0 (first++args++cap),ob:=h } { tmps:=(va++vas++vc).toArray++Array.replicate (fn.ntmps - (va++vas++vc).toArray.size) undef,defers:=[] } w:=fun lv=>by
    refine ⟨γ,G,H,fun t x hx=>?_,?_,Trans.refl H,fun l o hl=>(mem_dom h l).2 ⟨o,hl⟩,rfl,fun d hd=>by simp at hd,fun d hd=>by simp at hd⟩
    · rw [get_number] at hx
      simp only [Nat.zero_le,if_true,Nat.sub_zero] at hx
      obtain ⟨v,g1,g2⟩:=RepL_get hL hx
      refine ⟨v,?_,g2⟩
      have ht:=(List.getElem?_eq_some_iff.1 g1).1
      rw [Array.getElem?_append_left (by simpa using ht)]
      simpa using g1
    · simp only [Array.size_append,List.size_toArray,Array.size_replicate]; omega
  have hout:∃ r,out=.ret r:=by
    have hlv:leave P hn K fn σ'=some ((out,h'),p2):=by cases e<;>simp only at e2<;>first | exact e2 | (simp at e2)
    unfold leave at hlv
    split at hlv
    · unfold leave1 at hlv
      obtain ⟨rs,q1,q2,q3,q4,_,hq⟩:=with_some hlv hp2
      simp only at q4
      split at q4
      · simp at q4
      · split at q4
        · simp only [Option.some.injEq,Prod.mk.injEq] at q4
          exact ⟨_,q4.1.1.symm⟩
        · simp at q4
    · simp at hlv
  obtain ⟨r,rfl⟩:=hout
  refine ⟨r,rfl,?_⟩
  have hcall:Calls P K (va++vas++vc).toArray w fun e w''=>∃ v,e=.returned v∧∃ γ' G',HeapOK h' γ' G' w''∧Trans h γ G w h' γ' G' w''∧RepV h' γ' G' w'' r v:=by
    refine (callsIn_wide (n:=0)).1 (callsIn_of_wp_marks (F:=FW none) hf hb trivial (codeO_sound hD hR none 0 c O _ σ' e p1 e1 hp1 (fun _=>rfl) _ _ _ (hfit _) fun a' w' hf'=>?_))
    have hlv:(e=.normal∨e=.ret)∧leave P hn K fn σ'=some ((.ret r,h'),p2):=by cases e<;>simp only at e2<;>first | exact ⟨.inl rfl,e2⟩ | exact ⟨.inr rfl,e2⟩ | (simp at e2)
    have:=leave_sound hlv.2 hp2 hf' (F:=FW none) (n:=0) (R:=fun e w''=>∃ v,e=.returned v∧∃ γ' G',HeapOK h' γ' G' w''∧Trans h γ G w h' γ' G' w''∧RepV h' γ' G' w'' r v) (fun r2 v w' hr hb=>by
      cases hr
      exact ⟨v,rfl,hb⟩)
    rcases hlv.1 with rfl | rfl
    · exact this
    · exact this
  unfold CallsV
  have hrun:(do let d ← Deferred.ofValue (.func (.func K) va.toArray vc.toArray) vas.toArray; invoke d.target d.args:Sem Next).run P w=.ok (.enter K (va++vas++vc).toArray) w:=by
    have harr:va.toArray++vas.toArray++vc.toArray=(va++vas++vc).toArray:=by simp
    simp only [Deferred.ofValue,Sem.run_bind,Sem.run_pure,Result.andThen_ok,invoke,callFunc,run_program,hf,hname,hb,Option.isNone_some,Bool.false_eq_true,if_false,harr]
  rw [hrun]
  exact hcall
end g
end Go.Rx
end
noncomputable section
namespace Go.Rx
section g
variable {P:Program} {hn:Hint} {C:CallR} {K:FuncId}
theorem pureOp_congr {mk:Bool} {an:Option Ans} {val val':Operand→AV} (o:Op) (h:∀ x∈o.operands,val x=val' x):pureOp P mk an val o=pureOp P mk an val' o:=by
  cases o with
  | build t ps=>
    have:(ps.toList.map fun q=>(q.1,val q.2))=(ps.toList.map fun q=>(q.1,val' q.2)):=List.map_congr_left fun q hq=>by
      rw [h q.2 (by simp only [Op.operands]; simpa using ⟨q.1,by simpa using hq⟩)]
    simp only [pureOp,this]
  | buildSlice t n ps=>
    have:(ps.toList.map fun q=>val q.2)=(ps.toList.map fun q=>val' q.2):=List.map_congr_left fun q hq=>by
      rw [h q.2 (by simp only [Op.operands]; simpa using ⟨q.1,by simpa using hq⟩)]
    simp only [pureOp,this]
  | makeFunc f a b=>
    have h1:a.toList.map val=a.toList.map val':=List.map_congr_left fun q hq=>h q (by simp only [Op.operands]; simp; exact .inl (by simpa using hq))
    have h2:b.toList.map val=b.toList.map val':=List.map_congr_left fun q hq=>h q (by simp only [Op.operands]; simp; exact .inr (by simpa using hq))
    simp only [pureOp,h1,h2]
  | slice t x l hi m=>
    have hx:=h x (by simp [Op.operands])
    have hl:l.map val=l.map val':=by cases l with
      | none=>rfl
      | some y=>simp only [Option.map_some]; rw [h y (by simp [Op.operands])]
    have hh:hi.map val=hi.map val':=by cases hi with
      | none=>rfl
      | some y=>simp only [Option.map_some]; rw [h y (by simp [Op.operands])]
    cases m with
    | none=>simp only [pureOp,hx,hl,hh]
    | some mx=>
      have hm:=h mx (by simp [Op.operands])
      cases hi with
      | none=>simp only [pureOp]
      | some hi=>
        have hhi:=h hi (by simp [Op.operands])
        simp only [pureOp,hx,hl,hhi,hm]
  | call c=>
    have h1:c.args.toList.map val=c.args.toList.map val':=List.map_congr_left fun q hq=>h q (by simp only [Op.operands,Call.operands]; simp; exact .inr (by simpa using hq))
    simp only [pureOp,h1]
  | _=>
    simp only [Op.operands,List.mem_toArray,List.mem_cons,List.not_mem_nil,or_false,forall_eq_or_imp,forall_eq] at h
    simp only [pureOp,h]
theorem args_congr {val val':Operand→AV} {c:Call} (h:∀ x∈(Op.call c).operands,val x=val' x):c.args.toList.map val=c.args.toList.map val':=
  List.map_congr_left fun q hq=>h q (by simp only [Op.operands,Call.operands]; simp; exact .inr (by simpa using hq))
theorem readOp_congr {an:Option Ans} {val val':Operand→AV} {ob:Ob} (o:Op) (h:∀ x∈o.operands,val x=val' x):readOp P an val ob o=readOp P an val' ob o:=by
  cases o with
  | call c=>simp only [readOp,args_congr h]
  | load t a=>simp only [readOp,h a (by simp [Op.operands])]
  | lookup t m k ok=>simp only [readOp,h m (by simp [Op.operands]),h k (by simp [Op.operands])]
  | _=>simp only [readOp]
theorem writeOp_congr {lvl:Nat} {d:Option Tmp} {an:Option Ans} {val val':Operand→AV} {ob:Ob} (o:Op) (h:∀ x∈o.operands,val x=val' x):writeOp P lvl d an val ob o=writeOp P lvl d an val' ob o:=by
  cases o with
  | call c=>simp only [writeOp,args_congr h]
  | buildSlice t n ps=>
    have:(ps.toList.map fun q=>val q.2)=(ps.toList.map fun q=>val' q.2):=List.map_congr_left fun q hq=>by
      rw [h q.2 (by simp only [Op.operands]; simpa using ⟨q.1,by simpa using hq⟩)]
    simp only [writeOp,this]
  | slice t x l hi m=>
    have hx:=h x (by simp [Op.operands])
    have hl:l.map val=l.map val':=by cases l with
      | none=>rfl
      | some y=>simp only [Option.map_some]; rw [h y (by simp [Op.operands])]
    have hh:hi.map val=hi.map val':=by cases hi with
      | none=>rfl
      | some y=>simp only [Option.map_some]; rw [h y (by simp [Op.operands])]
    cases m<;>simp only [writeOp,hx,hl,hh]
  | makeMap t r=>cases r<;>simp only [writeOp]
  | box t x=>simp only [writeOp,h x (by simp [Op.operands])]
  | makeSlice t n c=>simp only [writeOp,h n (by simp [Op.operands]),h c (by simp [Op.operands])]
  | store t a x=>simp only [writeOp,h a (by simp [Op.operands]),h x (by simp [Op.operands])]
  | mapUpdate t m k x=>simp only [writeOp,h m (by simp [Op.operands]),h k (by simp [Op.operands]),h x (by simp [Op.operands])]
  | insert t m k x=>simp only [writeOp,h m (by simp [Op.operands]),h k (by simp [Op.operands]),h x (by simp [Op.operands])]
  | mapEntry t m k=>simp only [writeOp,h m (by simp [Op.operands]),h k (by simp [Op.operands])]
  | entryStore t m s x=>simp only [writeOp,h m (by simp [Op.operands]),h s (by simp [Op.operands]),h x (by simp [Op.operands])]
  | _=>simp only [writeOp]
theorem touch_congr {val val':Operand→AV} {ob:Ob} (o:Op) (h:∀ x∈o.operands,val x=val' x):touch val ob o=touch val' ob o:=by
  cases o with
  | call c=>
    have ha:=args_congr h
    have hx:∀ x∈c.args.toList,val x=val' x:=fun q hq=>h q (by simp only [Op.operands,Call.operands]; simp; exact .inr (by simpa using hq))
    simp only [touch]
    split
    · split
      · rename_i a x hl
        rw [hx a (by simp [hl]),hx x (by simp [hl])]
      · rfl
    · split
      · rename_i a r hl
        rw [hx a (by simp [hl])]
      · rfl
    · rename_i f hc
      rw [ha,h f (by simp [Op.operands,Call.operands,hc])]
    · rfl
  | load t a=>simp only [touch,h a (by simp [Op.operands])]
  | store t a x=>simp only [touch,h a (by simp [Op.operands])]
  | lookup t m k ok=>simp only [touch,h m (by simp [Op.operands])]
  | mapUpdate t m k x=>simp only [touch,h m (by simp [Op.operands])]
  | insert t m k x=>simp only [touch,h m (by simp [Op.operands])]
  | mapEntry t m k=>simp only [touch,h m (by simp [Op.operands])]
  | entryStore t m s x=>simp only [touch,h m (by simp [Op.operands])]
  | slice t x l hi m=>simp only [touch,h x (by simp [Op.operands])]
  | buildSlice t n ps=>
    have:(ps.toList.map fun q=>val q.2)=(ps.toList.map fun q=>val' q.2):=List.map_congr_left fun q hq=>by
      rw [h q.2 (by simp only [Op.operands]; simpa using ⟨q.1,by simpa using hq⟩)]
    simp only [touch,this]
  | _=>simp only [touch]
end g
end Go.Rx
end
noncomputable section
namespace Go.Rx
section g
variable {P:Program} {hn:Hint} {C:CallR} {K:FuncId} {O:Orc}
theorem effOp_congr {lvl:Nat} {d:Option Tmp} {an:Option Ans} {val val':Operand→AV} {ob:Ob} (o:Op) (h:∀ x∈o.operands,val x=val' x):effOp P hn C K lvl d an val ob o=effOp P hn C K lvl d an val' ob o:=by
  unfold effOp
  rw [pureOp_congr o h,touch_congr o h,readOp_congr o h]
  cases o with
  | call c=>
    obtain ⟨callee,args,ts⟩:=c
    cases callee with
    | value f=>
      have hf:=h f (by simp [Op.operands,Call.operands])
      have ha:=args_congr h
      simp only at ha
      simp only [hf,ha,touch_congr _ h]
    | _=>simp only [writeOp_congr _ h,touch_congr _ h]
  | _=>simp only [writeOp_congr _ h,touch_congr _ h]
structure Dl where
  r:AV
  w:Option (List Nat×Ob)
def Dl.app (D:Dl) (d:Option Tmp) (σ:St):St:={ σ with sl:=put d D.r σ.sl,ob:=match D.w with | some (T,h)=>merge T h σ.ob | none=>σ.ob }
def Dl.ok (D:Dl) (ob:Ob):Bool:=match D.w with
  | some (T,h)=>(dom h).all (fun n=>has T n||!has (dom ob) n)&&T.all (fun n=>!has (dom ob) n||has (dom h) n)
  | none=>true
def dlEff (O:Orc) (key:Nat):Eff→R (Dl×List Nat)
  | .val r=>(nameV O key r).with fun r=>pure0 (⟨r,none⟩,[])
  | .read T r=>(nameV O key r).with fun r=>pure0 (⟨r,none⟩,T)
  | .write T o h=>(nameO O key h).with fun h=>match o with
    | .ret r=>(nameV O key r).with fun r=>pure0 (⟨r,some (T,h)⟩,T++dom h)
    | .pan _=>none
theorem with_mk {α β:Type} {x:R α} {f:α→R β} {a:α} {b:β} {p q:List Prop} (h1:x=some (a,p)) (h2:f a=some (b,q)):x.with f=some (b,p++q):=by
  unfold R.with; rw [h1]; simp only [h2]
theorem with_inv {α β:Type} {x:R α} {f:α→R β} {b:β} {qs:List Prop} (h:x.with f=some (b,qs)):∃ a p q,x=some (a,p)∧f a=some (b,q)∧qs=p++q:=by
  unfold R.with at h
  split at h
  · rename_i a p
    split at h
    · rename_i b' q hf
      simp only [Option.some.injEq,Prod.mk.injEq] at h
      obtain ⟨rfl,rfl⟩:=h
      exact ⟨a,p,q,rfl,hf,rfl⟩
    · simp at h
  · simp at h
theorem applyEff_dl {key : Nat} {d : Option Tmp} {σ : St} {e : Eff} {s : SR} {ps : List Prop} :
    applyEff O key d σ e=some (s,ps)↔∃ D lab,dlEff O key e=some ((D,lab),ps)∧D.ok σ.ob=true∧dstOK σ d=true∧s=.next (D.app d σ) lab:=by
  constructor
  · intro hs
    cases e with
    | val r=>
      simp only [applyEff] at hs
      obtain ⟨r',p,q,h1,h2,rfl⟩:=with_inv hs
      obtain ⟨hd,h2⟩:=need_some h2
      simp only [pure0,Option.some.injEq,Prod.mk.injEq] at h2
      obtain ⟨rfl,rfl⟩:=h2
      exact ⟨⟨r',none⟩,[],by simp only [dlEff]; exact with_mk h1 rfl,rfl,hd,rfl⟩
    | read T r=>
      simp only [applyEff] at hs
      obtain ⟨r',p,q,h1,h2,rfl⟩:=with_inv hs
      obtain ⟨hd,h2⟩:=need_some h2
      simp only [pure0,Option.some.injEq,Prod.mk.injEq] at h2
      obtain ⟨rfl,rfl⟩:=h2
      exact ⟨⟨r',none⟩,T,by simp only [dlEff]; exact with_mk h1 rfl,rfl,hd,rfl⟩
    | write T out h=>
      simp only [applyEff] at hs
      obtain ⟨h',p,q,h1,h2,rfl⟩:=with_inv hs
      obtain ⟨hc,h2⟩:=need_some h2
      cases out with
      | pan v=>simp at h2
      | ret r=>
        simp only at h2
        obtain ⟨r',p',q',h3,h4,rfl⟩:=with_inv h2
        obtain ⟨hd,h4⟩:=need_some h4
        simp only [pure0,Option.some.injEq,Prod.mk.injEq] at h4
        obtain ⟨rfl,rfl⟩:=h4
        exact ⟨⟨r',some (T,h')⟩,T++dom h',by simp only [dlEff]; exact with_mk h1 (with_mk h3 rfl),hc,hd,rfl⟩
  · rintro ⟨D,lab,h,hc,hd,rfl⟩
    cases e with
    | val r=>
      simp only [dlEff] at h
      obtain ⟨r',p,q,h1,h2,rfl⟩:=with_inv h
      simp only [pure0,Option.some.injEq,Prod.mk.injEq] at h2
      obtain ⟨⟨rfl,rfl⟩,rfl⟩:=h2
      simp only [applyEff]
      exact with_mk h1 (by rw [hd]; rfl)
    | read T r=>
      simp only [dlEff] at h
      obtain ⟨r',p,q,h1,h2,rfl⟩:=with_inv h
      simp only [pure0,Option.some.injEq,Prod.mk.injEq] at h2
      obtain ⟨⟨rfl,rfl⟩,rfl⟩:=h2
      simp only [applyEff]
      exact with_mk h1 (by rw [hd]; rfl)
    | write T out hh=>
      simp only [dlEff] at h
      obtain ⟨h',p,q,h1,h2,rfl⟩:=with_inv h
      cases out with
      | pan v=>simp at h2
      | ret r=>
        simp only at h2
        obtain ⟨r',p',q',h3,h4,rfl⟩:=with_inv h2
        simp only [pure0,Option.some.injEq,Prod.mk.injEq] at h4
        obtain ⟨⟨rfl,rfl⟩,rfl⟩:=h4
        simp only [applyEff]
        refine with_mk h1 ?_
        simp only [Dl.ok] at hc
        rw [hc]
        exact with_mk h3 (by rw [hd]; rfl)
end g
end Go.Rx
end
noncomputable section
namespace Go.Rx
section g
variable {P:Program} {hn:Hint} {C:CallR} {K:FuncId} {O:Orc}
def stepD (P:Program) (hn:Hint) (C:CallR) (K:FuncId) (O:Orc) (key:Nat) (ops:Array Oper) (o:Oper) (σ:St):R (Dl×List Nat):=
  match wantedA ops σ o with
  | some true=>(effOp P hn C K σ.lvl o.dst (get O.an key) (opdA σ) σ.ob o.op).with fun e=>dlEff O key e
  | some false=>pure0 (⟨.tup [],none⟩,[])
  | none=>none
theorem stepA_form {key : Nat} {ops : Array Oper} {o : Oper} {σ : St} {s : SR} {ps : List Prop} : stepA P hn C K O key ops o σ = some (s, ps) ↔
    ∃ D lab,stepD P hn C K O key ops o σ=some ((D,lab),ps)∧D.ok σ.ob=true∧dstOK σ o.dst=true∧s=.next (D.app o.dst σ) lab:=by
  unfold stepA stepD
  cases hw:wantedA ops σ o with
  | none=>simp
  | some b=>
    cases b with
    | false=>
      simp only
      constructor
      · intro h
        obtain ⟨hd,h⟩:=need_some h
        simp only [pure0,Option.some.injEq,Prod.mk.injEq] at h
        obtain ⟨rfl,rfl⟩:=h
        exact ⟨_,_,rfl,rfl,hd,rfl⟩
      · rintro ⟨D,lab,h,_,hd,rfl⟩
        simp only [pure0,Option.some.injEq,Prod.mk.injEq] at h
        obtain ⟨⟨rfl,rfl⟩,rfl⟩:=h
        rw [hd]; rfl
    | true=>
      simp only
      constructor
      · intro h
        obtain ⟨e,p,q,h1,h2,rfl⟩:=with_inv h
        obtain ⟨D,lab,h3,h4,h5,h6⟩:=applyEff_dl.1 h2
        exact ⟨D,lab,with_mk h1 h3,h4,h5,h6⟩
      · rintro ⟨D,lab,h,h4,h5,h6⟩
        obtain ⟨e,p,q,h1,h2,rfl⟩:=with_inv h
        exact with_mk h1 (applyEff_dl.2 ⟨D,lab,h2,h4,h5,h6⟩)
theorem reach_seen (ob:Ob):∀ (n:Nat) (todo seen:List Nat),∀ l∈seen,l∈reach ob n todo seen
  | 0,_,_,l,hl=>hl
  | n + 1,[],seen,l,hl=>hl
  | n + 1,a::todo,seen,l,hl=>by
    simp only [reach]
    split
    · exact reach_seen ob n todo seen l hl
    · exact reach_seen ob n _ _ l (by simp [hl])
theorem reach_agree {ob ob':Ob}:∀ (n:Nat) (todo seen:List Nat),(∀ l∈reach ob n todo seen,get ob' l=get ob l)→reach ob' n todo seen=reach ob n todo seen
  | 0,_,_,_=>rfl
  | n + 1,[],seen,_=>rfl
  | n + 1,a::todo,seen,h=>by
    simp only [reach] at h ⊢
    split
    · rename_i hs; simp only [hs] at h; exact reach_agree n todo seen h
    · rename_i hs
      simp only [hs] at h
      have ha:=h a (reach_seen ob n _ _ a (by simp))
      have:objNames ob' a=objNames ob a:=by simp only [objNames,ha]
      rw [this]
      exact reach_agree n _ _ h
theorem touch_agree {val:Operand→AV} {ob ob':Ob} (o:Op) (h:∀ l∈touch val ob o,get ob' l=get ob l):touch val ob' o=touch val ob o:=by
  cases o with
  | call c=>
    simp only [touch] at h ⊢
    split at h<;>try rfl
    · rename_i f hc
      exact reach_agree _ _ _ h
  | _=>rfl
theorem keepOnly_agree {α:Type} {T:List Nat} {h h':List (Nat×α)} (hs:Srt h) (hs':Srt h') (ha:∀ l∈T,get h' l=get h l):keepOnly T h'=keepOnly T h:=by
  refine Srt.ext (by rw [keepOnly_eq]; exact hs'.filter _) (by rw [keepOnly_eq]; exact hs.filter _) fun k=>?_
  rw [get_keepOnly,get_keepOnly]
  cases hk:has T k
  · rfl
  · simp only [if_true]; exact ha k ((has_iff T k).1 hk)
theorem effOp_agree {lvl : Nat} {d : Option Tmp} {an : Option Ans} {val : Operand → AV} {ob ob' : Ob} {o : Op} {e : Eff} {ps : List Prop} (hs : Srt ob) (hs' : Srt ob') (he : effOp P hn C K lvl d an val ob o = some (e, ps))
    (ha:(∃ r,e=.val r)∨∀ l∈touch val ob o,get ob' l=get ob l):effOp P hn C K lvl d an val ob' o=some (e,ps):=by
  unfold effOp at he ⊢
  split at he
  · rename_i r ps' hq
    exact he
  · rename_i hq
    have hno:¬ ∃ r,e=.val r:=by
      rintro ⟨r,rfl⟩
      repeat' split at he
      all_goals simp at he
    have ha:=ha.resolve_left hno
    have ht:=touch_agree o ha
    have hk:=keepOnly_agree hs hs' ha
    cases o with
    | call c=>
      obtain ⟨callee,args,ts⟩:=c
      cases callee<;>(simp only at he ⊢; rw [ht,hk]; exact he)
    | _=>simp only at he ⊢; rw [ht,hk]; exact he
end g
end Go.Rx
end
noncomputable section
namespace Go.Rx
section g
variable {P:Program} {hn:Hint} {C:CallR} {K:FuncId} {O:Orc}
theorem opdA_agree {σ τ:St} {x:Operand} (h:∀ t,x=.tmp t→get τ.sl t=get σ.sl t):opdA τ x=opdA σ x:=by
  cases x with
  | tmp t=>simp only [opdA,h t rfl]
  | _=>rfl
theorem wanted_agree {ops:Array Oper} {o:Oper} {σ τ:St} (h:∀ t∈looks ops o,get τ.sl t=get σ.sl t):wantedA ops τ o=wantedA ops σ o:=by
  unfold wantedA
  split
  · rfl
  · rename_i j want hg
    split
    · rename_i t _ _ _ _ _ hj
      have:get τ.sl t=get σ.sl t:=h t (by simp [looks,hg,hj])
      rw [this]
    · rfl
theorem dlEff_lab {key : Nat} {e : Eff} {D : Dl} {lab : List Nat} {ps : List Prop} (h : dlEff O key e = some ((D, lab), ps)) :
    ((∃ r,e=.val r)∧D.w=none∧lab=[])∨(∃ T r,e=.read T r∧D.w=none∧lab=T)∨(∃ T o h h',e=.write T o h∧D.w=some (T,h')∧lab=T++dom h'):=by
  cases e with
  | val r=>
    simp only [dlEff] at h
    obtain ⟨r',p,q,h1,h2,rfl⟩:=with_inv h
    simp only [pure0,Option.some.injEq,Prod.mk.injEq] at h2
    obtain ⟨⟨rfl,rfl⟩,rfl⟩:=h2
    exact .inl ⟨⟨r,rfl⟩,rfl,rfl⟩
  | read T r=>
    simp only [dlEff] at h
    obtain ⟨r',p,q,h1,h2,rfl⟩:=with_inv h
    simp only [pure0,Option.some.injEq,Prod.mk.injEq] at h2
    obtain ⟨⟨rfl,rfl⟩,rfl⟩:=h2
    exact .inr (.inl ⟨_,r,rfl,rfl,rfl⟩)
  | write T out hh=>
    simp only [dlEff] at h
    obtain ⟨h',p,q,h1,h2,rfl⟩:=with_inv h
    cases out with
    | pan v=>simp at h2
    | ret r=>
      simp only at h2
      obtain ⟨r',p',q',h3,h4,rfl⟩:=with_inv h2
      simp only [pure0,Option.some.injEq,Prod.mk.injEq] at h4
      obtain ⟨⟨rfl,rfl⟩,rfl⟩:=h4
      exact .inr (.inr ⟨_,_,_,_,rfl,rfl,rfl⟩)
theorem effOp_touch {lvl : Nat} {d : Option Tmp} {an : Option Ans} {val : Operand → AV} {ob : Ob} {o : Op} {e : Eff} {ps : List Prop} (he : effOp P hn C K lvl d an val ob o = some (e, ps)) :
    (∃ r,e=.val r)∨(∃ r,e=.read (touch val ob o) r)∨(∃ out h,e=.write (touch val ob o) out h):=by
  unfold effOp at he
  repeat' split at he
  all_goals first
    | (simp at he; done)
    | (simp only [Option.some.injEq,Prod.mk.injEq] at he; obtain ⟨rfl,_⟩:=he; first | exact .inl ⟨_,rfl⟩ | exact .inr (.inl ⟨_,rfl⟩) | exact .inr (.inr ⟨_,_,rfl⟩))
theorem stepD_lab {key:Nat} {ops:Array Oper} {o:Oper} {σ:St} {D:Dl} {lab:List Nat} {ps:List Prop} (h:stepD P hn C K O key ops o σ=some ((D,lab),ps)):∀ T hh,D.w=some (T,hh)→lab=T++dom hh:=by
  unfold stepD at h
  split at h
  · obtain ⟨e,p,q,h1,h2,rfl⟩:=with_inv h
    rcases dlEff_lab h2 with ⟨_,hw,_⟩ | ⟨_,_,_,hw,_⟩ | ⟨T,o',h',h'',_,hw,hl⟩
    · intro T hh h; rw [hw] at h; simp at h
    · intro T hh h; rw [hw] at h; simp at h
    · intro T' hh h; rw [hw] at h; simp only [Option.some.injEq,Prod.mk.injEq] at h; obtain ⟨rfl,rfl⟩:=h; exact hl
  · simp only [pure0,Option.some.injEq,Prod.mk.injEq] at h
    obtain ⟨⟨rfl,rfl⟩,_⟩:=h
    intro T hh h; simp at h
  · simp at h
theorem stepD_agree {key : Nat} {ops : Array Oper} {o : Oper} {σ τ : St} {D : Dl} {lab : List Nat} {ps : List Prop} (h : stepD P hn C K O key ops o σ = some ((D, lab), ps))
    (hl:τ.lvl=σ.lvl) (ht:∀ t∈looks ops o,get τ.sl t=get σ.sl t) (hs:Srt σ.ob) (hs':Srt τ.ob) (ha:∀ l∈lab,get τ.ob l=get σ.ob l):stepD P hn C K O key ops o τ=some ((D,lab),ps):=by
  unfold stepD at h ⊢
  rw [wanted_agree ht]
  split at h
  · obtain ⟨e,p,q,h1,h2,rfl⟩:=with_inv h
    refine with_mk ?_ h2
    rw [hl,effOp_congr (val:=opdA τ) (val':=opdA σ) o.op (fun x hx=>opdA_agree fun t e=>ht t (by
      subst e
      exact List.mem_append_left _ (List.mem_filterMap.2 ⟨.tmp t,by simpa using hx,rfl⟩)))]
    refine effOp_agree hs hs' h1 ?_
    rcases effOp_touch h1 with hv | ⟨r,rfl⟩ | ⟨out,hh,rfl⟩
    · exact .inl hv
    · refine .inr fun l hl=>ha l ?_
      rcases dlEff_lab h2 with ⟨⟨_,he⟩,_⟩ | ⟨T,r',he,_,rfl⟩ | ⟨T,o',h',h'',he,_⟩
      · simp at he
      · simp only [Eff.read.injEq] at he; rw [← he.1]; exact hl
      · simp at he
    · refine .inr fun l hl=>ha l ?_
      rcases dlEff_lab h2 with ⟨⟨_,he⟩,_⟩ | ⟨T,r',he,_,rfl⟩ | ⟨T,o',h',h'',he,_,rfl⟩
      · simp at he
      · simp at he
      · simp only [Eff.write.injEq] at he; rw [← he.1]; exact List.mem_append_left _ hl
  · exact h
  · simp at h
theorem stepD_heapless {key:Nat} {ops:Array Oper} {o:Oper} {σ:St} {D:Dl} {lab:List Nat} {ps:List Prop} (h:stepD P hn C K O key ops o σ=some ((D,lab),ps)) (hh:heapless o.op=true):D.w=none∧lab=[]:=by
  unfold stepD at h
  split at h
  · obtain ⟨e,p,q,h1,h2,rfl⟩:=with_inv h
    have hv:∃ r,e=.val r:=by
      obtain ⟨dst,op,ty,pos,af,gd⟩:=o
      simp only at hh h1
      unfold effOp at h1
      split at h1
      · simp only [Option.some.injEq,Prod.mk.injEq] at h1
        exact ⟨_,h1.1.symm⟩
      · exfalso
        cases op<;>simp only [heapless] at hh<;>first | (cases hh; done) | (simp [readOp,writeOp] at h1)
    obtain ⟨r,rfl⟩:=hv
    rcases dlEff_lab h2 with ⟨_,hw,hl⟩ | ⟨_,_,he,_⟩ | ⟨_,_,_,_,he,_⟩
    · exact ⟨hw,hl⟩
    · simp at he
    · simp at he
  · simp only [pure0,Option.some.injEq,Prod.mk.injEq] at h
    obtain ⟨⟨rfl,rfl⟩,_⟩:=h
    exact ⟨rfl,rfl⟩
  · simp at h
theorem stepD_reads {key:Nat} {ops:Array Oper} {o:Oper} {σ:St} {D:Dl} {lab:List Nat} {ps:List Prop} (h:stepD P hn C K O key ops o σ=some ((D,lab),ps)) (hh:onlyReads o.op=true):D.w=none:=by
  by_cases hl:heapless o.op=true
  · exact (stepD_heapless h hl).1
  unfold stepD at h
  split at h
  · obtain ⟨e,p,q,h1,h2,rfl⟩:=with_inv h
    have hv:∀ T o h,e≠.write T o h:=by
      intro T out hx he
      subst he
      obtain ⟨dst,op,ty,pos,af,gd⟩:=o
      simp only at hh h1 hl
      unfold effOp at h1
      split at h1
      · simp at h1
      split at h1
      · simp at h1
      cases op with
      | load=>simp [writeOp] at h1
      | lookup=>simp [writeOp] at h1
      | call c=>
        obtain ⟨callee,args,ts⟩:=c
        cases callee with
        | builtin b=>cases b<;>simp only [onlyReads,heapless] at hh<;>first | (cases hh; done) | (simp [writeOp] at h1)
        | _=>simp [onlyReads,heapless] at hh
      | _=>simp only [onlyReads] at hh; exact hl hh
    rcases dlEff_lab h2 with ⟨_,hw,hl⟩ | ⟨_,_,he,hw,_⟩ | ⟨_,_,_,_,he,_⟩
    · exact hw
    · exact hw
    · exact absurd he (hv _ _ _)
  · simp only [pure0,Option.some.injEq,Prod.mk.injEq] at h
    obtain ⟨⟨rfl,rfl⟩,_⟩:=h
    rfl
  · simp at h
theorem get_put (d:Option Tmp) (r:AV) (sl:Sl) (t:Tmp):get (put d r sl) t=if d=some t then some r else get sl t:=by
  cases d with
  | none=>simp [put]
  | some d=>simp only [put,get_ins,Option.some.injEq]
theorem Srt.put {sl:Sl} (h:Srt sl) (d:Option Tmp) (r:AV):Srt (Rx.put d r sl):=by
  cases d with
  | none=>exact h
  | some d=>exact (h.ins d r).1
theorem Srt.merge {ob:Ob} (hs:Srt ob) (T:List Nat) (h:Ob):Srt (Rx.merge T h ob):=Srt.insAll (hs.filter _) h
theorem Dl.app_srt {D:Dl} {d:Option Tmp} {σ:St} (h1:Srt σ.sl) (h2:Srt σ.ob):Srt (D.app d σ).sl∧Srt (D.app d σ).ob:=by
  refine ⟨h1.put d D.r,?_⟩
  unfold Dl.app
  cases hw:D.w with
  | none=>exact h2
  | some x=>exact h2.merge _ _
theorem Dl.app_get {D:Dl} {d:Option Tmp} {σ:St} {l:Nat} (h:∀ T hh,D.w=some (T,hh)→l∉T++dom hh):get (D.app d σ).ob l=get σ.ob l:=by
  unfold Dl.app
  cases hw:D.w with
  | none=>rfl
  | some x=>
    obtain ⟨T,hh⟩:=x
    have:=h T hh hw
    simp only [List.mem_append,not_or] at this
    simp only [get_merge]
    have h1:get hh l=none:=(not_has_dom hh l).1 (by
      cases hb:has (dom hh) l
      · rfl
      · exact absurd ((has_iff _ _).1 hb) this.2)
    have h2:has T l=false:=by
      cases hb:has T l
      · rfl
      · exact absurd ((has_iff _ _).1 hb) this.1
    rw [h1,h2]; rfl
def Meek (D:Dl) (l:List Nat) (E:Dl) (m:List Nat):Prop:=(D.w=none∧(l=[]∨E.w=none))∨(E.w=none∧(m=[]∨D.w=none))∨disj l m=true
theorem disj_iff {a b:List Nat}:disj a b=true↔∀ n∈a,n∉b:=by
  simp only [disj,List.all_eq_true,Bool.not_eq_true']
  exact ⟨fun h n hn hb=>by have:=h n hn; rw [(has_iff b n).2 hb] at this; simp at this,fun h n hn=>by
    cases hb:has b n
    · rfl
    · exact absurd ((has_iff b n).1 hb) (h n hn)⟩
theorem Meek.symm {D E:Dl} {l m:List Nat} (h:Meek D l E m):Meek E m D l:=by
  rcases h with h | h | h
  · exact .inr (.inl h)
  · exact .inl h
  · exact .inr (.inr (disj_iff.2 fun n hn hm=>disj_iff.1 h n hm hn))
theorem Meek.agree {D E:Dl} {l m:List Nat} (h:Meek D l E m) (hD:∀ T hh,D.w=some (T,hh)→l=T++dom hh) {d:Option Tmp} {σ:St}:∀ n∈m,get (D.app d σ).ob n=get σ.ob n:=by
  intro n hn
  refine Dl.app_get fun T hh hw hmem=>?_
  rw [← hD T hh hw] at hmem
  rcases h with ⟨h,_⟩ | ⟨_,h⟩ | h
  · rw [hw] at h; simp at h
  · rcases h with h | h
    · rw [h] at hn; simp at hn
    · rw [hw] at h; simp at h
  · exact disj_iff.1 h n hmem hn
theorem has_agree {ob ob':Ob} {n:Nat} (h:get ob' n=get ob n):has (dom ob') n=has (dom ob) n:=by
  cases hb:get ob n with
  | none=>rw [(not_has_dom ob n).2 hb,(not_has_dom ob' n).2 (by rw [h,hb])]
  | some x=>rw [(has_dom ob n).2 ⟨x,hb⟩,(has_dom ob' n).2 ⟨x,by rw [h,hb]⟩]
theorem all_congr_mem {l:List Nat} {p q:Nat→Bool} (h:∀ x∈l,p x=q x):l.all p=l.all q:=by
  induction l with
  | nil=>rfl
  | cons a r ih=>simp only [List.all_cons,h a (by simp),ih fun x hx=>h x (by simp [hx])]
theorem Dl.ok_agree {D:Dl} {lab:List Nat} {ob ob':Ob} (hD:∀ T hh,D.w=some (T,hh)→lab=T++dom hh) (h:∀ n∈lab,get ob' n=get ob n):D.ok ob'=D.ok ob:=by
  unfold Dl.ok
  cases hw:D.w with
  | none=>rfl
  | some x=>
    obtain ⟨T,hh⟩:=x
    have hl:=hD T hh hw
    simp only
    congr 1
    · refine all_congr_mem fun n hn=>?_
      rw [has_agree (h n (by rw [hl]; simp [hn]))]
    · refine all_congr_mem fun n hn=>?_
      rw [has_agree (h n (by rw [hl]; simp [hn]))]
theorem app_comm {D E : Dl} {l m : List Nat} {d e : Option Tmp} {σ : St} (h : Meek D l E m) (hD : ∀ T hh, D.w = some (T, hh) → l = T ++ dom hh) (hE : ∀ T hh, E.w = some (T, hh) → m = T ++ dom hh)
    (hde:∀ t,d=some t→e≠some t) (h1:Srt σ.sl) (h2:Srt σ.ob):E.app e (D.app d σ)=D.app d (E.app e σ):=by
  have a1:=Dl.app_srt (D:=D) (d:=d) h1 h2
  have a2:=Dl.app_srt (D:=E) (d:=e) h1 h2
  have b1:=Dl.app_srt (D:=E) (d:=e) a1.1 a1.2
  have b2:=Dl.app_srt (D:=D) (d:=d) a2.1 a2.2
  have hsl:(E.app e (D.app d σ)).sl=(D.app d (E.app e σ)).sl:=by
    refine Srt.ext b1.1 b2.1 fun t=>?_
    simp only [Dl.app,get_put]
    by_cases x1:e=some t
    · by_cases x2:d=some t
      · exact absurd x1 (hde t x2)
      · rw [if_pos x1,if_neg x2,if_pos x1]
    · rw [if_neg x1,if_neg x1]
  have hob:(E.app e (D.app d σ)).ob=(D.app d (E.app e σ)).ob:=by
    refine Srt.ext b1.2 b2.2 fun n=>?_
    by_cases hn:∃ T hh,D.w=some (T,hh)∧n∈T++dom hh
    · obtain ⟨T,hh,hw,hm⟩:=hn
      have hnl:n∈l:=by rw [hD T hh hw]; exact hm
      have hE0:∀ T' hh',E.w=some (T',hh')→n∉T'++dom hh':=by
        intro T' hh' hw' hm'
        rw [← hE T' hh' hw'] at hm'
        rcases h with ⟨h,_⟩ | ⟨h,_⟩ | h
        · rw [hw] at h; simp at h
        · rw [hw'] at h; simp at h
        · exact disj_iff.1 h n hnl hm'
      rw [Dl.app_get hE0]
      have:∀ τ:St,get (D.app d τ).ob n=match get hh n with | some x=>some x | none=>if has T n then none else get τ.ob n:=by
        intro τ; simp only [Dl.app,hw,get_merge]; try (cases get hh n<;>rfl)
      rw [this,this]
      have:=Dl.app_get (d:=e) (σ:=σ) hE0
      rw [this]
    · have hD0:∀ T hh,D.w=some (T,hh)→n∉T++dom hh:=fun T hh hw hm=>hn ⟨T,hh,hw,hm⟩
      rw [Dl.app_get (σ:=E.app e σ) hD0]
      cases hw:E.w with
      | none=>simp only [Dl.app,hw]; exact Dl.app_get (d:=d) hD0
      | some x=>
        obtain ⟨T,hh⟩:=x
        have:∀ τ:St,get (E.app e τ).ob n=match get hh n with | some x=>some x | none=>if has T n then none else get τ.ob n:=by
          intro τ; simp only [Dl.app,hw,get_merge]; try (cases get hh n<;>rfl)
        rw [this,this,Dl.app_get (d:=d) hD0]
  calc E.app e (D.app d σ)={ σ with sl:=(E.app e (D.app d σ)).sl,ob:=(E.app e (D.app d σ)).ob }:=rfl
    _={ σ with sl:=(D.app d (E.app e σ)).sl,ob:=(D.app d (E.app e σ)).ob }:=by rw [hsl,hob]
    _=D.app d (E.app e σ):=rfl
end g
end Go.Rx
end
noncomputable section
namespace Go.Rx
section g
variable {P:Program} {hn:Hint} {K:FuncId} {O:Orc}
def Run (P:Program) (hn:Hint) (K:FuncId) (O:Orc) (ops:Array Oper) (base:Nat) (lab:Nat→List Nat):List Nat→St→St→Prop
  | [],σ,σ'=>σ=σ'
  | i::l,σ,σ'=>∃ o D ps,ops[i]?=some o∧stepD P hn (Valid P) K O (base + i) ops o σ=some ((D,lab i),ps)∧All ps∧D.ok σ.ob=true∧dstOK σ o.dst=true∧Run P hn K O ops base lab l (D.app o.dst σ) σ'
def Apt (ops:Array Oper) (lab:Nat→List Nat) (i j:Nat):Prop:=∀ x y,ops[i]?=some x→ops[j]?=some y→slotsApart ops x y=true∧
  (heapless x.op=true∨heapless y.op=true∨(onlyReads x.op=true∧onlyReads y.op=true)∨disj (lab i) (lab j)=true)
theorem slotsApart_spec {ops : Array Oper} {x y : Oper} (h : slotsApart ops x y = true) :
    (∀ t,x.dst=some t→t∉looks ops y)∧(∀ t,x.dst=some t→y.dst≠some t)∧(∀ t,y.dst=some t→t∉looks ops x):=by
  unfold slotsApart at h
  simp only [Bool.and_eq_true] at h
  refine ⟨fun t ht=>?_,fun t ht=>?_,fun t ht=>?_⟩
  · have:=h.1; simp only [ht,Bool.and_eq_true,Bool.not_eq_true'] at this
    intro hm; rw [(has_iff _ _).2 hm] at this; simp at this
  · have:=h.1; simp only [ht,Bool.and_eq_true,Bool.not_eq_true'] at this
    intro hm; simp [hm] at this
  · have:=h.2; simp only [ht,Bool.not_eq_true'] at this
    intro hm; rw [(has_iff _ _).2 hm] at this; simp at this
theorem app_looks {D:Dl} {d:Option Tmp} {σ:St} {ts:List Tmp} (h:∀ t,d=some t→t∉ts):∀ t∈ts,get (D.app d σ).sl t=get σ.sl t:=by
  intro t ht
  simp only [Dl.app,get_put]
  rw [if_neg (fun e=>h t e ht)]
theorem Run.swap {ops : Array Oper} {base : Nat} {lab : Nat → List Nat} {i j : Nat} {l : List Nat} {σ σ' : St} (ha : Apt ops lab i j) (h1 : Srt σ.sl) (h2 : Srt σ.ob)
    (h:Run P hn K O ops base lab (i::j::l) σ σ'):Run P hn K O ops base lab (j::i::l) σ σ':=by
  obtain ⟨x,D,p,hx,sx,px,okx,dx,y,E,q,hy,sy,py,oky,dy,rest⟩:=h
  obtain ⟨hsl,hheap⟩:=ha x y hx hy
  obtain ⟨c1,c2,c3⟩:=slotsApart_spec hsl
  have hM:Meek D (lab i) E (lab j):=by
    rcases hheap with h | h | ⟨h,h'⟩ | h
    · have:=stepD_heapless sx h; exact .inl ⟨this.1,.inl this.2⟩
    · have:=stepD_heapless sy h; exact .inr (.inl ⟨this.1,.inl this.2⟩)
    · exact .inl ⟨stepD_reads sx h,.inr (stepD_reads sy h')⟩
    · exact .inr (.inr h)
  have lD:=stepD_lab sx
  have lE:=stepD_lab sy
  have s1:=Dl.app_srt (D:=D) (d:=x.dst) h1 h2
  have s2:=Dl.app_srt (D:=E) (d:=y.dst) h1 h2
  have agE:=hM.agree lD (d:=x.dst) (σ:=σ)
  have agD:=hM.symm.agree lE (d:=y.dst) (σ:=σ)
  refine ⟨y,E,q,hy,?_,py,?_,dy,x,D,p,hx,?_,px,?_,dx,?_⟩
  · exact stepD_agree sy rfl (fun t ht=>(app_looks c1 t ht).symm) s1.2 h2 (fun n hn=>(agE n hn).symm)
  · rw [← Dl.ok_agree lE agE]; exact oky
  · exact stepD_agree sx rfl (app_looks c3) h2 s2.2 agD
  · rw [Dl.ok_agree lD agD]; exact okx
  · rw [← app_comm hM lD lE (fun t e=>c2 t e) h1 h2]; exact rest
theorem Run.front {ops : Array Oper} {base : Nat} {lab : Nat → List Nat} {j : Nat} {l₂ : List Nat} {σ' : St} : ∀ (l₁ : List Nat) (σ : St), (∀ i ∈ l₁, Apt ops lab i j) → Srt σ.sl → Srt σ.ob →
    Run P hn K O ops base lab (l₁++j::l₂) σ σ'→Run P hn K O ops base lab (j::(l₁++l₂)) σ σ'
  | [],_,_,_,_,h=>h
  | i::l₁,σ,ha,h1,h2,h=>by
    refine Run.swap (ha i (by simp)) h1 h2 ?_
    obtain ⟨x,D,p,hx,sx,px,okx,dx,rest⟩:=h
    have s1:=Dl.app_srt (D:=D) (d:=x.dst) h1 h2
    exact ⟨x,D,p,hx,sx,px,okx,dx,Run.front l₁ _ (fun k hk=>ha k (by simp [hk])) s1.1 s1.2 rest⟩
theorem opsA_run {ops : Array Oper} {base : Nat} {lab : Nat → List Nat} : ∀ (l : List Oper) (k : Nat) (σ : St) (e : Ex) (σ' : St) (labs : List (List Nat)) (ps : List Prop), (∀ j, l[j]? = ops[k + j]?) → (∀ j, lab (k + j) = labs.getD j []) →
    opsA P hn (Valid P) K O ops (base + k) l σ=some ((e,σ',labs),ps)→All ps→Run P hn K O ops base lab (List.range' k l.length) σ σ'
  | [],k,σ,e,σ',labs,ps,hl,hb,hs,hp=>by
    have:=pure0_some hs
    simp only [Prod.mk.injEq] at this
    exact this.2.1.symm
  | o::l,k,σ,e,σ',labs,ps,hl,hb,hs,hp=>by
    simp only [opsA] at hs
    obtain ⟨s,p1,p2,e1,e2,hp1,hp2⟩:=with_some hs hp
    obtain ⟨D,lb,hD,ok1,ok2,rfl⟩:=stepA_form.1 e1
    simp only at e2
    obtain ⟨⟨e',σ2,labs'⟩,p3,p4,e3,e4,hp3,hp4⟩:=with_some e2 hp2
    have:=pure0_some e4
    simp only [Prod.mk.injEq] at this
    obtain ⟨rfl,rfl,rfl⟩:=this
    have h0:ops[k]?=some o:=by simpa using (hl 0).symm
    have hlab:lab k=lb:=by simpa using hb 0
    simp only [List.length_cons,List.range'_succ]
    refine ⟨o,D,p1,h0,by rw [hlab]; exact hD,hp1,ok1,ok2,?_⟩
    refine opsA_run l (k + 1) _ e σ' labs' p3 (fun j=>?_) (fun j=>?_) e3 hp3
    · have:=hl (j + 1); simpa [Nat.add_assoc,Nat.add_comm 1 j] using this
    · have:=hb (j + 1); simpa [Nat.add_assoc,Nat.add_comm 1 j] using this
def aheadOf (acc:List (List Nat)) (o:Oper):List Nat:=o.after.toList.foldl (fun s e=>if Region.binds .any e then (e.on::(acc.getD e.on []))++s else s) []
theorem fold_prefix (l:List Oper):∀ acc:List (List Nat),∃ post,l.foldl (fun acc o=>acc++[aheadOf acc o]) acc=acc++post:=by
  induction l with
  | nil=>exact fun acc=>⟨[],by simp⟩
  | cons o l ih=>
    intro acc
    obtain ⟨post,h⟩:=ih (acc++[aheadOf acc o])
    exact ⟨aheadOf acc o::post,by simp only [List.foldl_cons,h]; simp⟩
theorem fold_at:∀ (l:List Oper) (acc:List (List Nat)) (j:Nat) (o:Oper),l[j]?=some o→∃ pre post,l.foldl (fun acc o=>acc++[aheadOf acc o]) acc=pre++aheadOf pre o::post∧pre.length=acc.length + j
  | [],_,_,_,h=>by simp at h
  | o'::l,acc,0,o,h=>by
    simp only [List.length_cons,Nat.zero_lt_succ,List.getElem?_cons_zero,Option.some.injEq] at h
    subst h
    obtain ⟨post,h⟩:=fold_prefix l (acc++[aheadOf acc o'])
    exact ⟨acc,post,by simp only [List.foldl_cons,h]; simp,rfl⟩
  | o'::l,acc,j + 1,o,h=>by
    obtain ⟨pre,post,h1,h2⟩:=fold_at l (acc++[aheadOf acc o']) j o (by simpa using h)
    exact ⟨pre,post,by simp only [List.foldl_cons,h1],by simp at h2; omega⟩
theorem mem_fold {acc:List (List Nat)} {k:Nat} (es:List Edge):∀ s,k∈es.foldl (fun s e=>if Region.binds .any e then (e.on::(acc.getD e.on []))++s else s) s→k∈s∨∃ e∈es,Region.binds .any e=true∧(k=e.on∨k∈acc.getD e.on []):=by
  induction es with
  | nil=>intro s h; exact .inl h
  | cons e es ih=>
    intro s h
    simp only [List.foldl_cons] at h
    rcases ih _ h with h | ⟨e',h1,h2⟩
    · split at h
      · rename_i hb
        simp only [List.cons_append,List.mem_cons,List.mem_append] at h
        rcases h with h | h | h
        · exact .inr ⟨e,by simp,hb,.inl h⟩
        · exact .inr ⟨e,by simp,hb,.inr h⟩
        · exact .inl h
      · exact .inl h
    · exact .inr ⟨e',by simp [h1],h2⟩
theorem mem_aheads {ops:Array Oper} {i k:Nat} {o:Oper} (ho:ops[i]?=some o) (h:k∈(aheads ops).getD i []):∃ e∈o.after.toList,Region.binds .any e=true∧(k=e.on∨k∈(aheads ops).getD e.on []):=by
  obtain ⟨pre,post,h1,h2⟩:=fold_at ops.toList [] i o (by simpa using ho)
  have h1:aheads ops=pre++aheadOf pre o::post:=h1
  simp only [List.length_nil,Nat.zero_add] at h2
  rw [h1] at h
  have:(pre++aheadOf pre o::post).getD i []=aheadOf pre o:=by
    rw [List.getD_eq_getElem?_getD,List.getElem?_append_right (by omega)]; simp [h2]
  rw [this] at h
  rcases mem_fold _ _ h with h | ⟨e,he,hb,h⟩
  · simp at h
  · refine ⟨e,he,hb,h.imp id fun h=>?_⟩
    rw [h1,List.getD_eq_getElem?_getD]
    rw [List.getD_eq_getElem?_getD] at h
    by_cases hlt:e.on < pre.length
    · rw [List.getElem?_append_left hlt]; exact h
    · rw [List.getElem?_eq_none (by omega)] at h; simp at h
theorem getD_set {a:Array Bool} {i k:Nat} {d:Bool} (hi:i < a.size):(a.setIfInBounds i true).getD k d=if k=i then true else a.getD k d:=by
  rw [Array.getD_eq_getD_getElem?,Array.getD_eq_getD_getElem?,Array.getElem?_setIfInBounds]
  by_cases h:i=k
  · subst h; simp [hi]
  · rw [if_neg h,if_neg (fun e=>h e.symm)]
theorem getD_free {a:Array Bool} {k:Nat} (hk:k < a.size):a.getD k true=a.getD k false:=by
  rw [Array.getD_eq_getD_getElem?,Array.getD_eq_getD_getElem?,Array.getElem?_eq_getElem hk]; rfl
def rest (n:Nat) (listed:Array Bool):List Nat:=(List.range n).filter fun i=>!listed.getD i true
theorem mem_rest {n:Nat} {listed:Array Bool} {i:Nat}:i∈rest n listed↔i < n∧listed.getD i true=false:=by
  simp [rest]
theorem rest_sorted (n:Nat) (listed:Array Bool):(rest n listed).Pairwise (· < ·):=List.Pairwise.filter _ List.pairwise_lt_range
theorem rest_set {n i:Nat} {listed:Array Bool} {l₁ l₂:List Nat} (hi:i < listed.size) (h:rest n listed=l₁++i::l₂):rest n (listed.setIfInBounds i true)=l₁++l₂:=by
  have h1:rest n (listed.setIfInBounds i true)=(rest n listed).filter fun k=>decide (k≠i):=by
    unfold rest
    rw [List.filter_filter]
    congr 1
    funext k
    rw [getD_set hi]
    by_cases e:k=i<;>simp [e]
  have hs:=rest_sorted n listed
  rw [h] at hs
  rw [h1,h,List.filter_append,List.filter_cons]
  simp only [ne_eq,not_true_eq_false,decide_false,Bool.false_eq_true,if_false]
  rw [List.pairwise_append] at hs
  have f1:l₁.filter (fun k=>decide (¬ k=i))=l₁:=List.filter_eq_self.2 fun k hk=>by
    have:=hs.2.2 k hk i (by simp); simp; omega
  have f2:l₂.filter (fun k=>decide (¬ k=i))=l₂:=List.filter_eq_self.2 fun k hk=>by
    have:=(List.pairwise_cons.1 hs.2.1).1 k hk; simp; omega
  rw [f1,f2]
section any
variable {ops:Array Oper} {base:Nat} {lab:Nat→List Nat}
theorem apt_of {labs : List (List Nat)} {i j : Nat} (hd : drawOK ops = true) (hap : apartAll labs (askPairs ops) = true) (hlab : ∀ k, lab k = labs.getD k [])
    (hij:i < j) (hj:j < ops.size) (hun:¬ i∈(aheads ops).getD j []):Apt ops lab i j:=by
  have hmem:(i,j)∈unordered ops:=by
    unfold unordered pairsOf
    rw [List.mem_filter]
    refine ⟨List.mem_flatMap.2 ⟨j,List.mem_range.2 hj,List.mem_map.2 ⟨i,List.mem_range.2 hij,rfl⟩⟩,?_⟩
    simp only [Bool.not_eq_true']
    cases hb:has ((aheads ops).getD j []) i
    · rfl
    · exact absurd ((has_iff _ _).1 hb) hun
  intro x y hx hy
  unfold drawOK at hd
  simp only [Bool.and_eq_true] at hd
  have h1:=List.all_eq_true.1 hd.1 (i,j) hmem
  simp only [hx,hy] at h1
  refine ⟨h1,?_⟩
  by_cases c1:heapless x.op=true
  · exact .inl c1
  by_cases c2:heapless y.op=true
  · exact .inr (.inl c2)
  by_cases c3:onlyReads x.op=true∧onlyReads y.op=true
  · exact .inr (.inr (.inl c3))
  refine .inr (.inr (.inr ?_))
  have hask:(i,j)∈askPairs ops:=by
    unfold askPairs
    rw [List.mem_filter]
    refine ⟨hmem,?_⟩
    simp only [hx,hy]
    simp only [Bool.not_eq_true',Bool.or_eq_false_iff,Bool.and_eq_false_iff]
    refine ⟨⟨by simpa using c1,by simpa using c2⟩,?_⟩
    by_cases c4:onlyReads x.op=true
    · right; by_cases c5:onlyReads y.op=true
      · exact absurd ⟨c4,c5⟩ c3
      · simpa using c5
    · left; simpa using c4
  have:=List.all_eq_true.1 hap (i,j) hask
  rw [hlab,hlab]; exact this
theorem any_sound {h₀ : Ob} {γ₀ : Hm} {G₀ : Gh} {w₀ : World} {labs : List (List Nat)} {σ' : St} {Q : Exit → Act → World → Prop} {ro : Option Nat} {nn : Nat} (hd : drawOK ops = true) (hap : apartAll labs (askPairs ops) = true) (hlab : ∀ k, lab k = labs.getD k [])
    (hq:∀ a' w',Fits h₀ γ₀ G₀ w₀ σ' a' w'→Q .normal a' w'):∀ (fuel:Nat) (listed:Array Bool) (σ:St) (a:Act) (w:World),listed.size=ops.size→(rest ops.size listed).length=fuel→
    (∀ m < ops.size,listed.getD m false=true→∀ k∈(aheads ops).getD m [],listed.getD k false=true)→
    Run P hn K O ops base lab (rest ops.size listed) σ σ'→Srt σ.sl→Srt σ.ob→Fits h₀ γ₀ G₀ w₀ σ a w→wpAnyIn (FW ro) nn P .any ops Q fuel listed a w:=by
  intro fuel
  induction fuel with
  | zero=>
    intro listed σ a w hsz hlen hcl hrun h1 h2 hf
    have hnil:=List.length_eq_zero_iff.1 hlen
    rw [hnil] at hrun
    have:σ=σ':=hrun
    subst this
    refine ⟨?_,hq _ _ hf⟩
    unfold Region.ready
    rw [List.filter_eq_nil_iff]
    intro i hi hc
    simp only [Bool.and_eq_true,Bool.not_eq_true'] at hc
    have:i∈rest ops.size listed:=mem_rest.2 ⟨List.mem_range.1 hi,hc.1⟩
    rw [hnil] at this; simp at this
  | succ fuel ih=>
    intro listed σ a w hsz hlen hcl hrun h1 h2 hf
    refine ⟨fun hnone=>?_,fun i hi=>?_⟩
    ·
      exfalso
      obtain ⟨j,l,hr⟩:∃ j l,rest ops.size listed=j::l:=by
        cases hr:rest ops.size listed with
        | nil=>rw [hr] at hlen; simp at hlen
        | cons j l=>exact ⟨j,l,rfl⟩
      have hj:j∈rest ops.size listed:=by rw [hr]; simp
      obtain ⟨hjn,hju⟩:=mem_rest.1 hj
      have hmin:∀ k < j,listed.getD k false=true:=by
        intro k hk
        cases hb:listed.getD k false with
        | true=>rfl
        | false=>
          have:k∈rest ops.size listed:=mem_rest.2 ⟨by omega,by rw [getD_free (by omega)]; exact hb⟩
          have hs:=rest_sorted ops.size listed
          rw [hr] at this hs
          rcases List.mem_cons.1 this with e | e
          · omega
          · have:=(List.pairwise_cons.1 hs).1 k e; omega
      have:j∈Region.ready .any ops listed:=by
        unfold Region.ready
        rw [List.mem_filter]
        refine ⟨List.mem_range.2 hjn,?_⟩
        rw [hju,Array.getElem?_eq_getElem hjn]
        simp only [Bool.not_false,Bool.true_and,Option.map_some,Option.getD_some]
        rw [Array.all_eq_true]
        intro e he
        unfold drawOK at hd
        simp only [Bool.and_eq_true] at hd
        have:=List.all_eq_true.1 hd.2 (ops[j],j) (by
          rw [List.mem_zipIdx_iff_getElem?]; simp [hjn])
        simp only [Bool.and_eq_true] at this
        have:=List.all_eq_true.1 this.1 (ops[j].after[e]) (by simp)
        simp only [Bool.or_eq_true,Bool.not_eq_true',Nat.blt_eq] at this ⊢
        rcases this with h | h
        · exact .inl h
        · exact .inr (hmin _ h)
      rw [hnone] at this; simp at this
    · have hi':=hi
      unfold Region.ready at hi'
      rw [List.mem_filter] at hi'
      obtain ⟨hin,hc⟩:=hi'
      have hin:=List.mem_range.1 hin
      simp only [Bool.and_eq_true,Bool.not_eq_true'] at hc
      obtain ⟨hun,hc⟩:=hc
      rw [Array.getElem?_eq_getElem hin] at hc
      simp only [Option.map_some,Option.getD_some] at hc
      rw [Array.all_eq_true] at hc
      have hoi:ops[i]?=some ops[i]:=Array.getElem?_eq_getElem hin
      have hed:∀ e∈ops[i].after.toList,Region.binds .any e=true→listed.getD e.on false=true:=by
        intro e he hb
        obtain ⟨k,hk,rfl⟩:=Array.mem_iff_getElem.1 (Array.mem_toList_iff.1 he)
        have:=hc k hk
        simp only [Bool.or_eq_true,Bool.not_eq_true'] at this
        rcases this with h | h
        · rw [hb] at h; simp at h
        · exact h
      have hal:∀ k∈(aheads ops).getD i [],listed.getD k false=true:=by
        intro k hk
        obtain ⟨e,he,hb,h⟩:=mem_aheads hoi hk
        have h3:=hed e he hb
        rcases h with rfl | h
        · exact h3
        · refine hcl e.on ?_ h3 k h
          have hne:listed.getD e.on false≠false:=by rw [h3]; simp
          by_cases hlt:e.on < listed.size
          · omega
          · exfalso; apply hne; rw [Array.getD_eq_getD_getElem?,Array.getElem?_eq_none (by omega)]; rfl
      have hir:i∈rest ops.size listed:=mem_rest.2 ⟨hin,hun⟩
      obtain ⟨l₁,l₂,hl⟩:=List.append_of_mem hir
      have hs:=rest_sorted ops.size listed
      rw [hl] at hrun hs
      have hapt:∀ k∈l₁,Apt ops lab k i:=by
        intro k hk
        have hki:k < i:=(List.pairwise_append.1 hs).2.2 k hk i (by simp)
        refine apt_of hd hap hlab hki hin fun hm=>?_
        have h3:=hal k hm
        have:k∈rest ops.size listed:=by rw [hl]; simp [hk]
        have:=(mem_rest.1 this).2
        rw [getD_free (by omega)] at this
        rw [this] at h3; simp at h3
      have hrun:=Run.front l₁ σ hapt h1 h2 hrun
      obtain ⟨o,D,ps,ho,hstep,hps,hok,hds,hrest⟩:=hrun
      rw [hoi] at ho
      simp only [Option.some.injEq] at ho
      subst ho
      have hisz:i < listed.size:=by omega
      have hset:=rest_set hisz hl
      have s1:=Dl.app_srt (D:=D) (d:=ops[i].dst) h1 h2
      have hA:=stepA_form.2 ⟨D,lab i,hstep,hok,hds,rfl⟩
      obtain ⟨γ,G,hst⟩:=hf
      obtain ⟨σ1,lab1,heq,hgo⟩:=stepA_sound hst hA hps
      simp only [SR.next.injEq] at heq
      obtain ⟨rfl,_⟩:=heq
      have hnext:∀ a' w',Fits h₀ γ₀ G₀ w₀ (D.app ops[i].dst σ) a' w'→wpAnyIn (FW ro) nn P .any ops Q fuel (listed.setIfInBounds i true) a' w':=by
        intro a' w' hf'
        refine ih (listed.setIfInBounds i true) _ a' w' (by simpa using hsz) ?_ ?_ (by rw [hset]; exact hrest) s1.1 s1.2 hf'
        · rw [hset]
          have:=congrArg List.length hl
          simp only [List.length_append,List.length_cons] at this ⊢
          omega
        · intro m hm hlm k hk
          rw [getD_set hisz] at hlm ⊢
          by_cases e:m=i
          · subst e
            split
            · rfl
            · exact hal k hk
          · rw [if_neg e] at hlm
            split
            · rfl
            · exact hcl m hm hlm k hk
      unfold wpOpIn
      rw [hoi]
      simp only
      have:=hgo (wpAnyIn (FW ro) nn P .any ops Q fuel (listed.setIfInBounds i true)) Q hnext
      split
      · rename_i hw; rw [if_pos hw] at this; exact this
      · rename_i hw; rw [if_neg hw] at this; exact this
end any
theorem srtB_srt {α:Type}:∀ {l:List (Nat×α)},srtB l=true→Srt l
  | [],_=>List.Pairwise.nil
  | [e],_=>List.pairwise_singleton _ _
  | e::e'::r,h=>by
    simp only [srtB,Bool.and_eq_true,Nat.blt_eq] at h
    have ih:=srtB_srt h.2
    refine List.Pairwise.cons (fun x hx=>?_) ih
    rcases List.mem_cons.1 hx with rfl | hx
    · exact h.1
    · exact Nat.lt_trans h.1 ((List.pairwise_cons.1 ih).1 x hx)
theorem fits_drawn {h₀:Ob} {γ₀:Hm} {G₀:Gh} {w₀:World} {σ:St} {a:Act} {w:World} (h:Fits h₀ γ₀ G₀ w₀ σ a w):Fits h₀ γ₀ G₀ w₀ σ a { w with drawn:=w.drawn + 1 }:=by
  obtain ⟨γ,G,h⟩:=h
  obtain ⟨h1,h2⟩:=grow_ok h.heap G { w with drawn:=w.drawn + 1 } (Nat.le_refl _) (fun _ _=>rfl) (fun _ _ h=>h) (fun b o h k=>absurd h k)
  exact ⟨γ,G,h1,fun t x hx=>by
    obtain ⟨v,hv,hr⟩:=h.slots t x hx
    exact ⟨v,hv,RepV.step h2 _ _ hr⟩,h.size,h.tr.then h2,h.keep,h.defers,h.dfr,h.dfk⟩
theorem draw_ok (hm:P.follows .mixedOrders=true):DrawOK P hn K:=by
  intro O id ops σ σ' e ps hs hp h₀ γ₀ G₀ w₀ a w Q hf hq ro nn
  unfold regionA at hs
  obtain ⟨⟨e1,σ1,labs⟩,p1,p2,g1,g2,hp1,hp2⟩:=with_some hs hp
  have hnorm:=opsA_normal _ _ _ _ _ _ _ g1
  subst hnorm
  simp only at g2
  obtain ⟨hc,g2⟩:=need_some g2
  simp only [Bool.not_true,Bool.false_or,Bool.and_eq_true] at hc
  obtain ⟨⟨⟨hd,hap⟩,hs1⟩,hs2⟩:=hc
  split at g2
  · rename_i σ2 hgc
    have:=pure0_some g2
    simp only [Prod.mk.injEq] at this
    obtain ⟨rfl,rfl⟩:=this
    refine wpIn_region_any hm ?_
    have hrest:rest ops.size (Array.replicate ops.size false)=List.range ops.size:=by
      unfold rest
      rw [List.filter_eq_self]
      intro i hi
      rw [Array.getD_eq_getD_getElem?,Array.getElem?_eq_getElem (by simpa using List.mem_range.1 hi)]
      simp
    have hrun:=opsA_run (ops:=ops) (base:=id * 1000) (lab:=fun k=>labs.getD k []) ops.toList 0 σ .normal σ1 labs p1 (fun j=>by simp) (fun j=>by simp only [Nat.zero_add]) (by rw [Nat.add_zero]; exact g1) hp1
    refine any_sound (ro:=ro) (nn:=nn) (hn:=hn) (K:=K) (O:=O) (base:=id * 1000) hd hap (fun _=>rfl) (fun a' w' hf'=>hq _ _ (gc_sound hgc hf')) ops.size _ σ a _ (by simp) (by rw [hrest]; simp) (fun m _ h=>?_) ?_ (srtB_srt hs1) (srtB_srt hs2) (fits_drawn hf)
    · rw [Array.getD_eq_getD_getElem?] at h
      by_cases hlt:m < ops.size
      · rw [Array.getElem?_eq_getElem (by simpa using hlt)] at h; simp at h
      · rw [Array.getElem?_eq_none (by simpa using hlt)] at h; simp at h
    · rw [hrest,List.range_eq_range']; simpa using hrun
  · simp at g2
end g
end Go.Rx
end
noncomputable section
namespace Go.Rx
section g
variable {P:Program} {hn:Hint} {K:FuncId}
theorem setAll_ok {ob : Ob} {γ : Hm} {G : Gh} {w : World} : ∀ (ps : List Tmp) (args : List AV) (vs : List Value) (sl : Sl) (tmps : Array Value), ps.length = args.length → (∀ t ∈ ps, t < tmps.size) → RepL ob γ G w args vs →
    (∀ t x,get sl t=some x→∃ v,tmps[t]?=some v∧RepV ob γ G w x v)→
    (∀ t x,get (setAll ps args sl) t=some x→∃ v,((ps.zip vs).foldl (fun tmps (p:Nat×Value)=>tmps.setIfInBounds p.1 p.2) tmps)[t]?=some v∧RepV ob γ G w x v)∧((ps.zip vs).foldl (fun tmps (p:Nat×Value)=>tmps.setIfInBounds p.1 p.2) tmps).size=tmps.size
  | [],[],vs,sl,tmps,_,_,_,h=>⟨by simpa [setAll] using h,by simp⟩
  | [],_::_,_,_,_,hl,_,_,_=>by simp at hl
  | _::_,[],_,_,_,hl,_,_,_=>by simp at hl
  | p::ps,x::xs,vs,sl,tmps,hl,hp,hr,h=>by
    simp only [RepL] at hr
    obtain ⟨c,v,r,rfl,h1,h2,h3⟩:=hr
    have ih:=setAll_ok ps xs r (ins p x sl) (tmps.setIfInBounds p v) (by simpa using hl) (fun t ht=>by simpa using hp t (by simp [ht])) h3 (fun t y hy=>by
      rw [get_ins] at hy
      split at hy
      · rename_i e; subst e; cases hy
        exact ⟨v,set_same _ _ _ (hp _ (by simp)),RepV_of h1 h2⟩
      · rename_i e
        obtain ⟨u,g1,g2⟩:=h t y hy
        exact ⟨u,by rw [set_other _ _ _ _ (fun q=>e q.symm)]; exact g1,g2⟩)
    simp only [setAll,List.zip_cons_cons,List.foldl_cons]
    exact ⟨ih.1,by rw [ih.2]; simp⟩
theorem zip_fold (ps:List Tmp) (vs:List Value) (tmps:Array Value):(ps.toArray.zip vs.toArray).foldl (fun tmps (t,a)=>tmps.setIfInBounds t a) tmps=(ps.zip vs).foldl (fun tmps (p:Nat×Value)=>tmps.setIfInBounds p.1 p.2) tmps:=by
  simp
theorem valid_round (hD:DrawOK P hn K) (hR:RangeOK P hn K) {lvl l:Nat} {args:List AV} {h h':Ob} {O:Orc} {out:Out} {qs:List Prop} (hs:roundO P hn (Valid P) K lvl l args h O=some ((out,h'),qs)) (hp:All qs) (lv:Nat):Valid P lv (.yl l) args h out h':=by
  intro γ G w vf vas H hvf hva
  have h1:=RepV_one rfl rfl hvf
  simp only [RepC] at h1
  obtain ⟨h1,_⟩:=h1
  simp only [List.cons.injEq,and_true] at h1
  subst h1
  unfold roundO at hs
  split at hs
  case h_2=>simp at hs
  rename_i ps n sl as0 bd fn d hg
  obtain ⟨hc,hs⟩:=need_some hs
  simp only [Bool.and_eq_true] at hc
  obtain ⟨⟨hlen,hps⟩,hsol⟩:=hc
  have hlen:=Nat.eq_of_beq_eq_true hlen
  obtain ⟨⟨e1,σ1⟩,p1,p2,g1,g2,hp1,hp2⟩:=with_some hs hp
  cases e1<;>simp only at g2<;>try (simp at g2; done)
  split at g2
  case h_2=>simp at g2
  rename_i ps1 n1 sl1 as1 bd1 fn1 d1 hg1
  obtain ⟨⟨e2,σ2⟩,p3,p4,g3,g4,hp3,hp4⟩:=with_some g2 hp2
  simp only at g4
  split at g4
  case h_2=>simp at g4
  rename_i ps2 n2 sl2 as2 bd2 fn2 st2 pe2 d2 j hg2 hj
  obtain ⟨hcl,g4⟩:=need_some g4
  simp only [Bool.and_eq_true] at hcl
  have g4:=pure0_some g4
  simp only [Prod.mk.injEq] at g4
  obtain ⟨rfl,rfl⟩:=g4
  refine ⟨_,rfl,?_⟩
  have h0:=H.obj _ _ hg
  simp only [ObjOK] at h0
  obtain ⟨tmps,fn',k1,k2,k3,k4,k5⟩:=h0
  have hvl:=RepL_len hva
  have hpsl:vas.toArray.size=ps.toArray.size:=by simp; omega
  have hrun:(do let d ← Deferred.ofValue (.func (.yield (γ l).1) #[] #[]) vas.toArray; invoke d.target d.args:Sem Next).run P w=.ok (.round (γ l).1 fn' ((ps.zip vas).foldl (fun tmps (p:Nat×Value)=>tmps.setIfInBounds p.1 p.2) tmps) as0 bd) w:=by
    have:=run_yield (P:=P) (args:=vas.toArray) k1 hpsl
    simp only [Deferred.ofValue,Sem.run_bind,Sem.run_pure,Result.andThen_ok,invoke,Array.empty_append]
    rw [this,zip_fold]
  unfold CallsV
  rw [hrun]
  simp only
  have hset:=setAll_ok ps args vas sl tmps hlen (fun t ht=>by rw [k2]; exact Nat.le_of_ble_eq_true (List.all_eq_true.1 hps t ht)) hva k3
  refine roundIn_of_wpIn (F:=Fence.wide) trivial ?_
  have hfit0:Fits h γ G w { lvl:=lvl,n:=n,keep:=dom h,sl:=setAll ps args sl,ob:=h,rnd:=true } { tmps:=(ps.zip vas).foldl (fun tmps (p:Nat×Value)=>tmps.setIfInBounds p.1 p.2) tmps,defers:=[] } w:=
    ⟨γ,G,H,hset.1,by rw [hset.2]; exact k2,Trans.refl H,fun l o hl=>(mem_dom h l).2 ⟨o,hl⟩,rfl,fun d hd=>by simp at hd,fun d hd=>by simp at hd⟩
  refine codeO_sound hD hR (some (γ l).1) 0 as0 O _ σ1 .normal p1 g1 hp1 (fun hh=>by simp at hh) _ w _ hfit0 fun a1 w1 hf1=>?_
  obtain ⟨γ1,G1,st1⟩:=hf1
  have hγ1:γ1 l=γ l:=by
    obtain ⟨o',q1,q2⟩:=st1.tr.kept l _ hg
    rw [hg1] at q1; cases q1
    exact q2
  have o1:=st1.heap.obj _ _ hg1
  have lt1:=o1.lt trivial
  simp only [ObjOK] at o1
  obtain ⟨tmps1,fn1',m1,m2,m3,m4,m5⟩:=o1
  rw [hγ1] at m1 m5 lt1
  have hT1:=turn_ok st1.heap hg1 (.loop ps1 n1 sl1 as1 bd1 fn1 .busy none d1) G1 (w1.putObj (γ l).1 (.loop { state:=.busy,pending:=none,fn:=fn1',tmps:=tmps1,params:=ps1.toArray,assign:=as1,body:=bd1,defers:=(γ1 d1).1 }))
    (by simp [World.putObj]) (fun b hb=>World.putObj_heap_other (by rw [hγ1] at hb; exact hb)) (keeps_block m5 fun b' hb'=>World.putObj_heap_other hb') (fun _ _ h h'=>absurd h h') rfl
    (fun m hm=>by
      obtain ⟨o,ho⟩:=st1.heap.closed l _ hg1 m (by simpa [AObj.names] using hm)
      by_cases e:l=m
      · exact ⟨_,by rw [get_ins,if_pos e]⟩
      · exact ⟨o,by rw [get_ins,if_neg e]; exact ho⟩) (fun T=>by
      simp only [ObjOK]
      refine ⟨tmps1,fn1',by rw [hγ1]; exact World.putObj_heap_same lt1,m2,fun t x hx=>?_,?_,by rw [hγ1]; exact m5⟩
      · obtain ⟨v,q1,q2⟩:=m3 t x hx
        exact ⟨v,q1,RepV.step T _ _ q2⟩
      · exact dfr_kept T m4)
  refine ⟨_,run_beginRound m1 rfl,?_⟩
  have hfit1:Fits h γ G w { σ1 with ob:=ins l (.loop ps1 n1 sl1 as1 bd1 fn1 .busy none d1) σ1.ob } a1 (w1.putObj (γ l).1 (.loop { state:=.busy,pending:=none,fn:=fn1',tmps:=tmps1,params:=ps1.toArray,assign:=as1,body:=bd1,defers:=(γ1 d1).1 })):=
    ⟨γ1,G1,hT1.1,fun t x hx=>by
      obtain ⟨v,q1,q2⟩:=st1.slots t x hx
      exact ⟨v,q1,RepV.step hT1.2 _ _ q2⟩,st1.size,st1.tr.then hT1.2,st1.keep,st1.defers,fun d hd=>⟨dfr_kept hT1.2 (st1.dfr d hd).1,(st1.dfr d hd).2⟩,st1.dfk⟩
  have hrnd1:σ1.rnd=true:=codeO_rnd _ _ _ _ _ _ g1
  refine codeO_sound hD hR (some (γ l).1) 0 bd O _ σ2 e2 p3 g3 hp3 (fun hh=>by simp only at hh; rw [hrnd1] at hh; simp at hh) _ _ _ hfit1 fun a2 w2 hf2=>?_
  obtain ⟨γ2,G2,st2⟩:=hf2
  have hγ2:γ2 l=γ l:=by
    obtain ⟨o',q1,q2⟩:=st2.tr.kept l _ hg
    rw [hg2] at q1; cases q1
    exact q2
  have o2:=st2.heap.obj _ _ hg2
  have lt2:=o2.lt trivial
  simp only [ObjOK] at o2
  obtain ⟨tmps2,fn2',q1,q2,q3,q4,q5⟩:=o2
  rw [hγ2] at q1 q5 lt2
  have hT2:=turn_ok st2.heap hg2 (.loop ps2 n2 sl2 as2 bd2 fn2 (match (generalizing:=false) j with | none=>.ready | some _=>.done) j d2) G2 (w2.putObj (γ l).1 (.loop { state:=if j.isNone then .ready else .done,pending:=j,fn:=fn2',tmps:=tmps2,params:=ps2.toArray,assign:=as2,body:=bd2,defers:=(γ2 d2).1 }))
    (by simp [World.putObj]) (fun b hb=>World.putObj_heap_other (by rw [hγ2] at hb; exact hb)) (keeps_block q5 fun b' hb'=>World.putObj_heap_other hb') (fun _ _ h h'=>absurd h h') rfl
    (fun m hm=>by
      obtain ⟨o,ho⟩:=st2.heap.closed l _ hg2 m (by simpa [AObj.names] using hm)
      by_cases e:l=m
      · exact ⟨_,by rw [get_ins,if_pos e]⟩
      · exact ⟨o,by rw [get_ins,if_neg e]; exact ho⟩) (fun T=>by
      simp only [ObjOK]
      refine ⟨tmps2,fn2',?_,q2,fun t x hx=>?_,?_,by rw [hγ2]; exact q5⟩
      · rw [hγ2,World.putObj_heap_same lt2]
        cases j<;>rfl
      · obtain ⟨v,r1,r2⟩:=q3 t x hx
        exact ⟨v,r1,RepV.step T _ _ r2⟩
      · exact dfr_kept T q4)
  have hend:=run_endRound (P:=P) j q1
  obtain ⟨hcn,hco⟩:=closedB_some hcl.1
  have hsub : ∀ l' o, get (keepOnly (reach (ins l (.loop ps2 n2 sl2 as2 bd2 fn2 (match (generalizing := false) j with | none => .ready | some _ => .done) j d2) σ2.ob) 500 (dom h) []) (ins l (.loop ps2 n2 sl2 as2 bd2 fn2 (match (generalizing := false) j with | none => .ready | some _ => .done) j d2) σ2.ob)) l' = some o →
      get (ins l (.loop ps2 n2 sl2 as2 bd2 fn2 (match (generalizing:=false) j with | none=>.ready | some _=>.done) j d2) σ2.ob) l'=some o:=fun l' o hl=>(get_only hl).2
  have HK:=hT2.1.sub hsub hco
  have TK:=(st2.tr.then hT2.2).drop hsub fun l' o hl=>(has_dom _ l').1 (List.all_eq_true.1 hcl.2 l' ((mem_dom h l').2 ⟨o,hl⟩))
  have hres:∃ v,(Value.bool j.isNone)=v∧RepV (keepOnly (reach (ins l (.loop ps2 n2 sl2 as2 bd2 fn2 (match (generalizing:=false) j with | none=>.ready | some _=>.done) j d2) σ2.ob) 500 (dom h) []) (ins l (.loop ps2 n2 sl2 as2 bd2 fn2 (match (generalizing:=false) j with | none=>.ready | some _=>.done) j d2) σ2.ob)) γ2 G2 (w2.putObj (γ l).1 (.loop { state:=if j.isNone then .ready else .done,pending:=j,fn:=fn2',tmps:=tmps2,params:=ps2.toArray,assign:=as2,body:=bd2,defers:=(γ2 d2).1 })) (.pv (.b (match (generalizing:=false) j with | none=>true | some _=>false))) v:=
    ⟨_,rfl,RepV_b.2 (by cases j<;>rfl)⟩
  obtain ⟨v,hv,hrep⟩:=hres
  cases e2 with
  | normal=>
    simp only [jumpOf,Option.some.injEq] at hj; subst hj
    exact ⟨_,_,hend,_,rfl,γ2,G2,HK,TK,by rw [hv]; exact hrep⟩
  | ret=>
    simp only [jumpOf,Option.some.injEq] at hj; subst hj
    exact ⟨_,_,hend,_,rfl,γ2,G2,HK,TK,by rw [hv]; exact hrep⟩
  | exit i=>
    simp only [jumpOf,Option.some.injEq] at hj; subst hj
    exact ⟨_,_,hend,_,rfl,γ2,G2,HK,TK,by rw [hv]; exact hrep⟩
  | goto t=>simp [jumpOf] at hj
  | pan v=>simp [jumpOf] at hj
end g
end Go.Rx
end
