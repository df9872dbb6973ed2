/- A part of the proof of AboveAdds: the law returns true for every input, and its arguments read as before. No condition. -/
import Derived.Test.YtmnngfcoenhhkaaGreatAboveAddsF
set_option linter.unusedSimpArgs false
set_option linter.unusedVariables false
set_option linter.unusedSectionVars false
set_option maxRecDepth 100000
noncomputable section
namespace Go.Rx
open Go.Proofs
section n
variable {N:Nat} [Jn N]
theorem qzv {l:List qa} {id:Vector UInt8 16} (h:l.length≤600):ZT N id l=some (qE4 (qmu l id)):=by
 have key:=qjB (B:=jW N id l ((l.length:Nat):Int)) (g:=some) (p:=fun k=>decide ((l.getD k zR).ID=id)) (n:=l.length) (hit:=fun k=>.inl (k:Int)) (fin:=.inr (((l.length:Nat):Int),false)) (fun k hk=>by
  unfold jW qeN qbN
  rw [qE,dec_lt hk,cond_true,run_bind,v3 (d:=zR) hk,Option.bind_some,run_bind,qP,Option.bind_some,qE,qBG,qP,zr,qj (show qx ((k:Int) + 1) by unfold qx; omega),qP,zD]
  cases decide ((l.getD k zR).ID=id)<;>rfl) (by
  unfold jW
  rw [qE,vq (Nat.lt_irrefl _),cond_false,qP]) N 0 (Nat.zero_le _) (by have:=big N; omega)
 have e:Jm N id l ((l.length:Nat):Int) 0=qY (jW N id l ((l.length:Nat):Int)) some N ((0:Nat):Int):=rfl
 unfold ZT J5
 rw [run_bind,e,key,Nat.sub_zero]
 unfold qmu
 cases ZM (fun k=>decide ((l.getD k zR).ID=id)) l.length 0<;>rfl
theorem qqv {l:List qb} (h:l.length≤1000000):vK l=some ():=by
 unfold vK
 cases l with
 | nil=>kernel_rfl
 | cons x r=>
  show Wk (x::r)=_
  unfold Wk V0
  have h2:JV ([]:List qb).length 0 ([]++x::r).length 40:=⟨rfl,by rw [List.nil_append]; unfold q6; omega⟩
  rw [zr,qj (List.isEmpty_cons),zr,qj h2,zr,qj rfl,qP]
theorem qBg {b:qe} (h:je b=true) (id:Vector UInt8 16):qec N b id=some (recAt b id):=by
 have hb:=qi5.1 h
 unfold qec qeC recAt
 rw [run_bind,qzv (by omega),Option.bind_some]
 cases e:qmu b.R id with
 | none=>rfl
 | some i=>
  have hi:=(qD4 e).1
  have hn:decide (((i:Nat):Int) < 0)=false:=decide_eq_false (by omega)
  have hF:=qcI (hb.1 i hi).1
  have ho:Y_ (b.R.getD i zR)=some ():=by
   unfold Y_ qcm
   rw [run_bind,qqv (by omega),Option.bind_some,qP]
  show (Tree.cond (decide (((i:Nat):Int) < 0)) _ (Tree.bind (zp (qe.R b) ((i:Nat):Int)) _)).run some=_
  rw [qE,hn,cond_false,run_bind,v3 (d:=zR) hi,Option.bind_some,run_bind,ho,Option.bind_some,qP]
  rfl
end n
end Go.Rx
end
set_option maxRecDepth 100000
noncomputable section
namespace Go.Rx
open Go.Proofs
theorem qmy {α:Type} {d:α} {l:List α} {k:Nat} (h:k < l.length):l.take (k + 1)=l.take k++[l.getD k d]:=by
 rw [List.take_succ_eq_append_getElem h,List.getD_eq_getElem?_getD,List.getElem?_eq_getElem h]; rfl
def qkl (g:Vector UInt8 16→Option qa) (r:qa) (id:Vector UInt8 16):Option qa:=if r.ID=id then jR (g id) (some r) else g id
theorem qlH {g:Vector UInt8 16→Option qa} {r:qa} {id:Vector UInt8 16}:qkl g r id=if r.ID=id then jR (g id) (some r) else g id:=rfl
theorem qpk {x:Option qa}:jR x none=x:=by cases x<;>rfl
theorem qoP:∀ {l:List qa} {g:Vector UInt8 16→Option qa} {id:Vector UInt8 16},Kn l→l.foldl qkl g id=jR (g id) (rO l id)
 | [],g,id,_=>by rw [qt1,qpk]; rfl
 | r::l,g,id,h=>by
  have hp:=List.pairwise_cons.1 h
  rw [List.foldl_cons,qoP hp.2,Vh,qlH]
  by_cases e:r.ID=id
  ·rw [if_pos e,if_pos e]
   have:rO l id=none:=by
    cases hc:rO l id with
    | none=>rfl
    | some x=>
     have:=hp.1 x (QB hc).1
     rw [e,(QB hc).2,qaW] at this; cases this
   rw [this,qpk]
  ·rw [if_neg e,if_neg e]
def ZZ (id:Vector UInt8 16) (M:List (Vector UInt8 16×qa×Nat)):Option qa:=(fnd (β:=qa) (.ba 16) id M).map (·.1)
theorem qrP {q k:Vector UInt8 16} {p:qa} {c:Nat} {M:List (Vector UInt8 16×qa×Nat)}:ZZ q (Ql (β:=qa) (.ba 16) k p c M).2=if q=k then some p else ZZ q M:=by
 have:=@qmm (El (.ba 16)) qa (JX (.ba 16)) k q p c M
 rw [show ZZ q (Ql (β:=qa) (.ba 16) k p c M).2=@qmt (El (.ba 16)) qa (JX (.ba 16)) q (@qcS (El (.ba 16)) qa (JX (.ba 16)) k p c M).2 from rfl,this]
 by_cases h:q=k
 ·rw [if_pos h]; exact if_pos h
 ·rw [if_neg h]; exact if_neg h
structure qB_ (l:List qa) (nm:List (Vector UInt8 16)) (M:List (Vector UInt8 16×qa×Nat)):Prop where
 nd:nm.Nodup
 val:∀ id,ZZ id M=l.foldl qkl (fun _=>none) id
 mem:∀ id,id∈nm↔ZZ id M≠none
 ok:∀ id r,ZZ id M=some r→zY r=true∧r.ID=id
 len:nm.length≤l.length
def Yn (M:List (Vector UInt8 16×qa×Nat)) (l:List (Vector UInt8 16)):List qa:=l.map fun id=>(ZZ id M).getD zR
theorem qzK {M:List (Vector UInt8 16×qa×Nat)} {id:Vector UInt8 16}:∀ {l:List (Vector UInt8 16)},(∀ i∈l,∃ r,ZZ i M=some r∧r.ID=i)→rO (Yn M l) id=if id∈l then ZZ id M else none
 | [],_=>by rw [if_neg List.not_mem_nil]; rfl
 | i::l,h=>by
  obtain ⟨r,e,hr⟩:=h i (List.mem_cons_self ..)
  show rO ((ZZ i M).getD zR::Yn M l) id=_
  rw [e,Vh,qzK fun j hj=>h j (List.mem_cons_of_mem _ hj)]
  by_cases c:i=id
  ·subst c
   rw [if_pos (show (Option.getD (some r) zR).ID=i from hr),if_pos (List.mem_cons_self ..),e]; rfl
  ·rw [if_neg (show ¬ (Option.getD (some r) zR).ID=id from fun h'=>c (hr.symm.trans h'))]
   by_cases m:id∈l
   ·rw [if_pos m,if_pos (List.mem_cons_of_mem _ m)]
   ·rw [if_neg m,if_neg (fun hm=>by rcases List.mem_cons.1 hm with e' | e'; exact c e'.symm; exact m e')]
section
variable {N:Nat} [Jn N]
theorem qp6 {α:Type} {l:List (List α)} {k:Nat} (h:k < l.length):(l.take (k + 1)).flatten=(l.take k).flatten++l.getD k []:=by
 rw [qmy (d:=[]) h,List.flatten_append]; simp
theorem qwl {α:Type} {l:List (List α)} {k:Nat}:(l.take k).flatten.length≤l.flatten.length:=by
 have:(l.take k).flatten++(l.drop k).flatten=l.flatten:=by rw [← List.flatten_append,List.take_append_drop]
 rw [← this,List.length_append]; omega
theorem qxO {l:List (List qa)} (hl:l.length≤1000) (hf:l.flatten.length≤1000):J9 N l=some l.flatten:=by
 have hN:=big N
 have k1:V5 N l l ((l.length:Nat):Int) 0 0=some (((l.flatten.length:Nat):Int),((l.length:Nat):Int),false):=by
  refine Zi (σ:=Unit) (B:=Q6 N l l ((l.length:Nat):Int)) (g:=some) (at_:=fun k _=>((((l.take k).flatten.length:Nat):Int),(k:Int))) (I:=fun _ _=>True) (f:=fun _ s=>s) (n:=l.length)
   (fin:=fun _=>(((l.flatten.length:Nat):Int),((l.length:Nat):Int),false)) (fun k s hk _=>⟨?_,trivial⟩) (fun s _=>?_) N 0 () trivial (Nat.zero_le _) (by omega)
  ·have e1:(((l.take k).flatten.length:Nat):Int) + (((l.getD k []).length:Nat):Int)=(((l.take (k + 1)).flatten.length:Nat):Int):=by rw [qp6 hk,List.length_append]; omega
   have h2:=qwl (l:=l) (k:=k + 1)
   unfold Q6
   refine w_t (dec_lt hk) (qI (v3 (d:=[]) hk) ?_)
   dsimp only
   rw [e1]
   exact zd (by unfold qx; omega) (w_f (decide_eq_false (by omega)) (zd (Z9 (by omega)) (qZ (by rw [zD]))))
  ·unfold Q6
   exact w_f (vq (Nat.lt_irrefl _)) (qZ (by rw [vq (Nat.lt_irrefl _),List.take_of_length_le (Nat.le_refl _)]))
 have k2:Zl N l ((l.length:Nat):Int) [] 0=some (l.flatten,((l.length:Nat):Int),false):=by
  refine Zi (σ:=Unit) (B:=QQ N l ((l.length:Nat):Int)) (g:=some) (at_:=fun k _=>((l.take k).flatten,(k:Int))) (I:=fun _ _=>True) (f:=fun _ s=>s) (n:=l.length)
   (fin:=fun _=>(l.flatten,((l.length:Nat):Int),false)) (fun k s hk _=>⟨?_,trivial⟩) (fun s _=>?_) N 0 () trivial (Nat.zero_le _) (by omega)
  ·have h2:=qwl (l:=l) (k:=k + 1)
   unfold QQ
   refine w_t (dec_lt hk) (qI (v3 (d:=[]) hk) ?_)
   dsimp only
   rw [← qp6 hk]
   exact zd ⟨rfl,by unfold q6; omega⟩ (zd (Z9 (by omega)) (qZ (by rw [zD])))
  ·unfold QQ
   exact w_f (vq (Nat.lt_irrefl _)) (qZ (by rw [vq (Nat.lt_irrefl _),List.take_of_length_le (Nat.le_refl _)]))
 unfold J9 XK
 refine qI k1 ?_
 by_cases h0:l.flatten.length=0
 ·have kg : Zp ((l.flatten.length : Nat) : Int) = some (.inr ()) := by
     unfold Zp Vb
     exact w_f (decide_eq_false (by omega)) (zd (by unfold qx; omega) (w_f (decide_eq_false (by omega)) (qZ rfl)))
  exact qI kg (w_r rfl (qI ((jo rfl).trans k2) (zd rfl (qZ rfl))))
 ·have kg : Zp ((l.flatten.length : Nat) : Int) = some (.inl ()) := by
     unfold Zp Vb
     exact w_f (decide_eq_false (by omega)) (zd (by unfold qx; omega) (w_t (decide_eq_true (by omega)) (zd ⟨by omega,by unfold q6; omega⟩ (qZ rfl))))
  exact qI kg (w_l rfl (qI ((jo rfl).trans k2) (zd rfl (qZ rfl))))
theorem qDp {r:qa} (h:zY r=true):Y_ r=some ():=by
 unfold Y_ qcm
 exact qI (qqv (by have:=qcI h; omega)) (qZ rfl)
theorem qBX {L : List qa} (hl : L.length ≤ 1000) (hr : ∀ r ∈ L, zY r = true) :
    ∃ nm c M,qde N [] L ((L.length:Nat):Int) [] 0 [] 0=some (nm,c,M,((L.length:Nat):Int),false)∧qB_ L nm M:=by
 have hN:=big N
 have key:∃ y,qY (VE N [] L ((L.length:Nat):Int)) some N ([],0,[],((0:Nat):Int))=some y∧∃ nm c M,y=(nm,c,M,((L.length:Nat):Int),false)∧qB_ L nm M:=by
  refine qgF (I:=fun v=>∃ (k:Nat) (nm:List (Vector UInt8 16)) (c:Nat) (M:List (Vector UInt8 16×qa×Nat)),k≤L.length∧v=(nm,c,M,(k:Int))∧qB_ (L.take k) nm M) (fun v=>L.length - v.2.2.2.toNat) ?_ N _ ⟨0,[],0,[],Nat.zero_le _,rfl,⟨List.nodup_nil,fun _=>rfl,fun id=>⟨fun h=>absurd h List.not_mem_nil,fun h=>(h rfl).elim⟩,fun _ _ h=>(by cases h),Nat.le_refl _⟩⟩ (by simp; omega)
  rintro v ⟨k,nm,c,M,hk,rfl,hi⟩
  by_cases h:k < L.length
  ·left
   have hmem:L.getD k zR∈L:=by rw [List.getD_eq_getElem?_getD,List.getElem?_eq_getElem h]; exact List.getElem_mem h
   have hrec:=hr _ hmem
   have et:∀ id,(L.take (k + 1)).foldl qkl (fun _=>none) id=qkl ((L.take k).foldl qkl fun _=>none) (L.getD k zR) id:=fun id=>by
    rw [qmy (d:=zR) h,List.foldl_append]; rfl
   have hlk:(L.take k).length=k:=by rw [List.length_take]; omega
   have hlk1:(L.take (k + 1)).length=k + 1:=by rw [List.length_take]; omega
   have hv:=hi.val (L.getD k zR).ID
   have hnl:=hi.len
   cases e:fnd (β:=qa) (.ba 16) (L.getD k zR).ID M with
   | none=>
    have hn:ZZ (L.getD k zR).ID M=none:=by unfold ZZ; rw [e]; rfl
    rw [hn] at hv
    refine ⟨(nm++[(L.getD k zR).ID],(Ql (.ba 16) (qa.ID (L.getD k zR)) (L.getD k zR) c M).1,(Ql (.ba 16) (qa.ID (L.getD k zR)) (L.getD k zR) c M).2,((k + 1:Nat):Int)),?_,⟨k + 1,_,_,_,h,rfl,?_⟩,by simp only [Int.toNat_natCast]; omega⟩
    ·unfold VE
     exact w_t (dec_lt h) (qI (v3 (d:=zR) h) (qtt e (zd ⟨rfl,by rw [List.length_append]; unfold q6; simp; omega⟩ (qI (qDp hrec) (zd (Z9 (by omega)) (qZ (by rw [zD]; rfl)))))))
    ·have hpv:∀ id,ZZ id (Ql (.ba 16) (qa.ID (L.getD k zR)) (L.getD k zR) c M).2=if id=(L.getD k zR).ID then some (L.getD k zR) else ZZ id M:=fun id=>qrP
     refine ⟨?_,fun id=>?_,fun id=>?_,fun id r hr'=>?_,?_⟩
     ·refine List.nodup_append.2 ⟨hi.nd,List.nodup_cons.2 ⟨List.not_mem_nil,List.nodup_nil⟩,fun a ha b hb=>?_⟩
      obtain rfl:=List.mem_singleton.1 hb
      intro hab
      rw [hab] at ha
      exact (hi.mem _).1 ha hn
     ·rw [hpv,et,qlH]
      by_cases q:id=(L.getD k zR).ID
      ·rw [if_pos q,if_pos q.symm,q,← hv]; rfl
      ·rw [if_neg q,if_neg (fun x=>q x.symm),hi.val]
     ·rw [hpv,List.mem_append,List.mem_singleton,hi.mem]
      by_cases q:id=(L.getD k zR).ID
      ·rw [if_pos q]; exact ⟨fun _=>by simp,fun _=>.inr q⟩
      ·rw [if_neg q]; exact ⟨fun x=>x.resolve_right q,fun x=>.inl x⟩
     ·rw [hpv] at hr'
      by_cases q:id=(L.getD k zR).ID
      ·rw [if_pos q] at hr'
       obtain rfl:=Option.some.inj hr'
       exact ⟨hrec,q.symm⟩
      ·rw [if_neg q] at hr'; exact hi.ok id r hr'
     ·rw [hlk1,List.length_append]; simp; omega
   | some x=>
    have hn:ZZ (L.getD k zR).ID M=some x.1:=by unfold ZZ; rw [e]; rfl
    rw [hn] at hv
    have hx:=hi.ok _ _ hn
    have ej:=qES (N:=N) hx.1 hrec hx.2
    refine ⟨(nm,(Ql (.ba 16) (qa.ID (L.getD k zR)) (rJ x.1 (L.getD k zR)) c M).1,(Ql (.ba 16) (qa.ID (L.getD k zR)) (rJ x.1 (L.getD k zR)) c M).2,((k + 1:Nat):Int)),?_,⟨k + 1,_,_,_,h,rfl,?_⟩,by simp only [Int.toNat_natCast]; omega⟩
    ·unfold VE
     exact w_t (dec_lt h) (qI (v3 (d:=zR) h) (qnP e (qI ej (zd (Z9 (by omega)) (qZ (by rw [zD]))))))
    ·have hpv:∀ id,ZZ id (Ql (.ba 16) (qa.ID (L.getD k zR)) (rJ x.1 (L.getD k zR)) c M).2=if id=(L.getD k zR).ID then some (rJ x.1 (L.getD k zR)) else ZZ id M:=fun id=>qrP
     refine ⟨hi.nd,fun id=>?_,fun id=>?_,fun id r hr'=>?_,?_⟩
     ·rw [hpv,et,qlH]
      by_cases q:id=(L.getD k zR).ID
      ·rw [if_pos q,if_pos q.symm,q,← hv]; rfl
      ·rw [if_neg q,if_neg (fun x=>q x.symm),hi.val]
     ·rw [hpv,hi.mem]
      by_cases q:id=(L.getD k zR).ID
      ·rw [if_pos q,q,hn]; simp
      ·rw [if_neg q]
     ·rw [hpv] at hr'
      by_cases q:id=(L.getD k zR).ID
      ·rw [if_pos q] at hr'
       obtain rfl:=Option.some.inj hr'
       exact ⟨ZD hx.1 hrec,by rw [qEQ,hx.2,q]⟩
      ·rw [if_neg q] at hr'; exact hi.ok id r hr'
     ·rw [hlk1]; omega
  ·right
   obtain rfl:k=L.length:=by omega
   rw [List.take_of_length_le (Nat.le_refl _)] at hi
   refine ⟨(nm,c,M,((L.length:Nat):Int),false),_,?_,rfl,nm,c,M,rfl,hi⟩
   unfold VE
   exact w_f (vq (Nat.lt_irrefl _)) (qZ (by rw [vq (Nat.lt_irrefl _)]))
 obtain ⟨y,e,nm,c,M,rfl,h⟩:=key
 exact ⟨nm,c,M,e,h⟩
theorem qDN {nm : List (Vector UInt8 16)} {c n : Nat} {M : List (Vector UInt8 16 × qa × Nat)} (hn : nm.length = n) (hl : n ≤ 1000) (h : ∀ i ∈ nm, ∃ r, ZZ i M = some r ∧ r.ID = i) :
    qbM N [] nm c M n ((n:Nat):Int) [] 0=some (Yn M nm,((n:Nat):Int),false):=by
 subst hn
 have hN:=big N
 refine Zi (σ:=Unit) (B:=XX N [] nm c M nm.length ((nm.length:Nat):Int)) (g:=some) (at_:=fun k _=>(Yn M (nm.take k),(k:Int))) (I:=fun _ _=>True) (f:=fun _ s=>s) (n:=nm.length)
  (fin:=fun _=>(Yn M nm,((nm.length:Nat):Int),false)) (fun k s hk _=>⟨?_,trivial⟩) (fun s _=>?_) N 0 () trivial (Nat.zero_le _) (by omega)
 ·have hmem:nm.getD k (Vector.replicate 16 0)∈nm:=by rw [List.getD_eq_getElem?_getD,List.getElem?_eq_getElem hk]; exact List.getElem_mem hk
  obtain ⟨r,hr,_⟩:=h _ hmem
  have hf:∃ x,fnd (β:=qa) (.ba 16) (nm.getD k (Vector.replicate 16 0)) M=some x∧x.1=r:=by
   unfold ZZ at hr
   cases e:fnd (β:=qa) (.ba 16) (nm.getD k (Vector.replicate 16 0)) M with
   | none=>rw [e] at hr; cases hr
   | some x=>rw [e] at hr; exact ⟨x,rfl,Option.some.inj hr⟩
  obtain ⟨x,ex,hx⟩:=hf
  have eo:Yn M (nm.take (k + 1))=Yn M (nm.take k)++[x.1]:=by
   unfold Yn
   rw [qmy (d:=Vector.replicate 16 0) hk,List.map_append,List.map_cons,hr,hx]; rfl
  have cav:JV (Yn M (nm.take k)).length (Yn M (nm.take k)).length (Yn M (nm.take k)++[x.1]).length 56:=⟨rfl,by
   rw [List.length_append]; unfold Yn; rw [List.length_map,List.length_take]; unfold q6; simp; omega⟩
  unfold XX
  exact w_t (dec_lt hk) (zd ⟨by show (0:Int)≤(k:Int); omega,by show (k:Int) < _; omega⟩ (qI (qEl rfl hk) (qnP ex (zd cav (zd (Z9 (by omega)) (qZ (by rw [zD,eo])))))))
 ·unfold XX
  exact w_f (vq (Nat.lt_irrefl _)) (qZ (by rw [vq (Nat.lt_irrefl _),List.take_of_length_le (Nat.le_refl _)]))
theorem W7 {b:qe} (h:je b=true):Qo N b:=by
 have hN:=big N
 have hb:=qi5.1 h
 exact ⟨by omega,by omega,fun k hk=>by have:=qcI (hb.1 k hk).1; exact ⟨by omega,by omega⟩⟩
def qgT (c:List qa):qe×Int:=if c.length≤10 then (qe.mk c,0) else (qe.mk [],4)
theorem qsm {a b:qe} (ha:je a=true) (hb:je b=true):∃ c,qcX a.R b.R c∧JM N a b=some (qgT c):=by
 have hA:=ZW.1 ha
 have hB:=ZW.1 hb
 have hfl:[a.R,b.R].flatten=a.R++b.R:=by simp
 have hll:(a.R++b.R).length≤20:=by rw [List.length_append]; omega
 have ec:=qxO (N:=N) (l:=[a.R,b.R]) (by simp) (by rw [hfl]; omega)
 rw [hfl] at ec
 obtain ⟨nm,c,M,el,hi⟩:=qBX (N:=N) (L:=a.R++b.R) (by omega) (fun r hr=>by
  rcases List.mem_append.1 hr with h | h
  ·exact hA.1.2 r h
  ·exact hB.1.2 r h)
 have hval:∀ id,ZZ id M=jR (rO a.R id) (rO b.R id):=fun id=>by
  rw [hi.val,List.foldl_append,qoP hB.1.1,qoP hA.1.1]; rfl
 obtain ⟨hs,hp⟩:=qAW hi.nd
 have hin:∀ i∈vu nm,∃ r,ZZ i M=some r∧r.ID=i:=fun i h=>by
  have:=(hi.mem i).1 (hp.mem_iff.1 h)
  cases e:ZZ i M with
  | none=>exact (this e).elim
  | some r=>exact ⟨r,rfl,(hi.ok i r e).2⟩
 have hlen:(Yn M (vu nm)).length=nm.length:=by unfold Yn; rw [List.length_map,hp.length_eq]
 refine ⟨Yn M (vu nm),⟨?_,fun id=>?_⟩,?_⟩
 ·unfold Kn Yn
  rw [List.pairwise_map]
  refine (List.Pairwise.and_mem.1 hs).imp fun {i j} h=>?_
  obtain ⟨r,e1,h1⟩:=hin i h.1
  obtain ⟨s,e2,h2⟩:=hin j h.2.1
  rw [e1,e2]
  show lbB r.ID s.ID=true
  rw [h1,h2]; exact h.2.2
 ·rw [qzK hin,← hval]
  by_cases m:id∈vu nm
  ·rw [if_pos m]
  ·rw [if_neg m]
   cases e:ZZ id M with
   | none=>rfl
   | some r=>exact (m (hp.mem_iff.2 ((hi.mem id).2 (by rw [e]; simp)))).elim
 ·have hnl:=hi.len
  unfold JM qa7
  refine qI (qkn (W7 ha)) (w_f (by rw [ha]; rfl) (qI (qkn (W7 hb)) (w_f (by rw [hb]; rfl) (qI ec (qI ((jo rfl).trans ((jo rfl).trans el)) ?_)))))
  unfold qgT
  rw [hlen]
  by_cases h10:nm.length≤10
  ·rw [if_pos h10]
   exact w_f (decide_eq_false (by show ¬ (10:Int) < ((nm.length:Nat):Int); omega)) (qI ((jo rfl).trans (qCT (by show nm.length≤12; omega))) (qI ((jo rfl).trans ((jo rfl).trans (qDN hp.length_eq (by show nm.length≤1000; omega) hin))) (zd rfl (qZ rfl))))
  ·rw [if_neg h10]
   exact w_t (decide_eq_true (by show (10:Int) < ((nm.length:Nat):Int); omega)) (zd rfl (qZ rfl))
theorem qsr {a b:qe} (fa:Qo N a) (fb:Qo N b) (h:¬ (je a=true∧je b=true)):JM N a b=some (qe.mk [],1):=by
 unfold JM qa7
 refine qI (qkn fa) ?_
 cases ha:je a with
 | false=>exact w_t rfl (zd rfl (qZ rfl))
 | true=>
  refine w_f rfl (qI (qkn fb) ?_)
  cases hb:je b with
  | false=>exact w_t rfl (zd rfl (qZ rfl))
  | true=>exact (h ⟨ha,hb⟩).elim
end
end Go.Rx
end
set_option maxRecDepth 100000
noncomputable section
namespace Go.Rx
open Go.Proofs
def Zs (p:qa):Bool:=decide (p.qQ=zSt)&&decide (p.F.length=0)
end Go.Rx
end
set_option maxRecDepth 100000
noncomputable section
namespace Go.Rx
open Go.Proofs
def jB (N:Nat) (a b:qe):qe×Int:=(JM N a b).getD (qe.mk [],0)
def Zk (p:qa):qa:=qa.mk p.ID p.qQ []
def Qe (p:qa):qa:=qa.mk p.ID zSt p.F
def vD (N:Nat) (b:qe) (e:qa):qe×Int:=if Zs e=true then (b,0) else jB N b (qe.mk [e])
theorem qsU {N:Nat} {b:qe} {e:qa} (h:Zs e=true):vD N b e=(b,0):=if_pos h
theorem qtD {N:Nat} {b:qe} {e:qa} (h:Zs e=false):vD N b e=jB N b (qe.mk [e]):=if_neg (by rw [h]; simp)
def qis (N:Nat) (b:qe) (e1 e2:qa):qe×Int:=
 if (vD N b e1).2=0 then (if (vD N (vD N b e1).1 e2).2=0 then ((vD N (vD N b e1).1 e2).1,0) else (qe.mk [],(vD N (vD N b e1).1 e2).2)) else (qe.mk [],(vD N b e1).2)
def qlO (b:qe) (p:qa):Bool:=je b&&(!Zs p&&(stB p.qQ&&(decide (p.F.length=0)||zY (Qe p))))
def vo (N:Nat) (b:qe) (p:qa):qe×Int:=if qlO b p=true then qis N b (Zk p) (Qe p) else (qe.mk [],1)
section
variable {N:Nat} [Jn N]
theorem qCH {a b:qe} (fa:Qo N a) (fb:Qo N b):JM N a b=some (jB N a b):=by
 unfold jB
 by_cases h:je a=true∧je b=true
 ·obtain ⟨c,_,e⟩:=qsm (N:=N) h.1 h.2
  rw [e]; rfl
 ·rw [qsr fa fb h]; rfl
theorem qyx {a b:qe} (ha:je a=true) (hb:je b=true):∃ c,qcX a.R b.R c∧jB N a b=qgT c:=by
 obtain ⟨c,hc,e⟩:=qsm (N:=N) ha hb
 exact ⟨c,hc,by unfold jB; rw [e]; rfl⟩
theorem qEX {a b:qe} (fa:Qo N a) (fb:Qo N b) (h:¬ (je a=true∧je b=true)):jB N a b=(qe.mk [],1):=by
 unfold jB
 rw [qsr fa fb h]; rfl
theorem qvH {a b:qe} (fa:Qo N a) (fb:Qo N b) (h:(jB N a b).2=0):je a=true∧je b=true∧qcX a.R b.R (jB N a b).1.R∧je (jB N a b).1=true:=by
 by_cases hab:je a=true∧je b=true
 ·obtain ⟨c,hc,e⟩:=qyx (N:=N) hab.1 hab.2
  rw [e] at h ⊢
  unfold qgT at h ⊢
  by_cases h10:c.length≤10
  ·rw [if_pos h10] at h ⊢
   exact ⟨hab.1,hab.2,hc,ZW.2 ⟨qyn (ZW.1 hab.1).1 (ZW.1 hab.2).1 hc,h10⟩⟩
  ·rw [if_neg h10] at h; cases h
 ·rw [qEX fa fb hab] at h; cases h
theorem qvW {a b:qe} (ha:je a=true) (hb:je b=true) {c:List qa} (hc:qcX a.R b.R c):jB N a b=qgT c:=by
 obtain ⟨d,hd,e⟩:=qyx (N:=N) ha hb
 rw [e,qwM hc hd]
theorem qlW {e:qa} (h1:e.F.length < N) (h2:e.F.length≤4611686018427387904):Qo N (qe.mk [e]):=by
 have:=big N
 refine ⟨by show 1 < N; omega,by show 1≤4611686018427387904; omega,fun k hk=>?_⟩
 have hk:k < 1:=hk
 obtain rfl:k=0:=by omega
 exact ⟨h1,h2⟩
theorem qz7 {b:qe} {e:qa} (fb:Qo N b) (h1:e.F.length < N) (h2:e.F.length≤4611686018427387904) (h:(vD N b e).2=0):Qo N (vD N b e).1:=by
 unfold vD at *
 split
 ·exact fb
 ·rename_i hn
  rw [if_neg hn] at h
  exact W7 (qvH fb (qlW h1 h2) h).2.2.2
theorem qqt {b : qe} {e : qa} {s47 : List qa} {k : Nat} (hk : k < s47.length) (hs : s47.length ≤ 10) (he : s47.getD k zR = e) (fb : Qo N b) (h1 : e.F.length < N) (h2 : e.F.length ≤ 4611686018427387904) :
    (Vg N [] s47 ((s47.length:Nat):Int) (b,(k:Int))).run some=some (if (vD N b e).2=0 then .inl ((vD N b e).1,((k + 1:Nat):Int)) else .inr (.inr (vD N b e).2)):=by
 unfold Vg
 refine w_t (dec_lt hk) <| qI ((v3 (d:=zR) hk).trans (by rw [he])) <| qI (by
  have e0:eqE ql (qa.qQ e) (qd.mk 0 0)=decide (e.qQ=zSt):=qoL _ _
  have e2:decide (((e.F.length:Nat):Int)=0)=decide (e.F.length=0):=decide_eq_decide.2 (by omega)
  show V6 e=some (Zs e)
  unfold V6 KY Zs
  refine qEr e0 (fun h=>qZ ?_) fun h=>qZ ?_
  ·rw [h]; exact congrArg some e2
  ·rw [h]; rfl) ?_
 cases hn:Zs e with
 | true=>
  rw [qsU hn]
  exact w_t rfl <| zd (Z9 (by omega)) <| qZ (by rw [zD]; rfl)
 | false=>
  rw [qtD hn]
  refine w_f rfl <| qI (qCH fb (qlW h1 h2)) ?_
  by_cases hz:(jB N b (qe.mk [e])).2=0
  ·rw [if_pos hz]
   exact w_f (by rw [decide_eq_true hz]; rfl) <| zd (Z9 (by omega)) <| qZ (by rw [zD])
  ·rw [if_neg hz]
   exact w_t (by rw [decide_eq_false hz]; rfl) <| qZ rfl
theorem qBN {b : qe} {e1 e2 : qa} (fb : Qo N b) (h1 : e1.F.length < N ∧ e1.F.length ≤ 4611686018427387904) (h2 : e2.F.length < N ∧ e2.F.length ≤ 4611686018427387904) :
    ∃ z,VA N [] [e1,e2] ((([e1,e2]:List qa).length:Nat):Int) b 0=some z∧(match z with | .inl w=>(w.1,(0:Int)) | .inr e=>(qe.mk [],e))=qis N b e1 e2:=by
 obtain ⟨M,hM⟩:∃ M,N=M + 3:=⟨N - 3,by have:=big N; omega⟩
 have s0:VA N [] [e1,e2] ((([e1,e2]:List qa).length:Nat):Int) b 0=qY (Vg N [] [e1,e2] ((([e1,e2]:List qa).length:Nat):Int)) some (M + 3) (b,((0:Nat):Int)):=by rw [← hM]; rfl
 rw [s0]
 have r1:=qqt (N:=N) (b:=b) (e:=e1) (s47:=[e1,e2]) (k:=0) (by simp) (by simp) rfl fb h1.1 h1.2
 unfold qis
 by_cases z1:(vD N b e1).2=0
 ·rw [if_pos z1] at r1 ⊢
  rw [JF r1]
  have r2:=qqt (N:=N) (b:=(vD N b e1).1) (e:=e2) (s47:=[e1,e2]) (k:=1) (by simp) (by simp) rfl (qz7 fb h1.1 h1.2 z1) h2.1 h2.2
  by_cases z2:(vD N (vD N b e1).1 e2).2=0
  ·rw [if_pos z2] at r2 ⊢
   rw [JF r2,zK (x:=.inl ((vD N (vD N b e1).1 e2).1,((2:Nat):Int),false)) (by
    unfold Vg
    exact w_f rfl (qZ rfl))]
   exact ⟨_,rfl,rfl⟩
  ·rw [if_neg z2] at r2 ⊢
   rw [zK r2]
   exact ⟨_,rfl,rfl⟩
 ·rw [if_neg z1] at r1 ⊢
  rw [zK r1]
  exact ⟨_,rfl,rfl⟩
theorem qyH {b:qe} {p:qa} (fb:Qo N b) (h1:p.F.length < N) (h2:p.F.length≤4611686018427387904):qbC N b p=some (vo N b p):=by
 have hN:=big N
 have hn:V6 p=some (Zs p):=by
  have e0:eqE ql (qa.qQ p) (qd.mk 0 0)=decide (p.qQ=zSt):=qoL _ _
  have e2:decide (((p.F.length:Nat):Int)=0)=decide (p.F.length=0):=decide_eq_decide.2 (by omega)
  unfold V6 KY Zs
  refine qEr e0 (fun h=>qZ ?_) fun h=>qZ ?_
  ·rw [h]; exact congrArg some e2
  ·rw [h]; rfl
 obtain ⟨z,ez,hz⟩:=qBN (N:=N) (b:=b) (e1:=Zk p) (e2:=Qe p) fb ⟨by show 0 < N; omega,Nat.zero_le _⟩ ⟨h1,h2⟩
 have fin:(Tree.bind (jF [(([]:List qa).length,0)] (VA N [] [Zk p,Qe p] ((([Zk p,Qe p]:List qa).length:Nat):Int) b 0)) fun z5=>.sum z5 (fun z6=>.ret (z6.1,(0:Int))) fun z6=>.chk (0=0) (.ret (qe.mk [],z6))).run some=some (qis N b (Zk p) (Qe p)):=by
  refine qI ((jo rfl).trans ez) ?_
  rw [← hz]
  cases z with
  | inl w=>rfl
  | inr e=>exact w_r rfl <| zd rfl <| qZ rfl
 unfold qbC qeX vo qlO
 refine qI (qkn fb) ?_
 cases hb:je b with
 | false=>exact w_t rfl <| zd rfl <| qZ rfl
 | true=>
  refine w_f rfl <| qI hn ?_
  cases hnp:Zs p with
  | true=>exact w_t rfl <| zd rfl <| qZ rfl
  | false=>
   refine w_f rfl <| qI (qmb _) ?_
   have hst:stB (qa.qQ p)=stB p.qQ:=rfl
   rw [hst]
   cases hs:stB p.qQ with
   | false=>exact w_t rfl <| zd rfl <| qZ rfl
   | true=>
    refine w_f rfl ?_
    by_cases h0:p.F.length=0
    ·rw [decide_eq_true h0]
     exact w_f (decide_eq_false (by show ¬ (0:Int) < ((p.F.length:Nat):Int); omega)) fin
    ·rw [decide_eq_false h0]
     refine w_t (decide_eq_true (by show (0:Int) < ((p.F.length:Nat):Int); omega)) <| qI (qkq (r:=Qe p) h1 h2) ?_
     cases hr:zY (Qe p) with
     | false=>exact w_t rfl <| zd rfl <| qZ rfl
     | true=>exact w_f rfl fin
end
end Go.Rx
end
set_option maxRecDepth 100000
noncomputable section
namespace Go.Rx
open Go.Proofs
theorem qCE {l : Option (Unit ⊕ (Int × Bool))} {n m : Nat} {q : Nat → Bool} (h : n = m → l = some (if Jq q n then .inr (((n : Nat) : Int), false) else .inl ())) :
    (Tree.cond (!decide (((n:Nat):Int)=((m:Nat):Int))) (.ret false) (.bind l fun z=>.sum z (fun _=>.ret false) fun _=>.ret true)).run some=some (decide (n=m)&&Jq q n):=by
 have e:decide (((n:Nat):Int)=((m:Nat):Int))=decide (n=m):=decide_eq_decide.2 (by omega)
 rw [qE,e,qP,run_bind]
 by_cases hn:n=m
 ·rw [decide_eq_true hn,h hn]
  cases Jq q n<;>rfl
 ·rw [decide_eq_false hn]; rfl
theorem qtf {α:Type} {d:α}:∀ {a b:List α},a.length=b.length→(∀ k,k < a.length→a.getD k d=b.getD k d)→a=b
 | [],[],_,_=>rfl
 | [],_::_,h,_=>by simp at h
 | _::_,[],h,_=>by simp at h
 | x::a,y::b,h,hk=>by
  have h0:=hk 0 (by simp)
  simp only [List.getD_cons_zero] at h0
  rw [h0,qtf (a:=a) (b:=b) (by simpa using h) fun k hk'=>by
   have:=hk (k + 1) (by simp; omega)
   simpa using this]
theorem qv1 {t:Ty} {sz:Nat} (a b:List (El t)) (d:El t):(decide (a.length=b.length)&&Jq (fun k=>eqE t (a.getD k d) (b.getD k d)) a.length)=eqE (.sl sz t) a b:=by
 refine Bool.eq_iff_iff.2 (Iff.trans ?_ (QE (.sl sz t) a b).symm)
 rw [Bool.and_eq_true,decide_eq_true_iff,qc9]
 constructor
 ·rintro ⟨h1,h2⟩
  exact qtf (d:=d) h1 fun k hk=>(QE t _ _).1 (h2 k hk)
 ·intro h
  subst h
  exact ⟨rfl,fun k _=>(QE t _ _).2 rfl⟩
end Go.Rx
end
set_option maxRecDepth 100000
noncomputable section
namespace Go.Rx
open Go.Proofs
section n
variable {N:Nat} [Jn N]
theorem quW {a b:List qb} (hN:a.length < N) (h62:a.length≤4611686018427387904):JI N a b=some (eqE (.sl 4 qq) a b):=by
 unfold JI VS
 rw [qCE (q:=fun k=>eqE qq (a.getD k zF) (b.getD k zF)) fun hl=>?_]
 ·rw [show (decide (a.length=b.length)&&Jq (fun k=>eqE qq (a.getD k zF) (b.getD k zF)) a.length)=eqE (.sl 4 qq) a b from qv1 (t:=qq) a b zF]
 ·refine Kh (B:=QM N a b ((a.length:Nat):Int)) (g:=some) (fun k hk=>?_) ?_ hN
  ·have hk2:k < b.length:=by omega
   unfold QM
   rw [qE,dec_lt hk,cond_true,run_bind,v3 (d:=zF) hk,Option.bind_some,run_bind,v3 (d:=zF) hk2,Option.bind_some,qE,qP,zr,qj (show qx ((k:Int) + 1) by unfold qx; omega),qP,zD]
   cases eqE qq (a.getD k zF) (b.getD k zF)<;>rfl
  ·unfold QM
   rw [qE,vq (Nat.lt_irrefl _),cond_false,qP]
theorem qEK (r s:qa):eqE qf r s=(eqE (.ba 16) r.ID s.ID&&(eqE ql r.qQ s.qQ&&eqE (.sl 4 qq) r.F s.F)):=by
 show (eqE (.ba 16) _ _&&(eqE ql _ _&&(eqE (.sl 4 qq) _ _&&true)))=_
 rw [Bool.and_true]
 rfl
theorem qws {r s:qa} (hN:r.F.length < N) (h62:r.F.length≤4611686018427387904):qg2 N r s=some (eqE qf r s):=by
 unfold qg2 qgJ
 rw [qEK,qE,qP,qE,qP,run_bind,quW hN h62,Option.bind_some,qP]
 cases eqE (.ba 16) r.ID s.ID<;>cases eqE ql r.qQ s.qQ<;>rfl
theorem qy8 {a b:List qa} (hN:a.length < N) (h62:a.length≤4611686018427387904) (hF:∀ k,k < a.length→(a.getD k zR).F.length < N∧(a.getD k zR).F.length≤4611686018427387904):ZX N a b=some (eqE (.sl 19 qf) a b):=by
 unfold ZX J1
 rw [qCE (q:=fun k=>eqE qf (a.getD k zR) (b.getD k zR)) fun hl=>?_]
 ·rw [show (decide (a.length=b.length)&&Jq (fun k=>eqE qf (a.getD k zR) (b.getD k zR)) a.length)=eqE (.sl 19 qf) a b from qv1 (t:=qf) a b zR]
 ·refine Kh (B:=Qk N b a ((a.length:Nat):Int)) (g:=some) (fun k hk=>?_) ?_ hN
  ·have hk2:k < b.length:=by omega
   unfold Qk
   rw [qE,dec_lt hk,cond_true,run_bind,v3 (d:=zR) hk,Option.bind_some,run_bind,v3 (d:=zR) hk2,Option.bind_some,run_bind,qws (hF k hk).1 (hF k hk).2,Option.bind_some,qE,qP,zr,qj (show qx ((k:Int) + 1) by unfold qx; omega),qP,zD]
   cases eqE qf (a.getD k zR) (b.getD k zR)<;>rfl
  ·unfold Qk
   rw [qE,vq (Nat.lt_irrefl _),cond_false,qP]
theorem qse {a b:qe} (hf:Qo N a):qbg N a b=some (eqE (.sl 19 qf) a.R b.R):=by
 unfold qbg qe0
 rw [run_bind,qy8 hf.1 hf.2.1 hf.2.2,Option.bind_some,qP]
end n
end Go.Rx
end
set_option maxRecDepth 100000
noncomputable section
namespace Go.Rx
open Go.Proofs
def oP (e:qa) (id:Vector UInt8 16):Option qa:=if Zs e=true then none else rO [e] id
theorem qvR {p:qa} (hs:stB p.qQ=true):Zs (Zk p)=true∨zY (Zk p)=true:=by
 by_cases h:p.qQ=zSt
 ·left
  show (decide (p.qQ=zSt)&&true)=true
  rw [decide_eq_true h]; rfl
 ·right
  exact WI.2 ⟨hs,.inr h,List.Pairwise.nil,fun f hf=>absurd hf List.not_mem_nil⟩
theorem qCI {e:qa} (he:Zs e=true∨zY e=true) (id:Vector UInt8 16):VO id (oP e id):=by
 unfold oP
 split
 ·exact qDM
 ·rename_i hn
  have hr:=he.resolve_left hn
  exact qCF (fun r hr'=>by rw [List.mem_singleton.1 hr']; exact hr) id
section
variable {N:Nat} [Jn N]
theorem qpN {b : qe} {e : qa} (hb : je b = true) (h1 : e.F.length < N) (h2 : e.F.length ≤ 4611686018427387904) (h : (vD N b e).2 = 0) :
    je (vD N b e).1=true∧∀ id,rO (vD N b e).1.R id=jR (rO b.R id) (oP e id):=by
 cases hn:Zs e with
 | true=>
  rw [qsU hn]
  refine ⟨hb,fun id=>?_⟩
  unfold oP
  rw [if_pos hn,qpk]
 | false=>
  rw [qtD hn] at h ⊢
  obtain ⟨_,_,hj,hv⟩:=qvH (W7 hb) (qlW h1 h2) h
  refine ⟨hv,fun id=>?_⟩
  rw [hj.2 id]
  unfold oP
  rw [if_neg (by rw [hn]; simp)]; rfl
theorem qpY {c:qe} {e:qa} (hc:je c=true) (he:Zs e=true∨zY e=true) (h:∀ id,jR (rO c.R id) (oP e id)=rO c.R id):vD N c e=(c,0):=by
 cases hn:Zs e with
 | true=>exact qsU hn
 | false=>
  have hr:zY e=true:=he.resolve_left (by rw [hn]; simp)
  have hC:=ZW.1 hc
  have hb1:je (qe.mk [e])=true:=ZW.2 ⟨⟨List.pairwise_singleton _ _,fun r hr'=>by rw [List.mem_singleton.1 hr']; exact hr⟩,by show 1≤10; omega⟩
  rw [qtD hn,qvW hc hb1 (c:=c.R) ⟨hC.1.1,fun id=>by
   have:=h id
   unfold oP at this
   rw [if_neg (by rw [hn]; simp)] at this
   exact this.symm⟩]
  unfold qgT
  rw [if_pos hC.2]; rfl
theorem qA2 {b:qe} {p:qa} (h:(vo N b p).2≠0):(vo N b p).1=qe.mk []:=by
 unfold vo qis at *
 split at h
 ·rename_i h1
  rw [if_pos h1]
  split at h
  ·rename_i h2
   rw [if_pos h2]
   split at h
   ·exact (h rfl).elim
   ·rename_i h3
    rw [if_neg h3]
  ·rename_i h2
   rw [if_neg h2]
 ·rename_i h1
  rw [if_neg h1]
theorem qp1 {b:qe} {p:qa} (h:(vo N b p).2=0):qlO b p=true∧(vD N b (Zk p)).2=0∧(vD N (vD N b (Zk p)).1 (Qe p)).2=0∧vo N b p=((vD N (vD N b (Zk p)).1 (Qe p)).1,0):=by
 unfold vo qis at *
 split at h
 ·rename_i h1
  rw [if_pos h1]
  split at h
  ·rename_i h2
   rw [if_pos h2]
   split at h
   ·rename_i h3
    rw [if_pos h3]
    exact ⟨h1,h2,h3,rfl⟩
   ·rename_i h3
    exact (h3 h).elim
  ·rename_i h2
   exact (h2 h).elim
 ·cases h
theorem qmg {b:qe} {p:qa}:qlO b p=true↔je b=true∧Zs p=false∧stB p.qQ=true∧(p.F.length=0∨zY (Qe p)=true):=by
 unfold qlO
 rw [Bool.and_eq_true,Bool.and_eq_true,Bool.and_eq_true,Bool.or_eq_true,Bool.not_eq_true',decide_eq_true_iff]
theorem qwm {p:qa} (h:p.F.length=0∨zY (Qe p)=true):Zs (Qe p)=true∨zY (Qe p)=true:=by
 refine h.imp (fun h0=>?_) id
 show (true&&decide (p.F.length=0))=true
 rw [decide_eq_true h0]; rfl
theorem qC2 {b : qe} {p : qa} (h1 : p.F.length < N) (h2 : p.F.length ≤ 4611686018427387904) (h : (vo N b p).2 = 0) :
    je b=true∧je (vo N b p).1=true∧(∀ id,rO (vo N b p).1.R id=jR (jR (rO b.R id) (oP (Zk p) id)) (oP (Qe p) id)):=by
 obtain ⟨ha,z1,z2,e⟩:=qp1 h
 obtain ⟨hb,hn,hs,hl⟩:=qmg.1 ha
 obtain ⟨v1,r1⟩:=qpN (e:=Zk p) hb (by have:=big N; show 0 < N; omega) (Nat.zero_le _) z1
 obtain ⟨v2,r2⟩:=qpN (e:=Qe p) v1 h1 h2 z2
 rw [e]
 exact ⟨hb,v2,fun id=>by rw [r2,r1]⟩
theorem qtY {b:qe} (fb:Qo N b) (p:qa) (h1:p.F.length < N) (h2:p.F.length≤4611686018427387904) (hb62:b.R.length≤4611686018427387904):jI N b p=some true:=by
 obtain ⟨x,ex⟩:=qCX (N:=N) b
 obtain ⟨y,ey⟩:=qvx (N:=N) p
 unfold jI Jg
 refine qI (show qxb=some true from rfl) <| qI ex <| qI ey <| qI (qyH fb h1 h2) <| w_f rfl ?_
 cases x with
 | false=>rfl
 | true=>
  refine w_f rfl ?_
  cases y with
  | false=>rfl
  | true=>
   refine w_f rfl ?_
   by_cases hz:(vo N b p).2=0
   ·obtain ⟨ha,z1,z2,e⟩:=qp1 hz
    obtain ⟨hb,hn,hs,hl⟩:=qmg.1 ha
    obtain ⟨_,hc,hr⟩:=qC2 h1 h2 hz
    have hB:=ZW.1 hb
    have hC:=ZW.1 hc
    have vb:∀ id,VO id (rO b.R id):=fun id=>qCF hB.1.2 id
    have vh:∀ id,VO id (oP (Zk p) id):=fun id=>qCI (qvR hs) id
    have vl:∀ id,VO id (oP (Qe p) id):=fun id=>qCI (qwm hl) id
    have s1:vD N (vo N b p).1 (Zk p)=((vo N b p).1,0):=qpY hc (qvR hs) fun id=>by rw [hr]; exact qDv (vb id) (vh id) (vl id)
    have s2:vD N (vo N b p).1 (Qe p)=((vo N b p).1,0):=qpY hc (qwm hl) fun id=>by rw [hr]; exact qvF (qrI (vb id) (vh id)) (vl id)
    have again:vo N (vo N b p).1 p=((vo N b p).1,0):=by
     have hac:qlO (vo N b p).1 p=true:=qmg.2 ⟨hc,hn,hs,hl⟩
     show (if qlO (vo N b p).1 p=true then qis N (vo N b p).1 (Zk p) (Qe p) else _)=_
     rw [if_pos hac]
     unfold qis
     rw [s1,if_pos rfl,s2,if_pos rfl]
    have leq:qhr N b (vo N b p).1=some true:=by
     have hj:jB N b (vo N b p).1=((vo N b p).1,0):=by
      rw [qvW hb hc (c:=(vo N b p).1.R) ⟨hC.1.1,fun id=>by rw [hr,qc6 (vb id) (vh id) (vl id),qC8 (vb id) (qrI (vh id) (vl id))]⟩]
      unfold qgT
      rw [if_pos hC.2]; rfl
     unfold qhr qhs
     refine qI (qCH fb (W7 hc)) ?_
     rw [hj]
     exact w_t rfl <| qI (qse (W7 hc)) <| qZ (congrArg some ((QE (.sl 19 qf) _ _).2 rfl))
    have hfind:(recAt (vo N b p).1 p.ID).2=true:=by
     have hne:rO (vo N b p).1.R p.ID≠none:=by
      rw [hr]
      have hor:oP (Zk p) p.ID≠none∨oP (Qe p) p.ID≠none:=by
       by_cases hd:p.qQ=zSt
       ·right
        have h0:p.F.length≠0:=fun h0=>by
         have:Zs p=true:=by unfold Zs; rw [decide_eq_true hd,decide_eq_true h0]; rfl
         rw [hn] at this; cases this
        unfold oP
        rw [if_neg (by show ¬ (true&&decide (p.F.length=0))=true; rw [decide_eq_false h0]; simp),Vh,if_pos (show (Qe p).ID=p.ID from rfl)]
        simp
       ·left
        unfold oP
        rw [if_neg (by show ¬ (decide (p.qQ=zSt)&&true)=true; rw [decide_eq_false hd]; simp),Vh,if_pos (show (Zk p).ID=p.ID from rfl)]
        simp
      rcases hor with hx | hx
      ·cases e1:oP (Zk p) p.ID with
       | none=>exact (hx e1).elim
       | some u=>
        cases rO b.R p.ID<;>cases oP (Qe p) p.ID<;>simp [jR]
      ·cases e1:oP (Qe p) p.ID with
       | none=>exact (hx e1).elim
       | some u=>
        cases jR (rO b.R p.ID) (oP (Zk p) p.ID)<;>simp [jR]
     unfold recAt
     rw [← qEB] at hne
     cases hi:qmu (vo N b p).1.R p.ID with
     | none=>rw [hi] at hne; exact (hne rfl).elim
     | some i=>rfl
    have hlen:(vo N b p).1.R.length≤b.R.length + 1:=by
     have:=qt_ (l:=(vo N b p).1.R.map fun r=>r.ID) (m:=p.ID::b.R.map fun r=>r.ID) (qzb hC.1.1) fun id hid=>by
      obtain ⟨r,hrm,rfl⟩:=List.mem_map.1 hid
      have e1:=qqn hC.1.1 hrm
      rw [hr] at e1
      cases eb:rO b.R r.ID with
      | some s=>
       have:=QB eb
       exact List.mem_cons_of_mem _ (List.mem_map.2 ⟨s,this.1,this.2⟩)
      | none=>
       have hid:∀ {e u:qa},oP e r.ID=some u→e.ID=p.ID→r.ID=p.ID:=fun {e u} h he=>by
        unfold oP at h
        split at h
        ·cases h
        ·have:=QB h
         rw [List.mem_singleton.1 this.1,he] at this
         exact this.2.symm
       rw [eb] at e1
       cases eh:oP (Zk p) r.ID with
       | some u=>rw [hid eh rfl]; exact List.mem_cons_self ..
       | none=>
        rw [eh] at e1
        cases el:oP (Qe p) r.ID with
        | some u=>rw [hid el rfl]; exact List.mem_cons_self ..
        | none=>rw [el] at e1; cases e1
     rw [List.length_map,List.length_cons,List.length_map] at this
     exact this
    refine w_f (by rw [decide_eq_true hz]; rfl) <| qI ((qyH (W7 hc) h1 h2).trans (congrArg some again)) <| w_f rfl <| qI (qse (W7 hc)) <| w_f (by rw [show eqE (.sl 19 qf) (vo N b p).1.R (vo N b p).1.R=true from (QE (.sl 19 qf) _ _).2 rfl]; rfl) <| qI (qkn (W7 hc)) <| w_f (by rw [hc]; rfl) <| qI leq <| w_f rfl <| qI (qBg hc _) <| w_t hfind <| zd (by unfold qx; show -9223372036854775808≤((b.R.length:Nat):Int) + 1∧((b.R.length:Nat):Int) + 1≤9223372036854775807; omega) <| qZ ?_
    exact congrArg some (decide_eq_true (by show (((vo N b p).1.R.length:Nat):Int)≤((b.R.length:Nat):Int) + 1; omega))
   ·refine w_t (by rw [decide_eq_false hz]; rfl) <| qZ ?_
    rw [qA2 hz]; rfl
end
theorem qzj (b:qe) (p:qa) (h1:b.R.length≤4611686018427387904) (h2:∀ k,k < b.R.length→(b.R.getD k zR).F.length≤4611686018427387904) (h3:p.F.length≤4611686018427387904):∃ N:Nat,jI N b p=some true:=by
 obtain ⟨M,hM⟩:=qEP b h1 h2
 have:Jn (100000 + M + p.F.length):=Jn.of (by omega)
 exact ⟨_,qtY (hM (100000 + M + p.F.length) (by omega)) p (by omega) h3 h1⟩
end Go.Rx
end
