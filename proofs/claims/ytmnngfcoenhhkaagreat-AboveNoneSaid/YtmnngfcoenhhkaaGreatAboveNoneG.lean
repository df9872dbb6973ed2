/- A part of the proof of AboveNone: the law returns true for every input, and its arguments read as before. No condition. -/
import Derived.Test.YtmnngfcoenhhkaaGreatAboveNoneF
set_option linter.unusedSimpArgs false
set_option linter.unusedVariables false
set_option linter.unusedSectionVars false
set_option maxRecDepth 100000
noncomputable section
namespace Go.Rx
open Go.Proofs
theorem qia {α:Type} {d:α} {l:List α} {k:Nat} (h:k < l.length):l.drop k=l.getD k d::l.drop (k + 1):=by
  rw [List.drop_eq_getElem_cons h,List.getD_eq_getElem?_getD,List.getElem?_eq_getElem h]; rfl
theorem qg3 {α:Type} {p:α→Bool} {d:α} {l:List α}:∀ {m k:Nat},k + m=l.length→(firstF (fun j=>p (l.getD j d)) m k).map (fun i=>l.getD i d)=(l.drop k).find? p
  | 0,k,h=>by rw [List.drop_of_length_le (by omega)]; rfl
  | m + 1,k,h=>by
    rw [qia (d:=d) (by omega),List.find?_cons]
    unfold firstF
    cases hp:p (l.getD k d) with
    | true=>rw [if_pos rfl]; rfl
    | false=>rw [if_neg (by simp)]; exact qg3 (by omega)
def cO (l:List qb) (no:Int):Option qi:=(l.find? fun f=>decide (f.No=no)).map fun f=>f.C
theorem qpQ {l:List qb} {no:Int}:(idxF l no).map (fun i=>(l.getD i zF).C)=cO l no:=by
  unfold idxF cO
  have:=qg3 (p:=fun f:qb=>decide (f.No=no)) (d:=zF) (l:=l) (m:=l.length) (k:=0) (by omega)
  rw [List.drop_zero] at this
  rw [← this,Option.map_map]; rfl
theorem qgg {no:Int}:cO [] no=none:=rfl
theorem Q2 {f:qb} {l:List qb} {no:Int}:cO (f::l) no=if f.No=no then some f.C else cO l no:=by
  unfold cO
  rw [List.find?_cons]
  by_cases h:f.No=no
  · rw [decide_eq_true h,if_pos h]; rfl
  · rw [decide_eq_false h,if_neg h]
theorem qbS {l:List qb} {no:Int} {c:qi} (h:cO l no=some c):∃ f,f∈l∧f.No=no∧f.C=c:=by
  unfold cO at h
  obtain ⟨f,h1,h2⟩:=Option.map_eq_some_iff.1 h
  exact ⟨f,List.mem_of_find?_eq_some h1,of_decide_eq_true (List.find?_some (p:=fun f:qb=>decide (f.No=no)) h1),h2⟩
def jC:Option qi→Option qi→Option qi
  | some x,some y=>some (cJ x y)
  | some x,none=>some x
  | none,y=>y
def qlo (g:Int→Option qi) (f:qb) (no:Int):Option qi:=if f.No=no then jC (g no) (some f.C) else g no
theorem qts {g:Int→Option qi} {f:qb} {no:Int}:qlo g f no=if f.No=no then jC (g no) (some f.C) else g no:=rfl
theorem qsM:∀ {l:List qb} {g:Int→Option qi} {no:Int},(l.map fun f=>f.No).Nodup→l.foldl qlo g no=jC (g no) (cO l no)
  | [],g,no,_=>by rw [qgg]; show g no=_; cases g no<;>rfl
  | f::l,g,no,h=>by
    rw [List.map_cons,List.nodup_cons] at h
    rw [List.foldl_cons,qsM h.2,Q2]
    unfold qlo
    by_cases e:f.No=no
    · rw [if_pos e,if_pos e]
      have:cO l no=none:=by
        cases hc:cO l no with
        | none=>rfl
        | some c=>
          obtain ⟨x,hx,hx2,_⟩:=qbS hc
          exact (h.1 (List.mem_map.2 ⟨x,hx,by rw [hx2,e]⟩)).elim
      rw [this]
      cases g no<;>rfl
    · rw [if_neg e,if_neg e]
def valF (no:Int) (M:List (Int×qi×Nat)):Option qi:=(fnd (β:=qi) (.i .i64) no M).map (·.1)
theorem qtr {q k:Int} {p:qi} {c:Nat} {M:List (Int×qi×Nat)}:valF q (putE (β:=qi) (.i .i64) k p c M).2=if q=k then some p else valF q M:=by
  have:=@valM_put (El (.i .i64)) qi (decE (.i .i64)) k q p c M
  rw [show valF q (putE (β:=qi) (.i .i64) k p c M).2=@valM (El (.i .i64)) qi (decE (.i .i64)) q (@putM (El (.i .i64)) qi (decE (.i .i64)) k p c M).2 from rfl,this]
  by_cases h:q=k
  · rw [if_pos h]; exact if_pos h
  · rw [if_neg h]; exact if_neg h
def qlc (dead:qc) (k:Nat):Option qi→List qb
  | some c=>if slB dead c.S=true then [qb.mk (k:Int) c] else []
  | none=>[]
def zU (g:Int→Option qi) (dead:qc):Nat→Nat→List qb
  | 0,_=>[]
  | m + 1,k=>qlc dead k (g (k:Int))++zU g dead m (k + 1)
theorem qnC {g:Int→Option qi} {dead:qc}:∀ {m k:Nat} {s:List qb},zJ (fun k s=>s++qlc dead k (g (k:Int))) m k s=s++zU g dead m k
  | 0,_,s=>by unfold zJ zU; rw [List.append_nil]
  | m + 1,k,s=>by
    unfold zJ zU
    rw [qnC,List.append_assoc]
theorem qpR {dead:qc} {k:Nat} {c:Option qi}:(qlc dead k c).length≤1:=by
  cases c with
  | none=>exact Nat.zero_le _
  | some c=>
    show (if slB dead c.S=true then [qb.mk (k:Int) c] else []).length≤1
    by_cases h:slB dead c.S=true
    · rw [if_pos h]; exact Nat.le_refl _
    · rw [if_neg h]; exact Nat.zero_le _
def rJ (a b:qa):qa:=qa.mk a.ID (mxS a.Dead b.Dead) (zU (fun no=>jC (cO a.F no) (cO b.F no)) (mxS a.Dead b.Dead) 8 0)
theorem qtp {r:qa} (h:recB r=true):(r.F.map fun f=>f.No).Nodup:=by
  have hlt:∀ (d a:Nat),a + d + 1 < r.F.length→(r.F.getD a zF).No < (r.F.getD (a + d + 1) zF).No:=by
    intro d
    induction d with
    | zero=>
      intro a ha
      have:=(zZ.1 ((Qk.1 h).2.2 (a + 0 + 1) ha)).1
      rw [if_neg (by omega),show a + 0 + 1 - 1=a by omega] at this
      exact this
    | succ d ih=>
      intro a ha
      have h1:=ih a (by omega)
      have:=(zZ.1 ((Qk.1 h).2.2 (a + (d + 1) + 1) ha)).1
      rw [if_neg (by omega),show a + (d + 1) + 1 - 1=a + d + 1 by omega] at this
      omega
  rw [List.nodup_iff_pairwise_ne,List.pairwise_iff_getElem]
  intro i j hi hj hij
  rw [List.length_map] at hi hj
  have:=hlt (j - i - 1) i (by omega)
  rw [show i + (j - i - 1) + 1=j by omega,List.getD_eq_getElem?_getD,List.getD_eq_getElem?_getD,List.getElem?_eq_getElem hi,List.getElem?_eq_getElem hj] at this
  rw [List.getElem_map,List.getElem_map]
  show r.F[i].No≠r.F[j].No
  have:r.F[i].No < r.F[j].No:=this
  omega
theorem qpn {r:qa} (h:recB r=true):∀ k,k < r.F.length→QS (r.F.getD k zF).C=true:=fun j hj=>(zZ.1 ((Qk.1 h).2.2 j hj)).2.2.1
def qsh (g:Int→Option qi):Prop:=∀ no c,g no=some c→c.V.length≤200
theorem qsg (a b:qi):cJ a b=a∨cJ a b=b:=by
  unfold cJ
  split
  · exact .inr rfl
  · exact .inl rfl
theorem qtb {g:Int→Option qi} {f:qb} (hg:qsh g) (hf:f.C.V.length≤200):qsh (qlo g f):=by
  intro no c h
  unfold qlo at h
  split at h
  · cases e:g no with
    | none=>rw [e] at h; obtain rfl:=Option.some.inj h; exact hf
    | some x=>
      rw [e] at h
      obtain rfl:=Option.some.inj h
      rcases qsg x f.C with h1 | h1
      · rw [h1]; exact hg no x e
      · rw [h1]; exact hf
  · exact hg no c h
end Go.Rx
end
set_option maxRecDepth 100000
noncomputable section
namespace Go.Rx
open Go.Proofs
open Go.Lib (compareBytes)
theorem ql_ {a b c:Vector UInt8 16} (h1:lbB a b=true) (h2:lbB b c=true):lbB a c=true:=by
  rw [qlV] at *; exact qqL h1 h2
theorem qty (a b:Vector UInt8 16):(lbB a b=true∧lbB b a=false)∨a=b∨(lbB b a=true∧lbB a b=false):=by
  rw [qlV,qlV]
  rcases qsw a.toList b.toList with h | h | h
  · exact .inl h
  · exact .inr (.inl (Vector.toList_inj.1 h))
  · exact .inr (.inr h)
end Go.Rx
end
set_option maxRecDepth 100000
noncomputable section
namespace Go.Rx
open Go.Proofs
theorem qeL {α:Type} {l:List α} {d:α} {P:α→Prop}:(∀ k,k < l.length→P (l.getD k d))↔∀ x∈l,P x:=by
  constructor
  · intro h x hx
    obtain ⟨i,hi,rfl⟩:=List.getElem_of_mem hx
    have:=h i hi
    rw [List.getD_eq_getElem?_getD,List.getElem?_eq_getElem hi] at this
    exact this
  · intro h k hk
    rw [List.getD_eq_getElem?_getD,List.getElem?_eq_getElem hk]
    exact h _ (List.getElem_mem hk)
theorem qft {α:Type} {R:α→α→Prop} (ht:∀ a b c,R a b→R b c→R a c) {d:α} {l:List α}:(∀ k,k + 1 < l.length→R (l.getD k d) (l.getD (k + 1) d))↔l.Pairwise R:=by
  have gd:∀ k (h:k < l.length),l.getD k d=l[k]:=fun k h=>by rw [List.getD_eq_getElem?_getD,List.getElem?_eq_getElem h]; rfl
  rw [List.pairwise_iff_getElem]
  constructor
  · intro h i j hi hj hij
    have key:∀ m,∀ hm:i + m + 1 < l.length,R l[i] l[i + m + 1]:=by
      intro m
      induction m with
      | zero=>
        intro hm
        have:=h i hm
        rw [gd i hi,gd (i + 1) hm] at this; exact this
      | succ m ih=>
        intro hm
        have h1:=ih (by omega)
        have h2:=h (i + m + 1) hm
        rw [gd (i + m + 1) (by omega),gd (i + m + 1 + 1) hm] at h2
        exact ht _ _ _ h1 h2
    have:=key (j - i - 1) (by omega)
    have e:i + (j - i - 1) + 1=j:=by omega
    simp only [e] at this
    exact this
  · intro h k hk
    rw [gd k (by omega),gd (k + 1) hk]
    exact h k (k + 1) (by omega) hk (by omega)
abbrev qgq (l:List qb):Prop:=l.Pairwise fun f g=>f.No < g.No
theorem Q5 {r:qa}:recB r=true↔stB r.Dead=true∧(r.F≠[]∨r.Dead≠zSt)∧qgq r.F∧∀ f∈r.F,0≤f.No∧f.No < 8∧QS f.C=true∧slB r.Dead f.C.S=true:=by
  have hne:r.F.length≠0↔r.F≠[]:=by
    rw [Ne,Ne,List.length_eq_zero_iff]
  constructor
  · intro h
    have hr:=Qk.1 h
    refine ⟨hr.1,hr.2.1.imp hne.1 id,(qft (R:=fun f g:qb=>f.No < g.No) (fun a b c h1 h2=>Int.lt_trans h1 h2) (d:=zF)).1 fun k hk=>?_,(qeL (d:=zF)).1 fun k hk=>?_⟩
    · have:=(zZ.1 (hr.2.2 (k + 1) hk)).1
      rw [if_neg (by omega)] at this
      exact this
    · have h1:=zZ.1 (hr.2.2 k hk)
      have h2:=qkG h k hk
      exact ⟨by omega,h1.2.1,h1.2.2.1,h1.2.2.2⟩
  · rintro ⟨h1,h2,h3,h4⟩
    refine Qk.2 ⟨h1,h2.imp hne.2 id,fun k hk=>zZ.2 ⟨?_,?_⟩⟩
    · by_cases h0:k=0
      · rw [if_pos h0]; exact ((qeL (d:=zF)).2 h4 k hk).1
      · rw [if_neg h0]
        have:=(qft (R:=fun f g:qb=>f.No < g.No) (fun a b c h1 h2=>Int.lt_trans h1 h2) (d:=zF)).2 h3 (k - 1) (by omega)
        rw [show k - 1 + 1=k by omega] at this
        exact this
    · have:=(qeL (d:=zF)).2 h4 k hk
      exact this.2
theorem qct {g:Int→Option qi} {dead:qc}:∀ {m k:Nat} {f:qb},f∈zU g dead m k→(k:Int)≤f.No∧f.No < ((k + m:Nat):Int)∧g f.No=some f.C∧slB dead f.C.S=true
  | 0,_,_,h=>absurd h List.not_mem_nil
  | m + 1,k,f,h=>by
    unfold zU at h
    rcases List.mem_append.1 h with h | h
    · cases e:g (k:Int) with
      | none=>rw [e] at h; exact absurd h List.not_mem_nil
      | some c=>
        rw [e] at h
        have h:f∈(if slB dead c.S=true then [qb.mk (k:Int) c] else []):=h
        split at h
        · rename_i hs
          obtain rfl:=List.mem_singleton.1 h
          exact ⟨Int.le_refl _,by show (k:Int) < _; omega,e,hs⟩
        · exact absurd h List.not_mem_nil
    · have:=qct h
      exact ⟨by omega,by omega,this.2.2⟩
theorem qhw {g:Int→Option qi} {dead:qc}:∀ {m k:Nat},qgq (zU g dead m k)
  | 0,_=>List.Pairwise.nil
  | m + 1,k=>by
    unfold zU
    refine List.pairwise_append.2 ⟨?_,qhw,fun a ha b hb=>?_⟩
    · have:=qpR (dead:=dead) (k:=k) (c:=g (k:Int))
      match hk:qlc dead k (g (k:Int)),this with
      | [],_=>exact List.Pairwise.nil
      | [x],_=>exact List.pairwise_singleton _ _
    · have h1:=qct hb
      cases e:g (k:Int) with
      | none=>rw [e] at ha; exact absurd ha List.not_mem_nil
      | some c=>
        rw [e] at ha
        have ha:a∈(if slB dead c.S=true then [qb.mk (k:Int) c] else []):=ha
        split at ha
        · obtain rfl:=List.mem_singleton.1 ha
          show (k:Int) < b.No
          omega
        · exact absurd ha List.not_mem_nil
theorem qmd {l:List qb} (h:qgq l) {f:qb} (hf:f∈l):cO l f.No=some f.C:=by
  induction l with
  | nil=>exact absurd hf List.not_mem_nil
  | cons x l ih=>
    rw [Q2]
    have hp:=List.pairwise_cons.1 h
    rcases List.mem_cons.1 hf with rfl | hf
    · rw [if_pos rfl]
    · have:=hp.1 f hf
      rw [if_neg (by omega),ih hp.2 hf]
theorem qjY {r:qa} (h:recB r=true) {no:Int} {c:qi} (hc:cO r.F no=some c):0≤no∧no < 8∧QS c=true∧slB r.Dead c.S=true:=by
  obtain ⟨f,hf,rfl,rfl⟩:=qbS hc
  exact (Q5.1 h).2.2.2 f hf
theorem qqa {g:Int→Option qi} {dead:qc} {no:Int} (h0:0≤no) (h8:no < 8):cO (zU g dead 8 0) no=(g no).filter fun c=>slB dead c.S:=by
  have key:∀ (m k:Nat),(k:Int)≤no→no < ((k + m:Nat):Int)→cO (zU g dead m k) no=(g no).filter fun c=>slB dead c.S:=by
    intro m
    induction m with
    | zero=>intro k h1 h2; omega
    | succ m ih=>
      intro k h1 h2
      unfold zU
      have app:∀ (a b:List qb),cO (a++b) no=(cO a no).or (cO b no):=by
        intro a b
        unfold cO
        rw [List.find?_append]
        cases List.find? (fun f:qb=>decide (f.No=no)) a<;>rfl
      rw [app]
      by_cases e:no=(k:Int)
      · subst e
        have hn:cO (zU g dead m (k + 1)) (k:Int)=none:=by
          cases hc:cO (zU g dead m (k + 1)) (k:Int) with
          | none=>rfl
          | some c=>
            obtain ⟨f,hf,h3,_⟩:=qbS hc
            have:=(qct hf).1
            omega
        rw [hn]
        cases hg:g (k:Int) with
        | none=>rfl
        | some c=>
          show (cO (if slB dead c.S=true then [qb.mk (k:Int) c] else []) (k:Int)).or none=_
          rw [Option.or_none]
          by_cases hs:slB dead c.S=true
          · rw [if_pos hs,Q2,if_pos (show (qb.mk (k:Int) c).No=(k:Int) from rfl),Option.filter_some,if_pos hs]; rfl
          · rw [if_neg hs,qgg,Option.filter_some,if_neg hs]
      · have hn : cO (qlc dead k (g (k : Int))) no = none := by
          cases hg:g (k:Int) with
          | none=>rfl
          | some c=>
            show cO (if slB dead c.S=true then [qb.mk (k:Int) c] else []) no=none
            by_cases hs:slB dead c.S=true
            · rw [if_pos hs,Q2,if_neg (fun h=>e h.symm),qgg]
            · rw [if_neg hs,qgg]
        rw [hn,Option.none_or,ih (k + 1) (by omega) (by omega)]
  exact key 8 0 (by omega) (by omega)
theorem qs7 (a b:qc):mxS a b=a∨mxS a b=b:=by
  unfold mxS
  split
  · exact .inr rfl
  · exact .inl rfl
theorem qha {s:qc} (h:stB s=true) (hz:s≠zSt):slB zSt s=true:=by
  unfold stB at h
  rw [decide_eq_false hz] at h
  simp only [Bool.false_or,Bool.and_eq_true,decide_eq_true_iff] at h
  unfold slB
  exact decide_eq_true (.inl h.1.1.1)
theorem qtC {a b c:qc} (h1:slB b a=false) (h2:slB b c=true):slB a c=true∨a=c∨slB c a=true:=by
  rcases qi0 a c with h | h | h
  · exact .inl h.1
  · exact .inr (.inl h)
  · exact .inr (.inr h.1)
theorem cJ_S {x y:qi}:slB (cJ x y).S x.S=false∧slB (cJ x y).S y.S=false:=by
  unfold cJ
  by_cases h:qm_ x y=true
  · rw [if_pos h]
    unfold qm_ at h
    by_cases e:x.S=y.S
    · rw [e]; exact ⟨qai _,qai _⟩
    · rw [if_neg e] at h
      rcases qi0 x.S y.S with h1 | h1 | h1
      · exact ⟨h1.2,qai _⟩
      · exact (e h1).elim
      · rw [h] at h1; simp at h1
  · rw [if_neg h]
    unfold qm_ at h
    by_cases e:x.S=y.S
    · rw [e]; exact ⟨qai _,qai _⟩
    · rw [if_neg e] at h
      rcases qi0 x.S y.S with h1 | h1 | h1
      · exact (h h1.1).elim
      · exact (e h1).elim
      · exact ⟨qai _,h1.2⟩
theorem qsQ {a b c:qc} (h1:slB b a=false) (h2:slB c a=true):slB c b=true:=by
  rcases qi0 a b with h | h | h
  · exact qmb h2 h.1
  · subst h; exact h2
  · rw [h1] at h; simp at h
theorem qnd {a b:qa} (ha:recB a=true) (hb:recB b=true) {no:Int} {c:qi} (h:jC (cO a.F no) (cO b.F no)=some c):0≤no∧no < 8∧QS c=true:=by
  cases ea:cO a.F no with
  | none=>
    rw [ea] at h
    cases eb:cO b.F no with
    | none=>rw [eb] at h; cases h
    | some y=>
      rw [eb] at h
      obtain rfl:=Option.some.inj h
      have:=qjY hb eb; exact ⟨this.1,this.2.1,this.2.2.1⟩
  | some x=>
    have hx:=qjY ha ea
    rw [ea] at h
    cases eb:cO b.F no with
    | none=>
      rw [eb] at h
      obtain rfl:=Option.some.inj h
      exact ⟨hx.1,hx.2.1,hx.2.2.1⟩
    | some y=>
      have hy:=qjY hb eb
      rw [eb] at h
      obtain rfl:=Option.some.inj h
      refine ⟨hx.1,hx.2.1,?_⟩
      rcases qsg x y with e | e
      · rw [e]; exact hx.2.2.1
      · rw [e]; exact hy.2.2.1
theorem rJ_F (a b:qa):(rJ a b).F=zU (fun no=>jC (cO a.F no) (cO b.F no)) (mxS a.Dead b.Dead) 8 0:=rfl
theorem qte {a b:qa} (ha:recB a=true) (hb:recB b=true) (no:Int):cO (rJ a b).F no=(jC (cO a.F no) (cO b.F no)).filter fun c=>slB (mxS a.Dead b.Dead) c.S:=by
  by_cases h:0≤no∧no < 8
  · rw [rJ_F,qqa h.1 h.2]
  · have e1 : jC (cO a.F no) (cO b.F no) = none := by
      cases e:jC (cO a.F no) (cO b.F no) with
      | none=>rfl
      | some c=>have:=qnd ha hb e; exact (h ⟨this.1,this.2.1⟩).elim
    rw [e1]
    cases e:cO (rJ a b).F no with
    | none=>rfl
    | some c=>
      obtain ⟨f,hf,h3,_⟩:=qbS e
      rw [rJ_F] at hf
      have:=qct (m:=8) (k:=0) hf
      exact (h ⟨by omega,by omega⟩).elim
theorem qtF (a b:qa):(rJ a b).ID=a.ID:=rfl
theorem qoR (a b:qa):(rJ a b).Dead=mxS a.Dead b.Dead:=rfl
theorem qrF {a b:qc} (ha:stB a=true) (hb:stB b=true) (h:mxS a b=zSt):a=zSt∧b=zSt:=by
  by_cases e:b=zSt
  · subst e
    unfold mxS at h
    by_cases hs:slB a zSt=true
    · exfalso
      by_cases ea:a=zSt
      · subst ea; rw [qai] at hs; simp at hs
      · have:=qmb (qha ha ea) hs
        rw [qai] at this; simp at this
    · rw [if_neg hs] at h; exact ⟨h,rfl⟩
  · exfalso
    unfold mxS at h
    by_cases hs:slB a b=true
    · rw [if_pos hs] at h; exact e h
    · rw [if_neg hs] at h
      subst h
      exact hs (qha hb e)
theorem qrQ {a b:qa} (ha:recB a=true) (hb:recB b=true):recB (rJ a b)=true:=by
  have hA:=Q5.1 ha
  have hB:=Q5.1 hb
  refine Q5.2 ⟨?_,?_,by rw [rJ_F]; exact qhw,fun f hf=>?_⟩
  · rw [qoR]
    rcases qs7 a.Dead b.Dead with e | e
    · rw [e]; exact hA.1
    · rw [e]; exact hB.1
  · by_cases hz:(rJ a b).Dead=zSt
    · left
      intro hF
      obtain ⟨za,zb⟩:=qrF hA.1 hB.1 hz
      have hne:a.F≠[]:=hA.2.1.resolve_right (fun h=>h za)
      obtain ⟨f,l,e⟩:=List.exists_cons_of_ne_nil hne
      have hf:f∈a.F:=by rw [e]; exact List.mem_cons_self ..
      have hca:=qmd hA.2.2.1 hf
      have hfl:=(hA.2.2.2 f hf).2.2.2
      have hn:cO (rJ a b).F f.No=none:=by rw [hF]; rfl
      rw [qte ha hb,hca] at hn
      rw [qoR] at hz
      rw [hz] at hn
      rw [za] at hfl
      cases hcb:cO b.F f.No with
      | none=>
        rw [hcb] at hn
        have hn:(some f.C).filter (fun c=>slB zSt c.S)=none:=hn
        rw [Option.filter_some,if_pos hfl] at hn; cases hn
      | some y=>
        rw [hcb] at hn
        have hn:(some (cJ f.C y)).filter (fun c=>slB zSt c.S)=none:=hn
        rw [Option.filter_some,if_pos (qsQ cJ_S.1 hfl)] at hn; cases hn
    · exact .inr hz
  · rw [rJ_F] at hf
    have h1:=qct (m:=8) (k:=0) hf
    have h2:=qnd ha hb h1.2.2.1
    exact ⟨h2.1,h2.2.1,h2.2.2,h1.2.2.2⟩
theorem qkZ:∀ {l l':List qb},qgq l→qgq l'→(∀ no,cO l no=cO l' no)→l=l'
  | [],[],_,_,_=>rfl
  | [],y::l',_,h',h=>by
    have:=h y.No
    rw [qgg,Q2,if_pos rfl] at this; cases this
  | x::l,[],hl,_,h=>by
    have:=h x.No
    rw [qgg,Q2,if_pos rfl] at this; cases this
  | x::l,y::l',hl,hl',h=>by
    have pl:=List.pairwise_cons.1 hl
    have pl':=List.pairwise_cons.1 hl'
    have hno:x.No=y.No:=by
      have h1:=h x.No
      rw [Q2,if_pos rfl] at h1
      have h2:=h y.No
      rw [Q2 (f:=y),if_pos rfl] at h2
      obtain ⟨f,hf,e,_⟩:=qbS h1.symm
      obtain ⟨g,hg,e',_⟩:=qbS h2
      rcases List.mem_cons.1 hf with rfl | hf
      · exact e.symm
      · rcases List.mem_cons.1 hg with rfl | hg
        · exact e'
        · have:=pl'.1 f hf
          have:=pl.1 g hg
          omega
    have hc:x.C=y.C:=by
      have h1:=h x.No
      rw [Q2,if_pos rfl,Q2,if_pos hno.symm] at h1
      exact Option.some.inj h1
    have hxy:x=y:=by
      obtain ⟨n,c⟩:=x
      obtain ⟨n',c'⟩:=y
      have hno:n=n':=hno
      have hc:c=c':=hc
      rw [hno,hc]
    subst hxy
    rw [qkZ pl.2 pl'.2 fun no=>?_]
    by_cases e:x.No=no
    · have n1 : cO l no = none := by
        cases hc:cO l no with
        | none=>rfl
        | some c=>
          obtain ⟨f,hf,e',_⟩:=qbS hc
          have:=pl.1 f hf; omega
      have n2:cO l' no=none:=by
        cases hc:cO l' no with
        | none=>rfl
        | some c=>
          obtain ⟨f,hf,e',_⟩:=qbS hc
          have:=pl'.1 f hf; omega
      rw [n1,n2]
    · have:=h no
      rw [Q2,Q2,if_neg e,if_neg e] at this; exact this
theorem qtw {r s:qa} (hr:recB r=true) (hs:recB s=true) (h1:r.ID=s.ID) (h2:r.Dead=s.Dead) (h3:∀ no,cO r.F no=cO s.F no):r=s:=by
  have:=qkZ (Q5.1 hr).2.2.1 (Q5.1 hs).2.2.1 h3
  obtain ⟨a,b,c⟩:=r
  obtain ⟨a',b',c'⟩:=s
  have h1:a=a':=h1
  have h2:b=b':=h2
  have this:c=c':=this
  rw [h1,h2,this]
def rO (l:List qa) (id:Vector UInt8 16):Option qa:=l.find? fun r=>decide (r.ID=id)
theorem qqA {id:Vector UInt8 16}:rO [] id=none:=rfl
theorem qcZ {r:qa} {l:List qa} {id:Vector UInt8 16}:rO (r::l) id=if r.ID=id then some r else rO l id:=by
  unfold rO
  rw [List.find?_cons]
  by_cases h:r.ID=id
  · rw [decide_eq_true h,if_pos h]
  · rw [decide_eq_false h,if_neg h]
theorem qal {l:List qa} {id:Vector UInt8 16} {r:qa} (h:rO l id=some r):r∈l∧r.ID=id:=
  ⟨List.mem_of_find?_eq_some h,of_decide_eq_true (List.find?_some (p:=fun r:qa=>decide (r.ID=id)) h)⟩
theorem qs6 {l:List qa} {id:Vector UInt8 16}:(idxR l id).map (fun i=>l.getD i zR)=rO l id:=by
  unfold idxR rO
  have:=qg3 (p:=fun r:qa=>decide (r.ID=id)) (d:=zR) (l:=l) (m:=l.length) (k:=0) (by omega)
  rw [List.drop_zero] at this
  exact this
abbrev qgx (l:List qa):Prop:=l.Pairwise fun a b=>lbB a.ID b.ID=true
def qic (l:List qa):Prop:=qgx l∧∀ r∈l,recB r=true
theorem qpz {b:qe}:QT b=true↔qic b.R∧b.R.length≤10:=by
  rw [qbT]
  refine and_congr ?_ Iff.rfl
  have ht:∀ a b c:qa,lbB a.ID b.ID=true→lbB b.ID c.ID=true→lbB a.ID c.ID=true:=fun _ _ _ h1 h2=>ql_ h1 h2
  constructor
  · intro h
    refine ⟨(qft (R:=fun a b:qa=>lbB a.ID b.ID=true) ht (d:=zR)).1 fun k hk=>?_,(qeL (d:=zR)).1 fun k hk=>(h k hk).1⟩
    rcases (h (k + 1) hk).2 with e | e
    · omega
    · exact e
  · rintro ⟨h1,h2⟩ k hk
    refine ⟨(qeL (d:=zR)).2 h2 k hk,?_⟩
    by_cases h0:k=0
    · exact .inl h0
    · have:=(qft (R:=fun a b:qa=>lbB a.ID b.ID=true) ht (d:=zR)).2 h1 (k - 1) (by omega)
      rw [show k - 1 + 1=k by omega] at this
      exact .inr this
theorem qmh {l:List qa} (h:qgx l) {r:qa} (hr:r∈l):rO l r.ID=some r:=by
  induction l with
  | nil=>exact absurd hr List.not_mem_nil
  | cons x l ih=>
    rw [qcZ]
    have hp:=List.pairwise_cons.1 h
    rcases List.mem_cons.1 hr with rfl | hr
    · rw [if_pos rfl]
    · have:=hp.1 r hr
      rw [if_neg (fun e=>by rw [e,qhg] at this; cases this),ih hp.2 hr]
theorem qnk:∀ {l l':List qa},qgx l→qgx l'→(∀ id,rO l id=rO l' id)→l=l'
  | [],[],_,_,_=>rfl
  | [],y::l',_,h',h=>by
    have:=h y.ID
    rw [qqA,qcZ,if_pos rfl] at this; cases this
  | x::l,[],hl,_,h=>by
    have:=h x.ID
    rw [qqA,qcZ,if_pos rfl] at this; cases this
  | x::l,y::l',hl,hl',h=>by
    have pl:=List.pairwise_cons.1 hl
    have pl':=List.pairwise_cons.1 hl'
    have h1:=h x.ID
    rw [qcZ,if_pos rfl] at h1
    have h2:=h y.ID
    rw [qcZ (r:=y),if_pos rfl] at h2
    have hxy:x=y:=by
      rcases List.mem_cons.1 (qal h1.symm).1 with e | hf
      · exact e
      · rcases List.mem_cons.1 (qal h2).1 with e | hg
        · exact e.symm
        · have a1:=pl'.1 x hf
          have a2:=pl.1 y hg
          have:=ql_ a1 a2
          rw [qhg] at this; cases this
    subst hxy
    rw [qnk pl.2 pl'.2 fun id=>?_]
    by_cases e:x.ID=id
    · have n1 : rO l id = none := by
        cases hc:rO l id with
        | none=>rfl
        | some c=>
          have:=pl.1 c (qal hc).1
          rw [e,(qal hc).2,qhg] at this; cases this
      have n2:rO l' id=none:=by
        cases hc:rO l' id with
        | none=>rfl
        | some c=>
          have:=pl'.1 c (qal hc).1
          rw [e,(qal hc).2,qhg] at this; cases this
      rw [n1,n2]
    · have:=h id
      rw [qcZ,qcZ,if_neg e,if_neg e] at this; exact this
def jR:Option qa→Option qa→Option qa
  | some x,some y=>some (rJ x y)
  | some x,none=>some x
  | none,y=>y
def qn2 (a b c:List qa):Prop:=qgx c∧∀ id,rO c id=jR (rO a id) (rO b id)
theorem qtd {a b c d:List qa} (h:qn2 a b c) (h':qn2 a b d):c=d:=qnk h.1 h'.1 fun id=>(h.2 id).trans (h'.2 id).symm
theorem qtn {a b c:List qa} (ha:qic a) (hb:qic b) (h:qn2 a b c):qic c:=by
  refine ⟨h.1,fun r hr=>?_⟩
  have e:=h.2 r.ID
  rw [qmh h.1 hr] at e
  cases ea:rO a r.ID with
  | none=>
    rw [ea] at e
    have e:some r=rO b r.ID:=e
    exact hb.2 r (qal e.symm).1
  | some x=>
    rw [ea] at e
    cases eb:rO b r.ID with
    | none=>
      rw [eb] at e
      obtain rfl:=Option.some.inj e
      exact ha.2 r (qal ea).1
    | some y=>
      rw [eb] at e
      obtain rfl:=Option.some.inj e
      exact qrQ (ha.2 x (qal ea).1) (hb.2 y (qal eb).1)
end Go.Rx
end
set_option maxRecDepth 100000
noncomputable section
namespace Go.Rx
open Go.Proofs
def exB (c:qi) (x:qf) (no:Int):Bool:=slB x.Dead c.S&&(match idxE x.F no with
  | none=>true
  | some i=>if (x.F.getD i zE).S=c.S then ltD (x.F.getD i zE).D (sumS c.V) else slB (x.F.getD i zE).S c.S)
def zu (m:qh) (r:qa):qa:=
  qa.mk r.ID (if slB (qL m r.ID).1.Dead r.Dead=true then r.Dead else zSt) (r.F.filter fun f=>exB f.C (qL m r.ID).1 f.No)
def Zg (p:qa):Bool:=decide (p.Dead=zSt)&&decide (p.F.length=0)
def Qf (m:qh) (r:qa):List qa:=if Zg (zu m r)=true then [] else [zu m r]
def Ze (m:qh) (l:List qa):List qa:=l.flatMap (Qf m)
theorem ql9 {m:qh} {r:qa}:(Qf m r).length≤1:=by
  unfold Qf
  split
  · exact Nat.zero_le _
  · exact Nat.le_refl _
theorem qpf {m:qh}:∀ {l:List qa},(Ze m l).length≤l.length
  | []=>Nat.le_refl _
  | r::l=>by
    unfold Ze
    rw [List.flatMap_cons,List.length_append,List.length_cons]
    have h1:=ql9 (m:=m) (r:=r)
    have h2:=qpf (m:=m) (l:=l)
    unfold Ze at h2
    omega
theorem qop {α:Type} {p:α→Bool} {d:α} {l:List α} {k:Nat} (h:k < l.length):(l.take (k + 1)).filter p=(l.take k).filter p++(if p (l.getD k d)=true then [l.getD k d] else []):=by
  rw [List.take_succ_eq_append_getElem h,List.filter_append,List.getD_eq_getElem?_getD,List.getElem?_eq_getElem h]
  show _++List.filter p [l[k]]=_++(if p l[k]=true then [l[k]] else [])
  cases hp:p l[k]<;>simp [hp]
theorem qnH {α β:Type} {f:α→List β} {d:α} {l:List α} {k:Nat} (h:k < l.length):(l.take (k + 1)).flatMap f=(l.take k).flatMap f++f (l.getD k d):=by
  rw [List.take_succ_eq_append_getElem h,List.flatMap_append,List.getD_eq_getElem?_getD,List.getElem?_eq_getElem h]
  simp
end Go.Rx
end
set_option maxRecDepth 100000
noncomputable section
namespace Go.Rx
open Go.Proofs
theorem qqH {r:qa} {no:Int} {c:qi} (h:cO r.F no=some c):∃ i,idxF r.F no=some i∧(r.F.getD i zF).C=c:=by
  rw [← qpQ] at h
  obtain ⟨i,h1,h2⟩:=Option.map_eq_some_iff.1 h
  exact ⟨i,h1,h2⟩
theorem qp6 {r:qa} {no:Int} (h:cO r.F no=none):idxF r.F no=none:=by
  rw [← qpQ] at h
  exact Option.map_eq_none_iff.1 h
def qlm:Option qa→qc
  | some r=>r.Dead
  | none=>zSt
def qtj (o:Option qa) (no:Int):Option qi:=o.bind fun r=>cO r.F no
def exK (c:qi) (o:Option qa) (no:Int):Bool:=slB (qlm o) c.S&&(match qtj o no with
  | none=>true
  | some d=>if d.S=c.S then ltD (sumS d.V) (sumS c.V) else slB d.S c.S)
theorem qsG {c:qi} {r:qa} {no:Int}:exB c (qx r) no=exK c (some r) no:=by
  unfold exB exK
  have e:idxE (qx r).F no=idxF r.F no:=qsH no
  rw [e]
  show (slB r.Dead c.S&&_)=(slB r.Dead c.S&&(match cO r.F no with | none=>true | some d=>if d.S=c.S then ltD (sumS d.V) (sumS c.V) else slB d.S c.S))
  cases h:cO r.F no with
  | none=>rw [qp6 h]
  | some d=>
    obtain ⟨i,h1,h2⟩:=qqH h
    rw [h1]
    have hi:=(qiZ h1).1
    have eg:(qx r).F.getD i zE=zr (r.F.getD i zF):=Zm (d:=zF) hi
    show (_&&(if ((qx r).F.getD i zE).S=c.S then _ else _))=_
    rw [eg]
    show (_&&(if (r.F.getD i zF).C.S=c.S then ltD (sumS (r.F.getD i zF).C.V) (sumS c.V) else slB (r.F.getD i zF).C.S c.S))=_
    rw [h2]
theorem qoQ {b:qe} {D:Vector UInt8 32} {id:Vector UInt8 16}:(qL (Q4 D b) id).1=match rO b.R id with | some r=>qx r | none=>zL:=by
  rw [qpo,← qs6]
  cases idxR b.R id<;>rfl
theorem qqC {b:qe} {D:Vector UInt8 32} {id:Vector UInt8 16} {c:qi} {no:Int}:exB c (qL (Q4 D b) id).1 no=exK c (rO b.R id) no:=by
  rw [qoQ]
  cases rO b.R id with
  | none=>rfl
  | some r=>exact qsG
theorem qpH {b:qe} {D:Vector UInt8 32} {id:Vector UInt8 16}:(qL (Q4 D b) id).1.Dead=qlm (rO b.R id):=by
  rw [qoQ]
  cases rO b.R id<;>rfl
def qfs (o:Option qa) (r:qa):qa:=qa.mk r.ID (if slB (qlm o) r.Dead=true then r.Dead else zSt) (r.F.filter fun f=>exK f.C o f.No)
theorem qlb {b:qe} {D:Vector UInt8 32} {r:qa}:zu (Q4 D b) r=qfs (rO b.R r.ID) r:=by
  unfold zu qfs
  rw [qpH]
  congr 1
  refine List.filter_congr fun f _=>?_
  rw [qqC]
theorem qqN {r:qa} (h:recB r=true):qfs none r=r:=by
  have hr:=Q5.1 h
  have e1:(if slB zSt r.Dead=true then r.Dead else zSt)=r.Dead:=by
    by_cases hz:r.Dead=zSt
    · rw [hz,qai]; rfl
    · rw [if_pos (qha hr.1 hz)]
  have e2:(r.F.filter fun f=>exK f.C none f.No)=r.F:=by
    rw [List.filter_eq_self]
    intro f hf
    have hc:=(hr.2.2.2 f hf).2.2.1
    unfold QS at hc
    simp only [Bool.and_eq_true,Bool.not_eq_true',decide_eq_false_iff_not] at hc
    show (slB zSt f.C.S&&true)=true
    rw [qha hc.2.1 hc.1]; rfl
  unfold qfs
  rw [show qlm none=zSt from rfl,e1,e2]
  rfl
theorem qso (d:Vector UInt8 32):ltD d d=false:=ql6 _
theorem qqG {r:qa} (h:recB r=true):Zg (qfs (some r) r)=true:=by
  have hr:=Q5.1 h
  have e2:(r.F.filter fun f=>exK f.C (some r) f.No)=[]:=by
    rw [List.filter_eq_nil_iff]
    intro f hf
    have hc:=qmd hr.2.2.1 hf
    show ¬ (slB r.Dead f.C.S&&(match cO r.F f.No with | none=>true | some d=>if d.S=f.C.S then ltD (sumS d.V) (sumS f.C.V) else slB d.S f.C.S))=true
    rw [hc]
    show ¬ (_&&(if f.C.S=f.C.S then ltD (sumS f.C.V) (sumS f.C.V) else slB f.C.S f.C.S))=true
    rw [if_pos rfl,qso,Bool.and_false]; simp
  have e1:(if slB r.Dead r.Dead=true then r.Dead else zSt)=zSt:=by rw [qai]; rfl
  unfold qfs
  rw [show qlm (some r)=r.Dead from rfl,e1,e2]
  rfl
theorem qr1 {r:qa} (h:recB r=true):Zg r=false:=by
  have hr:=Q5.1 h
  unfold Zg
  rw [Bool.and_eq_false_iff,decide_eq_false_iff_not,decide_eq_false_iff_not]
  rcases hr.2.1 with h1 | h1
  · right
    intro h2
    exact h1 (List.length_eq_zero_iff.1 h2)
  · exact .inl h1
theorem qql {m:qh} {r:qa} (h:Zg (zu m r)=true):Qf m r=[]:=if_pos h
theorem qqj {m:qh} {r:qa} (h:Zg (zu m r)=false):Qf m r=[zu m r]:=if_neg (by rw [h]; simp)
theorem qqv {a:qe} {D:Vector UInt8 32} (h:qic a.R):Ze (Q4 D (qe.mk [])) a.R=a.R:=by
  have key:∀ l:List qa,(∀ r∈l,recB r=true)→Ze (Q4 D (qe.mk [])) l=l:=by
    intro l
    induction l with
    | nil=>intro _; rfl
    | cons r l ih=>
      intro h
      have hr:=h r (List.mem_cons_self ..)
      have e:zu (Q4 D (qe.mk [])) r=r:=by rw [qlb]; exact qqN hr
      show Qf _ r++Ze _ l=_
      rw [qqj (by rw [e]; exact qr1 hr),e,ih fun x hx=>h x (List.mem_cons_of_mem _ hx)]; rfl
  exact key a.R h.2
theorem qpj {a b:qe} {D:Vector UInt8 32} (h:∀ r∈a.R,Zg (qfs (rO b.R r.ID) r)=true):Ze (Q4 D b) a.R=[]:=by
  have key:∀ l:List qa,(∀ r∈l,Zg (qfs (rO b.R r.ID) r)=true)→Ze (Q4 D b) l=[]:=by
    intro l
    induction l with
    | nil=>intro _; rfl
    | cons r l ih=>
      intro h
      show Qf _ r++Ze _ l=_
      rw [qql (by rw [qlb]; exact h r (List.mem_cons_self ..)),ih fun x hx=>h x (List.mem_cons_of_mem _ hx)]; rfl
  exact key a.R h
end Go.Rx
end
set_option maxRecDepth 100000
noncomputable section
namespace Go.Rx
open Go.Proofs
open Go.Lib (compareBytes)
section
variable {N:Nat} [BigN N]
theorem qpG (a b:Vector UInt8 32):qgX a b=some (ltD a b):=by
  unfold qgX qg9 ltD
  rw [qo,eqD]
  by_cases h:a=b
  · subst h; rw [decide_eq_true rfl,ql6]; rfl
  · rw [decide_eq_false h]; rfl
end
end Go.Rx
end
set_option maxRecDepth 100000
noncomputable section
namespace Go.Rx
open Go.Proofs
section
variable {N:Nat} [BigN N]
theorem qqU {l:List qg} {no:Int} (h:l.length≤600):zN N no l=some (ansI (idxE l no)):=by
  have key:=qfo (B:=qH N no l ((l.length:Nat):Int)) (g:=some) (p:=fun k=>decide ((l.getD k zE).No=no)) (n:=l.length) (hit:=fun k=>.inl (k:Int)) (fin:=.inr (((l.length:Nat):Int),false)) (fun k hk=>by
    unfold qH
    refine w_t (dec_lt hk) <| qw (getI_D (d:=zE) hk) <| qw (show qcG no (l.getD k zE)=some () from rfl) <| w_if (c:=decide ((l.getD k zE).No=no)) rfl (fun h=>q6 ?_) fun h=>qav (qc5 (by omega)) <| q6 ?_
    · rw [h]; rfl
    · rw [h,int_succ]; rfl) (by
    unfold qH
    exact w_f (dec_nlt (Nat.lt_irrefl _)) (q6 (by rw [dec_nlt (Nat.lt_irrefl _)]))) N 0 (Nat.zero_le _) (by have:=big N; omega)
  rw [Nat.sub_zero] at key
  have e:Ql N no l ((l.length:Nat):Int) 0=loopG (qH N no l ((l.length:Nat):Int)) some N ((0:Nat):Int):=rfl
  unfold zN Qy
  refine qw (e.trans key) ?_
  unfold idxE
  cases firstF (fun k=>decide ((l.getD k zE).No=no)) l.length 0<;>rfl
theorem qs4 {c:qi} {x:qf} {no:Int} (hx:x.F.length≤600) (hc:c.V.length≤50000):qah N c x no=some (exB c x no):=by
  unfold qah qcx exB
  refine qw (qqU hx) (qw (qb3 _ _) ?_)
  cases slB (qf.Dead x) (qi.S c) with
  | false=>rfl
  | true=>
    refine w_f rfl ?_
    show _=some (match idxE x.F no with | none=>true | some i=>if (x.F.getD i zE).S=c.S then ltD (x.F.getD i zE).D (sumS c.V) else slB (x.F.getD i zE).S c.S)
    cases e:idxE x.F no with
    | none=>rfl
    | some i=>
      have hi:=(qiZ e).1
      have g:=getI_D (d:=zE) hi
      refine w_f (decide_eq_false (by show ¬ ((i:Nat):Int) < 0; omega)) (qw g ?_)
      show _=some (if (x.F.getD i zE).S=c.S then ltD (x.F.getD i zE).D (sumS c.V) else slB (x.F.getD i zE).S c.S)
      by_cases h:(x.F.getD i zE).S=c.S
      · rw [if_pos h]
        exact w_f (by rw [eqSt]; show (!decide ((x.F.getD i zE).S=c.S))=false; rw [decide_eq_true h]; rfl) <| qw g <| qw (qj1 hc) <| qw (qpG _ _) <| q6 rfl
      · rw [if_neg h]
        exact w_t (by rw [eqSt]; show (!decide ((x.F.getD i zE).S=c.S))=true; rw [decide_eq_false h]; rfl) <| qw g <| qw (qb3 _ _) <| q6 rfl
end
end Go.Rx
end
set_option maxRecDepth 100000
noncomputable section
namespace Go.Rx
open Go.Proofs
section
variable {N:Nat} [BigN N]
theorem qoY (p:qa):qb5 p=some (Zg p):=by
  have e:eqE qn (qa.Dead p) (qc.mk 0 0)=decide (p.Dead=zSt):=eqSt _ _
  have e2:decide (((p.F.length:Nat):Int)=0)=decide (p.F.length=0):=decide_eq_decide.2 (by omega)
  unfold qb5 qez Zg
  refine w_if e (fun h=>q6 ?_) fun h=>q6 ?_
  · rw [h]; exact congrArg some e2
  · rw [h]; rfl
theorem qoO {b : qe} {m : qh} {x : qf} {o5 : Vector UInt8 16} {o6 : qc} {s12 : List qa} {s13 s14 : Int} {l : List qb} (hx : x.F.length ≤ 600) (hl : l.length ≤ 600) (hV : ∀ k, k < l.length → (l.getD k zF).C.V.length ≤ 200) :
    Q8 N b m x o5 o6 s12 s13 s14 l ((l.length:Nat):Int) [] 0=some (l.filter fun f=>exB f.C x f.No,((l.length:Nat):Int),false):=by
  refine Qa (σ:=Unit) (B:=Zs N b m x o5 o6 s12 s13 s14 l ((l.length:Nat):Int)) (g:=some) (at_:=fun k _=>((l.take k).filter fun f=>exB f.C x f.No,(k:Int))) (I:=fun _ _=>True) (f:=fun _ s=>s) (n:=l.length)
    (fin:=fun _=>(l.filter fun f=>exB f.C x f.No,((l.length:Nat):Int),false)) (fun k s hk _=>⟨?_,trivial⟩) (fun s _=>?_) N 0 () trivial (Nat.zero_le _) (by have:=big N; omega)
  · have hle:((l.take k).filter fun f=>exB f.C x f.No).length≤600:=Nat.le_trans (List.length_filter_le _ _) (by rw [List.length_take]; omega)
    have hVk:=hV k hk
    unfold Zs
    rw [qop (d:=zF) hk]
    refine w_t (dec_lt hk) <| qw (getI_D (d:=zF) hk) <| qw (qs4 hx (by show (l.getD k zF).C.V.length≤_; omega)) <| w_if rfl (fun h=>?_) fun h=>?_
    · rw [if_pos (show (fun f:qb=>exB f.C x f.No) (l.getD k zF)=true from h)]
      exact qav ⟨rfl,by rw [List.length_append]; unfold maxBytes; simp; omega⟩ <| qav (qc5 (by omega)) <| q6 (by rw [int_succ])
    · rw [if_neg (show ¬ (fun f:qb=>exB f.C x f.No) (l.getD k zF)=true from fun h'=>by rw [show (fun f:qb=>exB f.C x f.No) (l.getD k zF)=false from h] at h'; cases h'),List.append_nil]
      exact qav (qc5 (by omega)) <| q6 (by rw [int_succ])
  · unfold Zs
    exact w_f (dec_nlt (Nat.lt_irrefl _)) (q6 (by rw [dec_nlt (Nat.lt_irrefl _),List.take_of_length_le (Nat.le_refl _)]))
theorem qmi {o2 : List qa} {b : qe} {m : qh} {x : qf} {o5 : Vector UInt8 16} {o6 : qc} {s12 : List qa} {s13 s14 : Int} {l : List qb} (hx : x.F.length ≤ 600) (hl : l.length ≤ 600) (hV : ∀ k, k < l.length → (l.getD k zF).C.V.length ≤ 200) :
    Zt N o2 b m x o5 o6 s12 s13 s14 l ((l.length:Nat):Int) [] 0=some (l.filter fun f=>exB f.C x f.No,((l.length:Nat):Int),false):=qoO (b:=b) (m:=m) (o5:=o5) (o6:=o6) (s12:=s12) (s13:=s13) (s14:=s14) hx hl hV
section f
variable {m:qh} (hf:fewM m=true)
include hf
theorem qkg {a:qe} (ha:QT a=true) (hm:mayM m=true):QD N a m=some (Ze m a.R):=by
  have hN:=big N
  have hA:=qbT.1 ha
  have hfm:=qgh.1 hf
  have fits:qaN N a:=⟨by omega,by omega,fun k hk=>by have:=qgw (hA.1 k hk).1; exact ⟨by omega,by omega⟩⟩
  have hpart:∀ k,k < a.R.length→∀ D,(qa.mk (a.R.getD k zR).ID D ((a.R.getD k zR).F.filter fun f=>exB f.C (qL m (a.R.getD k zR).ID).1 f.No))=zu m (a.R.getD k zR)∨D≠(if slB (qL m (a.R.getD k zR).ID).1.Dead (a.R.getD k zR).Dead=true then (a.R.getD k zR).Dead else zSt):=fun k hk D=>by
    by_cases h:D=(if slB (qL m (a.R.getD k zR).ID).1.Dead (a.R.getD k zR).Dead=true then (a.R.getD k zR).Dead else zSt)
    · left; rw [h]; rfl
    · exact .inr h
  have hrec:∀ k,k < a.R.length→(a.R.getD k zR).F.length≤600∧∀ j,j < (a.R.getD k zR).F.length→((a.R.getD k zR).F.getD j zF).C.V.length≤200:=fun k hk=>⟨by have:=qgw (hA.1 k hk).1; omega,fun j hj=>qhb (qpn (hA.1 k hk).1 j hj)⟩
  have hlx:∀ id,(qL m id).1.F.length≤600:=fun id=>by have:=(qqF hf id).1; omega
  have s1:∀ (s:List qa) (k:Nat),s.length≤k→k≤a.R.length→loopG (zy N a m a.R ((a.R.length:Nat):Int)) some N (s,(k:Int))=some (.inr (s++(a.R.drop k).flatMap (Qf m),((a.R.length:Nat):Int),false)):=fun s k hs hk=>by
    have:=Qa (σ:=List qa) (B:=zy N a m a.R ((a.R.length:Nat):Int)) (g:=some) (at_:=fun k s=>(s,(k:Int))) (I:=fun k s=>s.length≤k) (f:=fun k s=>s++Qf m (a.R.getD k zR)) (n:=a.R.length)
      (fin:=fun s=>.inr (s,((a.R.length:Nat):Int),false)) (fun k s hk hs=>⟨?_,?_⟩) (fun s _=>?_) N k s hs hk (by omega)
    · rw [this]
      have key:∀ (m' k:Nat) (s:List qa),k + m'=a.R.length→zJ (fun k s=>s++Qf m (a.R.getD k zR)) m' k s=s++(a.R.drop k).flatMap (Qf m):=by
        intro m'
        induction m' with
        | zero=>intro k s h; rw [List.drop_of_length_le (by omega)]; show s=s++[]; rw [List.append_nil]
        | succ m' ih=>
          intro k s h
          rw [qia (d:=zR) (show k < a.R.length by omega),List.flatMap_cons]
          unfold zJ
          rw [ih (k + 1) _ (by omega),List.append_assoc]
      rw [key _ k s (by omega)]
    · have hr:=hrec k hk
      have keep:∀ D,D=(if slB (qL m (a.R.getD k zR).ID).1.Dead (a.R.getD k zR).Dead=true then (a.R.getD k zR).Dead else zSt)→zj s a m (qa.mk (a.R.getD k zR).ID D ((a.R.getD k zR).F.filter fun f=>exB f.C (qL m (a.R.getD k zR).ID).1 f.No))=some (s++Qf m (a.R.getD k zR)):=fun D hD=>by
        rw [(hpart k hk D).resolve_right (fun h=>h hD)]
        unfold zj QX Qf
        refine qw (qoY _) ?_
        cases Zg (zu m (a.R.getD k zR)) with
        | true=>exact w_f rfl <| q6 (by rw [if_pos rfl,List.append_nil])
        | false=>exact w_t rfl <| qav ⟨rfl,by rw [List.length_append]; unfold maxBytes; simp; omega⟩ <| q6 (by rw [if_neg (by simp)])
      unfold zy
      refine w_t (dec_lt hk) <| qw (getI_D (d:=zR) hk) <| qw (qnu hf _) <| qw (qb3 _ _) <| w_if rfl (fun h=>?_) fun h=>?_
      · exact qw ((qT rfl).trans ((qT rfl).trans (qmi (hlx _) hr.1 hr.2))) <| qav rfl <| qw ((qT rfl).trans (keep _ (by rw [if_pos (show slB (qL m (a.R.getD k zR).ID).1.Dead (a.R.getD k zR).Dead=true from h)]))) <| qav (qc5 (by omega)) <| q6 (by rw [int_succ])
      · exact qw ((qT rfl).trans ((qT rfl).trans (qmi (hlx _) hr.1 hr.2))) <| qav rfl <| qw ((qT rfl).trans (keep _ (by rw [if_neg (show ¬ slB (qL m (a.R.getD k zR).ID).1.Dead (a.R.getD k zR).Dead=true from fun h'=>by rw [show slB (qL m (a.R.getD k zR).ID).1.Dead (a.R.getD k zR).Dead=false from h] at h'; cases h')]; rfl))) <| qav (qc5 (by omega)) <| q6 (by rw [int_succ])
    · rw [List.length_append]
      have:=ql9 (m:=m) (r:=a.R.getD k zR)
      omega
    · unfold zy
      exact w_f (dec_nlt (Nat.lt_irrefl _)) (q6 (by rw [dec_nlt (Nat.lt_irrefl _)]))
  have l1:∃ z,qb_ N a m a.R ((a.R.length:Nat):Int) 0=some z∧(match z with | .inl _=>[] | .inr w=>w.1)=Ze m a.R:=by
    refine qaT (B:=Qv N a m a.R ((a.R.length:Nat):Int)) (g:=qbj N N (a,m,a.R,((a.R.length:Nat):Int))) (I:=fun v=>∃ k:Nat,k≤a.R.length∧v=(k:Int)∧(a.R.take k).flatMap (Qf m)=[]) (Q:=fun z=>(match z with | .inl _=>[] | .inr w=>w.1)=Ze m a.R) (fun v=>a.R.length - v.toNat) ?_ N ((0:Nat):Int) ⟨0,Nat.zero_le _,rfl,rfl⟩ (by simp; omega)
    rintro v ⟨k,hk,rfl,h0⟩
    by_cases h:k < a.R.length
    · have hr:=hrec k h
      have hall:Ze m a.R=(a.R.take k).flatMap (Qf m)++(Qf m (a.R.getD k zR)++(a.R.drop (k + 1)).flatMap (Qf m)):=by
        have:a.R=a.R.take k++(a.R.getD k zR::a.R.drop (k + 1)):=by rw [← qia (d:=zR) h,List.take_append_drop]
        unfold Ze
        conv=>lhs; rw [this]
        rw [List.flatMap_append,List.flatMap_cons]
      have roundS:∀ D,D=(if slB (qL m (a.R.getD k zR).ID).1.Dead (a.R.getD k zR).Dead=true then (a.R.getD k zR).Dead else zSt)→q8 a m (qa.mk (a.R.getD k zR).ID D ((a.R.getD k zR).F.filter fun f=>exB f.C (qL m (a.R.getD k zR).ID).1 f.No))=some (if Zg (zu m (a.R.getD k zR))=true then .inr () else .inl ()):=fun D hD=>by
        rw [(hpart k h D).resolve_right (fun h=>h hD)]
        unfold q8 Zz
        refine qw (qoY _) ?_
        cases Zg (zu m (a.R.getD k zR)) with
        | true=>rfl
        | false=>exact w_t rfl <| qav (by unfold apOK; unfold maxBytes; decide) <| q6 rfl
      have both : ∀ D, D = (if slB (qL m (a.R.getD k zR).ID).1.Dead (a.R.getD k zR).Dead = true then (a.R.getD k zR).Dead else zSt) →
          (Tree.bind (chkLs [(([]:List qb).length,0)] (Q8 N a m (qL m (a.R.getD k zR).ID).1 (a.R.getD k zR).ID D a.R ((a.R.length:Nat):Int) (k:Int) (a.R.getD k zR).F (((a.R.getD k zR).F.length:Nat):Int) [] 0)) fun z4=>Tree.chk (z4.1.length=z4.1.length) <|
            .bind (q8 a m (qa.mk (a.R.getD k zR).ID D z4.1)) fun r5=>.sum r5 (fun _=>.chk (in64 ((k:Int) + 1)) (.ret (.inr (.inl ([qa.mk (a.R.getD k zR).ID D z4.1],(k:Int) + 1))))) fun _=>.chk (in64 ((k:Int) + 1)) (.ret (.inl ((k:Int) + 1):Int⊕Zu))).run some =
          some (if Zg (zu m (a.R.getD k zR))=true then .inl ((k + 1:Nat):Int) else .inr (.inl ([zu m (a.R.getD k zR)],((k + 1:Nat):Int)))):=fun D hD=>by
        refine qw ((qT rfl).trans (qoO (hlx _) hr.1 hr.2)) <| qav rfl <| qw (roundS D hD) ?_
        cases hn:Zg (zu m (a.R.getD k zR)) with
        | true=>exact w_r rfl <| qav (qc5 (by omega)) <| q6 (by rw [int_succ]; rfl)
        | false=>
          refine w_l rfl <| qav (qc5 (by omega)) <| q6 ?_
          rw [int_succ,← (hpart k h D).resolve_right (fun h=>h hD)]; rfl
      have step:(Qv N a m a.R ((a.R.length:Nat):Int) (k:Int)).run some=some (if Zg (zu m (a.R.getD k zR))=true then .inl ((k + 1:Nat):Int) else .inr (.inl ([zu m (a.R.getD k zR)],((k + 1:Nat):Int)))):=by
        unfold Qv
        refine w_t (dec_lt h) <| qw (getI_D (d:=zR) h) <| qw (qnu hf _) <| qw (qb3 _ _) <| w_if rfl (fun h=>?_) fun h=>?_
        · exact both _ (by rw [if_pos (show slB (qL m (a.R.getD k zR).ID).1.Dead (a.R.getD k zR).Dead=true from h)])
        · exact both _ (by rw [if_neg (show ¬ slB (qL m (a.R.getD k zR).ID).1.Dead (a.R.getD k zR).Dead=true from fun h'=>by rw [show slB (qL m (a.R.getD k zR).ID).1.Dead (a.R.getD k zR).Dead=false from h] at h'; cases h')]; rfl)
      cases hn:Zg (zu m (a.R.getD k zR)) with
      | true=>
        left
        rw [hn,if_pos rfl] at step
        exact ⟨_,step,⟨k + 1,h,rfl,by rw [qnH (d:=zR) h,h0]; unfold Qf; rw [if_pos hn]; rfl⟩,by simp only [Int.toNat_natCast]; omega⟩
      | false=>
        right
        rw [hn,if_neg (by simp)] at step
        refine ⟨_,_,step,s1 _ (k + 1) (by show (1:Nat)≤k + 1; omega) h,?_⟩
        show [zu m (a.R.getD k zR)]++(a.R.drop (k + 1)).flatMap (Qf m)=_
        rw [hall,h0]
        unfold Qf
        rw [if_neg (by rw [hn]; simp)]; rfl
    · right
      obtain rfl:k=a.R.length:=by omega
      rw [List.take_of_length_le (Nat.le_refl _)] at h0
      refine ⟨.inr (.inl (((a.R.length:Nat):Int),false)),_,?_,rfl,h0.symm⟩
      unfold Qv
      exact w_f (dec_nlt (Nat.lt_irrefl _)) (q6 (by rw [dec_nlt (Nat.lt_irrefl _)]))
  obtain ⟨z,ez,hz⟩:=l1
  unfold QD qbE
  refine qw (qi1 fits) <| w_f (by rw [ha]; rfl) <| qw (qqz (by omega) (fun k hk=>by have:=(hfm.2 k hk).1; omega)) <| w_f (by rw [hm]; rfl) <| qw (show qhi a m=some () from rfl) ?_
  rw [← hz]
  cases z with
  | inl w=>
    have e1:ZJ N a m=some (.inl ()):=by
      unfold ZJ qa8
      exact qw ez <| w_l rfl <| q6 rfl
    exact qw e1 <| w_l rfl <| q6 rfl
  | inr w=>
    have e1:ZJ N a m=some (.inr w.1):=by
      unfold ZJ qa8
      exact qw ez <| w_r rfl <| q6 rfl
    exact qw e1 <| w_r rfl <| qav rfl <| q6 rfl
theorem qtq {a:qe} (fa:qaN N a) (h:¬ (QT a=true∧mayM m=true)):QD N a m=some []:=by
  have hfm:=qgh.1 hf
  unfold QD qbE
  refine qw (qi1 fa) ?_
  cases ha:QT a with
  | false=>exact w_t rfl <| q6 rfl
  | true=>
    refine w_f rfl <| qw (qqz (by omega) (fun k hk=>by have:=(hfm.2 k hk).1; omega)) ?_
    cases hm:mayM m with
    | false=>exact w_t rfl <| q6 rfl
    | true=>exact (h ⟨ha,hm⟩).elim
end f
end
end Go.Rx
end
set_option maxRecDepth 100000
noncomputable section
namespace Go.Rx
open Go.Proofs
theorem qsj {l : Option (Unit ⊕ (Int × Bool))} {n m : Nat} {q : Nat → Bool} (h : n = m → l = some (if allN q n then .inr (((n : Nat) : Int), false) else .inl ())) :
    (Tree.cond (!decide (((n:Nat):Int)=((m:Nat):Int))) (.ret false) (.bind l fun z=>.sum z (fun _=>.ret false) fun _=>.ret true)).run some=some (decide (n=m)&&allN q n):=by
  have e:decide (((n:Nat):Int)=((m:Nat):Int))=decide (n=m):=decide_eq_decide.2 (by omega)
  rw [qo,e,qq,run_bind]
  by_cases hn:n=m
  · rw [decide_eq_true hn,h hn]
    cases allN q n<;>rfl
  · rw [decide_eq_false hn]; rfl
theorem qn1 {α:Type} {d:α}:∀ {a b:List α},a.length=b.length→(∀ k,k < a.length→a.getD k d=b.getD k d)→a=b
  | [],[],_,_=>rfl
  | [],_::_,h,_=>by simp at h
  | _::_,[],h,_=>by simp at h
  | x::a,y::b,h,hk=>by
    have h0:=hk 0 (by simp)
    simp only [List.getD_cons_zero] at h0
    rw [h0,qn1 (a:=a) (b:=b) (by simpa using h) fun k hk'=>by
      have:=hk (k + 1) (by simp; omega)
      simpa using this]
theorem qoW {t:Ty} {sz:Nat} (a b:List (El t)) (d:El t):(decide (a.length=b.length)&&allN (fun k=>eqE t (a.getD k d) (b.getD k d)) a.length)=eqE (.sl sz t) a b:=by
  refine Bool.eq_iff_iff.2 (Iff.trans ?_ (eqE_iff (.sl sz t) a b).symm)
  rw [Bool.and_eq_true,decide_eq_true_iff,ZW]
  constructor
  · rintro ⟨h1,h2⟩
    exact qn1 (d:=d) h1 fun k hk=>(eqE_iff t _ _).1 (h2 k hk)
  · intro h
    subst h
    exact ⟨rfl,fun k _=>(eqE_iff t _ _).2 rfl⟩
abbrev zG:qv:=qv.mk 0 (Vector.replicate 32 0)
end Go.Rx
end
set_option maxRecDepth 100000
noncomputable section
namespace Go.Rx
open Go.Proofs
section n
variable {N:Nat} [BigN N]
theorem qoN {a b:List qb} (hN:a.length < N) (h62:a.length≤4611686018427387904):Q6 N a b=some (eqE (.sl 4 qp) a b):=by
  unfold Q6 ZQ
  rw [qsj (q:=fun k=>eqE qp (a.getD k zF) (b.getD k zF)) fun hl=>?_]
  · rw [show (decide (a.length=b.length)&&allN (fun k=>eqE qp (a.getD k zF) (b.getD k zF)) a.length)=eqE (.sl 4 qp) a b from qoW (t:=qp) a b zF]
  · refine ZN (B:=zK N a b ((a.length:Nat):Int)) (g:=some) (fun k hk=>?_) ?_ hN
    · have hk2:k < b.length:=by omega
      unfold zK
      rw [qo,dec_lt hk,cond_true,run_bind,getI_D (d:=zF) hk,Option.bind_some,run_bind,getI_D (d:=zF) hk2,Option.bind_some,qo,qq,qt,qd (show in64 ((k:Int) + 1) by unfold in64; omega),qq,int_succ]
      cases eqE qp (a.getD k zF) (b.getD k zF)<;>rfl
    · unfold zK
      rw [qo,dec_nlt (Nat.lt_irrefl _),cond_false,qq]
theorem qta (r s:qa):eqE qj r s=(eqE (.ba 16) r.ID s.ID&&(eqE qn r.Dead s.Dead&&eqE (.sl 4 qp) r.F s.F)):=by
  show (eqE (.ba 16) _ _&&(eqE qn _ _&&(eqE (.sl 4 qp) _ _&&true)))=_
  rw [Bool.and_true]
  rfl
theorem qo6 {r s:qa} (hN:r.F.length < N) (h62:r.F.length≤4611686018427387904):qhh N r s=some (eqE qj r s):=by
  unfold qhh qg6
  rw [qta,qo,qq,qo,qq,run_bind,qoN hN h62,Option.bind_some,qq]
  cases eqE (.ba 16) r.ID s.ID<;>cases eqE qn r.Dead s.Dead<;>rfl
theorem qqP {a b:List qa} (hN:a.length < N) (h62:a.length≤4611686018427387904) (hF:∀ k,k < a.length→(a.getD k zR).F.length < N∧(a.getD k zR).F.length≤4611686018427387904):Qz N a b=some (eqE (.sl 19 qj) a b):=by
  unfold Qz Zj
  rw [qsj (q:=fun k=>eqE qj (a.getD k zR) (b.getD k zR)) fun hl=>?_]
  · rw [show (decide (a.length=b.length)&&allN (fun k=>eqE qj (a.getD k zR) (b.getD k zR)) a.length)=eqE (.sl 19 qj) a b from qoW (t:=qj) a b zR]
  · refine ZN (B:=zq N b a ((a.length:Nat):Int)) (g:=some) (fun k hk=>?_) ?_ hN
    · have hk2:k < b.length:=by omega
      unfold zq
      rw [qo,dec_lt hk,cond_true,run_bind,getI_D (d:=zR) hk,Option.bind_some,run_bind,getI_D (d:=zR) hk2,Option.bind_some,run_bind,qo6 (hF k hk).1 (hF k hk).2,Option.bind_some,qo,qq,qt,qd (show in64 ((k:Int) + 1) by unfold in64; omega),qq,int_succ]
      cases eqE qj (a.getD k zR) (b.getD k zR)<;>rfl
    · unfold zq
      rw [qo,dec_nlt (Nat.lt_irrefl _),cond_false,qq]
theorem qrB {a b:qe} (hf:qaN N a):qfw N a b=some (eqE (.sl 19 qj) a.R b.R):=by
  unfold qfw qfV
  rw [run_bind,qqP hf.1 hf.2.1 hf.2.2,Option.bind_some,qq]
end n
end Go.Rx
end
set_option maxRecDepth 100000
noncomputable section
namespace Go.Rx
open Go.Proofs
section
variable {N:Nat} [BigN N]
theorem qnU {a:qe} (fa:qaN N a):qC N a=some true:=by
  obtain ⟨p,ep⟩:=qsr (N:=N) a
  unfold qC QG
  refine qw (show qpt=some true from rfl) <| qw ep <| w_f rfl ?_
  cases p with
  | false=>rfl
  | true=>
    refine w_f rfl <| qw (qi1 fa) ?_
    cases ha:QT a with
    | false=>rfl
    | true=>
      have hA:=qpz.1 ha
      have he:QT (qe.mk [])=true:=rfl
      have fe:qaN N (qe.mk []):=⟨by have:=big N; show 0 < N; omega,Nat.zero_le _,fun k hk=>absurd hk (Nat.not_lt_zero _)⟩
      obtain ⟨D0,e0⟩:=qqm fe he
      obtain ⟨D,e1⟩:=qqm fa ha
      have p1:=qkg (N:=N) (qiz he D0) ha (qh8 he D0)
      rw [qqv hA.1] at p1
      have p2:=qkg (N:=N) (qiz ha D) he (qh8 ha D)
      have p3:=qkg (N:=N) (qiz ha D) ha (qh8 ha D)
      rw [qpj fun r hr=>by rw [qmh hA.1.1 hr]; exact qqG (hA.1.2 r hr)] at p3
      refine w_f rfl <| qw (qp3 fe he e0) <| qw (qp3 fa ha e1) <| qw p1 <| w_f (by rw [decide_eq_true rfl]; rfl) <| qw p2 <| w_f rfl <| qw p3 <| w_f rfl <| qw (qrB (a:=qe.mk a.R) (b:=a) fa) <| q6 ?_
      exact congrArg some ((eqE_iff (.sl 19 qj) _ _).2 rfl)
end
theorem aboveNone (a:qe) (h1:a.R.length≤4611686018427387904) (h2:∀ k,k < a.R.length→(a.R.getD k zR).F.length≤4611686018427387904):∃ N:Nat,qC N a=some true:=by
  obtain ⟨M,hM⟩:=qtc a h1 h2
  have:BigN (100000 + M):=BigN.of (by omega)
  exact ⟨_,qnU (hM (100000 + M) (by omega))⟩
end Go.Rx
end
