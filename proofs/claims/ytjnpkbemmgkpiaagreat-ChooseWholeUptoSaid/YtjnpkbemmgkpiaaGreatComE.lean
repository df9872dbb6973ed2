/- A machine over pure data, sound for the model: a part of the proof of the laws. No condition. -/
import Derived.ProofKit
import Derived.SizedLaws
import Derived.Test.YtjnpkbemmgkpiaaGreatComD
set_option linter.unusedSimpArgs false
set_option linter.unusedVariables false
set_option linter.unusedSectionVars false
noncomputable section
namespace Go.Rx
def qkR (ok:TypeId→Bool) (sz:TypeId→Nat):List Field→Nat→Nat→Bool
 | [],k,n=>k == n
 | f::r,k,n=>f.offset == k&&ok f.type&&qkR ok sz r (k + sz f.type) n
def okP (P:Program):Nat→TypeId→Bool
 | 0,_=>false
 | n + 1,t=>match P.underlying t with
  | some .bool=>true
  | some (.int _)=>true
  | some .string=>true
  | some (.slice e)=>(P.info? e).isSome&&Nat.blt 0 (qE P e)&&okP P n e&&(match Jm P e with | true=>qE P e == 1 | false=>true)
  | some (.array m e)=>qE P e == 1&&qE P t == m&&okP P n e&&(match P.underlying e with | some (.int .u8)=>true | some (.int .u32)=>true | _=>false)
  | some (.struct fs)=>qkR (okP P n) (qE P) fs.toList 0 (qE P t)
  | _=>false
def qhr {α β:Type} (R:α→β→Prop):List α→List β→Prop
 | [],[]=>True
 | a::as1,b::bs=>R a b∧qhr R as1 bs
 | _,_=>False
class RB where
 b:Nat
def TyP [RB] (P:Program):Nat→TypeId→PV→Prop
 | 0,_,_=>False
 | n + 1,t,x=>match P.underlying t with
  | some .bool=>∃ b,x=.b b
  | some (.int k)=>∃ i,x=.i k i∧(Lit.int k i).wf=true
  | some .string=>∃ s,x=.s s∧s.length≤RB.b
  | some (.slice e)=>match Jm P e with
   | true=>∃ bs,x=.bl bs∧bs.length * P.bytesOf e≤RB.b
   | false=>∃ xs,x=.l (qE P e) xs∧xs.length * P.bytesOf e≤RB.b∧∀ y∈xs,TyP P n e y
  | some (.array m e)=>match P.underlying e with
   | some (.int .u8)=>∃ v:Vector UInt8 m,x=.ba m v
   | some (.int .u32)=>∃ v:Vector UInt32 m,x=.wa m v
   | _=>False
  | some (.struct fs)=>∃ xs,x=.ag xs∧qhr (fun f y=>TyP P n f.type y) fs.toList xs
  | _=>False
section g
variable [RB] {P:Program} {G:Gh} {w:World} {H:Type} {enc:TypeId×Value→H}
theorem qmI {α β:Type} {f:α→Option β}:∀ {l:List α} {ys:List β},l.mapM f=some ys→qhr (fun x y=>f x=some y) l ys
 | [],ys,h=>by simp at h; subst h; trivial
 | x::l,ys,h=>by
  rw [List.mapM_cons] at h
  cases hx:f x with
  | none=>simp [hx] at h
  | some y=>
   cases hl:l.mapM f with
   | none=>simp [hx,hl] at h
   | some zs=>
    simp [hx,hl] at h
    subst h
    exact ⟨hx,qmI hl⟩
theorem qNs {a:Addr} {w:World} {v:Value} (h:w.cell? (a.add 0)=some v):a=⟨a.block,a.off,none⟩:=by
 obtain ⟨b,o,s⟩:=a
 simp only [Addr.add,if_true,World.cell?] at h
 split at h
 ·cases s with
  | none=>rfl
  | some s=>simp at h
 ·simp at h
theorem add_plain (b o n:Nat):(⟨b,o,none⟩:Addr).add n=⟨b,o + n,none⟩:=by
 unfold Addr.add
 split
 ·rename_i h; subst h; rfl
 ·rfl
theorem qEq {sz b off : Nat} {T : PV → Prop} : ∀ (n k : Nat), (∀ i, k ≤ i → i < k + n → ∃ y c, qG G w y c ∧ c.length = sz ∧ T y ∧ ∀ r, r < sz → w.cell? ⟨b, off + i * sz + r, none⟩ = c[r]?) →
    ∃ xs vs,xs.length=n∧zt G w xs vs∧vs.length=n * sz∧(∀ y∈xs,T y∧y.size=sz)∧∀ j,j < n * sz→w.cell? ⟨b,off + k * sz + j,none⟩=vs[j]?
 | 0,k,_=>⟨[],[],rfl,rfl,by simp,by simp,fun j hj=>by omega⟩
 | n + 1,k,h=>by
  obtain ⟨y,c,h1,h2,h3,h4⟩:=h k (Nat.le_refl _) (by omega)
  obtain ⟨xs,vs,g1,g2,g3,g4,g5⟩:=qEq n (k + 1) (fun i hi hj=>h i (by omega) (by omega))
  refine ⟨y::xs,c++vs,by simp [g1],⟨c,vs,rfl,h1,g2⟩,by simp [h2,g3,Nat.add_mul]; omega,fun z hz=>?_,fun j hj=>?_⟩
  ·rcases List.mem_cons.1 hz with rfl | hz
   ·exact ⟨h3,by rw [← h2]; exact (qG.len _ _ h1).symm⟩
   ·exact g4 z hz
  ·by_cases hc:j < sz
   ·rw [List.getElem?_append_left (by omega)]; exact h4 j hc
   ·rw [List.getElem?_append_right (by omega),h2]
    have:=g5 (j - sz) (by rw [Nat.add_mul] at hj; omega)
    rw [← this]
    congr 2
    rw [Nat.add_mul]; omega
theorem qHT {α β:Type} {R:α→β→Prop}:∀ {as1:List α} {bs:List β},qhr R as1 bs→as1.length=bs.length
 | [],[],_=>rfl
 | [],_::_,h=>h.elim
 | _::_,[],h=>h.elim
 | _::as1,_::bs,h=>by simp [qHT h.2]
theorem qy0 {α β:Type} {R:α→β→Prop}:∀ {as1:List α} {bs:List β},qhr R as1 bs→∀ (i:Nat) (a:α),as1[i]?=some a→∃ b,bs[i]?=some b∧R a b
 | [],[],_,i,a,h=>by simp at h
 | [],_::_,h,_,_,_=>h.elim
 | _::_,[],h,_,_,_=>h.elim
 | x::as1,y::bs,h,i,a,hi=>by
  cases i with
  | zero=>simp at hi; subst hi; exact ⟨y,rfl,h.1⟩
  | succ i=>simp at hi; simpa using qy0 h.2 i a hi
theorem qXa {e:TypeId} (h:Jm P e=true):P.underlying e=some (.int .u8):=qkr h
theorem qXl {i:Int} (h:(Lit.int .u8 i).wf=true):∃ c:UInt8,i=c.toNat:=by
 simp [Lit.wf,IntKind.min,IntKind.max,IntKind.signed,IntKind.bits] at h
 exact ⟨UInt8.ofNat i.toNat,by simp [UInt8.toNat_ofNat']; omega⟩
theorem qXk {i:Int} (h:(Lit.int .u32 i).wf=true):∃ c:UInt32,i=c.toNat:=by
 simp [Lit.wf,IntKind.min,IntKind.max,IntKind.signed,IntKind.bits] at h
 exact ⟨UInt32.ofNat i.toNat,by simp [UInt32.toNat_ofNat']; omega⟩
theorem qzQ:∀ (xs:List PV) (vs:List Value),zt G w xs vs→(∀ y∈xs,∃ i,y=.i .u8 i∧(Lit.int .u8 i).wf=true)→∃ bs:List UInt8,vs=bs.map cu8∧bs.length=xs.length
 | [],vs,h,_=>⟨[],h,rfl⟩
 | x::xs,vs,h,ht=>by
  obtain ⟨c,d,rfl,h1,h2⟩:=h
  obtain ⟨i,rfl,hi⟩:=ht x (by simp)
  obtain ⟨b,rfl⟩:=qXl hi
  obtain ⟨bs,rfl,hl⟩:=qzQ xs d h2 (fun y hy=>ht y (by simp [hy]))
  simp only [qG] at h1
  exact ⟨b::bs,by rw [h1]; rfl,by simp [hl]⟩
theorem qIr:∀ (xs:List PV) (vs:List Value),zt G w xs vs→(∀ y∈xs,∃ i,y=.i .u32 i∧(Lit.int .u32 i).wf=true)→∃ bs:List UInt32,vs=bs.map qqw∧bs.length=xs.length
 | [],vs,h,_=>⟨[],h,rfl⟩
 | x::xs,vs,h,ht=>by
  obtain ⟨c,d,rfl,h1,h2⟩:=h
  obtain ⟨i,rfl,hi⟩:=ht x (by simp)
  obtain ⟨b,rfl⟩:=qXk hi
  obtain ⟨bs,rfl,hl⟩:=qIr xs d h2 (fun y hy=>ht y (by simp [hy]))
  simp only [qG] at h1
  exact ⟨b::bs,by rw [h1]; rfl,by simp [hl]⟩
theorem qET {T:PV→Prop}:∀ (cs:List Value),(∀ i,i < cs.length→∃ y,qG G w y ((cs.drop i).take 1)∧T y)→∃ xs,xs.length=cs.length∧zt G w xs cs∧∀ y∈xs,T y
 | [],_=>⟨[],rfl,rfl,by simp⟩
 | c::cs,h=>by
  obtain ⟨y,h1,h2⟩:=h 0 (by simp)
  obtain ⟨xs,g1,g2,g3⟩:=qET cs (fun i hi=>by simpa using h (i + 1) (by simpa using hi))
  exact ⟨y::xs,by simp [g1],⟨[c],cs,rfl,by simpa using h1,g2⟩,fun z hz=>by
   rcases List.mem_cons.1 hz with rfl | hz
   ·exact h2
   ·exact g3 z hz⟩
theorem qBR {n : Nat} {f : Field → Option (DataW H × List MemPlace)} {cs : List Value} : ∀ (fs : List Field) (k : Nat) (ys : List (DataW H × List MemPlace)), qkR (okP P n) (qE P) fs k cs.length = true → fs.mapM f = some ys →
    (∀ g y,g∈fs→f g=some y→okP P n g.type=true→∃ x,qG G w x ((cs.drop g.offset).take (qE P g.type))∧TyP P n g.type x)→∃ xs,zt G w xs (cs.drop k)∧qhr (fun g y=>TyP P n g.type y) fs xs
 | [],k,ys,hok,hm,_=>by
  simp only [qkR,beq_iff_eq] at hok
  subst hok
  exact ⟨[],by simp [zt],trivial⟩
 | g::fs,k,ys,hok,hm,h=>by
  simp only [qkR,Bool.and_eq_true,beq_iff_eq] at hok
  obtain ⟨⟨hk,ho⟩,hr⟩:=hok
  have hp:=qmI hm
  cases ys with
  | nil=>exact hp.elim
  | cons y ys=>
   rw [List.mapM_cons] at hm
   cases hg:f g with
   | none=>simp [hg] at hm
   | some y'=>
    cases hl:fs.mapM f with
    | none=>simp [hg,hl] at hm
    | some ys'=>
     obtain ⟨x,h1,h2⟩:=h g y' (by simp) hg ho
     obtain ⟨xs,h3,h4⟩:=qBR fs (k + qE P g.type) ys' hr hl (fun g' y hg'=>h g' y (by simp [hg']))
     refine ⟨x::xs,⟨_,_,?_,h1,h3⟩,h2,h4⟩
     rw [hk,← List.drop_drop,List.take_append_drop]
theorem qoD {e:TypeId} {m:Nat}:∀ {l:List (DataW H)} {d:DataW H},d∈l→m∈d.weights P e→m∈DataW.weightsAll P e l
 | [],d,h,_=>by simp at h
 | x::l,d,h,hm=>by
  simp only [DataW.weightsAll,List.mem_append]
  rcases List.mem_cons.1 h with rfl | h
  ·exact .inl hm
  ·exact .inr (qoD h hm)
theorem qoY {f:Field→Option (DataW H×List MemPlace)} {m:Nat}:∀ {fs:List Field} {ys:List (DataW H×List MemPlace)},fs.mapM f=some ys→∀ g y,g∈fs→f g=some y→m∈y.1.weights P g.type→m∈DataW.weightsEach P (fs.map (·.type)) (ys.map (·.1))
 | [],ys,_,g,y,h,_,_=>by simp at h
 | x::fs,ys,hm,g,y,h,hg,hw=>by
  rw [List.mapM_cons] at hm
  cases hx:f x with
  | none=>simp [hx] at hm
  | some y'=>
   cases hl:fs.mapM f with
   | none=>simp [hx,hl] at hm
   | some ys'=>
    simp [hx,hl] at hm
    subst hm
    simp only [List.map_cons,DataW.weightsEach,List.mem_append]
    rcases List.mem_cons.1 h with rfl | h
    ·rw [hx] at hg; obtain rfl:=Option.some.inj hg; exact .inl hw
    ·exact .inr (qoY hl g y h hg hw)
theorem qVy (hG : ∀ b i, b < w.heap.size → G b i) : ∀ (fuel : Nat) (t : TypeId) (cs : List Value) (d : DataW H) (ps : List MemPlace), DataW.trod enc P w 0 (fun _ => true) true fuel t cs = some (d, ps) → (∀ m ∈ d.weights P t, m ≤ RB.b) →
    ∀ n,okP P n t=true→∃ x,qG G w x cs∧TyP P n t x:=by
 intro fuel
 induction fuel with
 | zero=>intro t cs d ps h; simp [DataW.trod] at h
 | succ fuel ih=>
  intro t cs d ps h hwt n hn
  cases n with
  | zero=>simp [okP] at hn
  | succ n=>
   unfold DataW.trod at h
   unfold okP at hn
   unfold TyP
   cases hu:P.underlying t with
   | none=>rw [hu] at hn; simp at hn
   | some u=>
    rw [hu] at h hn
    cases u<;>simp only at hn<;>try (simp at hn; done)
    case bool=>
     rcases cs with _ | ⟨v,_ | ⟨v2,cs⟩⟩
     ·simp at h
     ·cases v<;>try (simp at h; done)
      rename_i b
      exact ⟨.b b,by simp only [qG],_,rfl⟩
     ·simp at h
    case int k=>
     rcases cs with _ | ⟨v,_ | ⟨v2,cs⟩⟩
     ·simp at h
     ·cases v<;>try (simp at h; done)
      rename_i k' m
      simp only at h
      split at h
      case isFalse=>simp at h
      rename_i hc
      obtain ⟨hc,hw⟩:=hc
      subst hc
      exact ⟨.i k' m,by simp only [qG],_,rfl,hw⟩
     ·simp at h
    case string=>
     rcases cs with _ | ⟨v,_ | ⟨v2,cs⟩⟩
     ·simp at h
     ·cases v<;>try (simp at h; done)
      rename_i s
      simp only at h
      split at h
      case isFalse=>simp at h
      rename_i hc
      simp only [Option.some.injEq,Prod.mk.injEq] at h
      obtain ⟨rfl,_⟩:=h
      exact ⟨.s s.data.toList,by simp only [qG],_,rfl,hwt _ (by simp [DataW.weights])⟩
     ·simp at h
    case slice e=>
     simp only [Bool.and_eq_true] at hn
     obtain ⟨⟨⟨hi,hsz⟩,hoe⟩,hu8⟩:=hn
     have hsz:=Nat.le_of_ble_eq_true hsz
     simp only
     have key:∃ a len cap xs,cs=[.slice a len cap]∧len≤cap∧len * P.bytesOf e≤RB.b∧xs.length=len∧(∀ y∈xs,TyP P n e y∧y.size=qE P e)∧(xs=[]∨∃ b off vs,a=some ⟨b,off,none⟩∧zt G w xs vs∧Qq w b off vs∧inG G b off vs.length):=by
      split at h<;>try (simp_all; done)
      ·rename_i heq
       exact ⟨none,0,0,[],rfl,Nat.le_refl _,by rw [Nat.zero_mul]; exact Nat.zero_le _,rfl,by simp,.inl rfl⟩
      ·rename_i e' a len cap heq
       simp only [Option.some.injEq,TypeDesc.slice.injEq] at heq
       subst heq
       simp only at h
       split at h
       case isFalse=>simp at h
       rename_i hc
       obtain ⟨elems,hel,hrest⟩:=Option.bind_eq_some_iff.1 h
       have hp:=qmI hel
       obtain ⟨rest,_,hd⟩:=Option.map_eq_some_iff.1 hrest
       simp only [Prod.mk.injEq] at hd
       obtain ⟨rfl,_⟩:=hd
       have hel0:elems.length=len:=by have:=qHT hp; rw [List.length_range] at this; exact this.symm
       have hby:len * P.bytesOf e≤RB.b:=by
        have:=hwt ((elems.length + rest.length) * P.bytesOf e) (by simp [DataW.weights,hu])
        rw [hel0] at this
        exact Nat.le_trans (Nat.mul_le_mul_right _ (Nat.le_add_right _ _)) this
       refine ⟨some a,len,cap,?_⟩
       cases len with
       | zero=>exact ⟨[],rfl,hc.2.1,hby,rfl,by simp,.inl rfl⟩
       | succ len=>
        have hget:∀ i,i < len + 1→∃ y c,w.cells? 0 (a.add (i * P.cellsOf e)) (P.cellsOf e)=some c∧qG G w y c∧TyP P n e y:=by
         intro i hi
         obtain ⟨y,hyi,hy⟩:=qy0 hp i i (by simp [hi])
         obtain ⟨c,hc1,hc2⟩:=Option.bind_eq_some_iff.1 hy
         obtain ⟨x,hx1,hx2⟩:=ih e c y.1 y.2 hc2 (fun m hm=>hwt m (by
          simp only [DataW.weights,hu,List.mem_cons,List.mem_append]
          exact .inr (.inl (qoD (List.mem_map.2 ⟨y,List.mem_of_getElem? hyi,rfl⟩) hm)))) n hoe
         exact ⟨x,c,hc1,hx1,hx2⟩
        have hplain:a=⟨a.block,a.off,none⟩:=by
         obtain ⟨y,c,h1,_⟩:=hget 0 (by omega)
         have:=(World.cells?_some h1).2
         have h0:=this.2 0 hsz
         rw [Nat.zero_mul] at h0
         have hz:(a.add 0)=a:=by simp [Addr.add]
         rw [hz] at h0
         cases hcc:c[0]? with
         | none=>rw [List.getElem?_eq_none_iff] at hcc; have:=this.1; have hsz':0 < P.cellsOf e:=hsz; omega
         | some v=>rw [hcc] at h0; exact qNs h0
        have hblk:a.block < w.heap.size:=by
         obtain ⟨y,c,h1,_⟩:=hget 0 (by omega)
         have:=World.cells?_block h1 hsz
         simpa [Addr.add] using this
        rw [hplain] at hget
        obtain ⟨xs,vs,g1,g2,g3,g4,g5⟩:=qEq (G:=G) (w:=w) (sz:=qE P e) (b:=a.block) (off:=a.off) (T:=TyP P n e) (len + 1) 0 (fun i _ hi=>by
         obtain ⟨y,c,h1,h2,h3⟩:=hget i (by omega)
         obtain ⟨_,h4,h5⟩:=World.cells?_some h1
         refine ⟨y,c,h2,h4,h3,fun r hr=>?_⟩
         have:=h5 r hr
         rw [add_plain,add_plain] at this
         exact this)
        refine ⟨xs,rfl,hc.2.1,hby,g1,g4,.inr ⟨a.block,a.off,vs,by rw [hplain],g2,fun j hj=>?_,fun j _=>hG _ _ hblk⟩⟩
        have:=g5 j (by rw [← g3]; exact hj)
        simpa using this
     obtain ⟨a,len,cap,xs,rfl,hlc,hlm,rfl,hT,hx⟩:=key
     cases h8:Jm P e with
     | true=>
      simp only
      have hue:=qXa h8
      have hTy:∀ y∈xs,∃ i,y=.i .u8 i∧(Lit.int .u8 i).wf=true:=fun y hy=>by
       have:=(hT y hy).1
       cases n with
       | zero=>simp [okP] at hoe
       | succ n=>unfold TyP at this; rw [hue] at this; exact this
      rcases hx with rfl | ⟨b,off,vs,rfl,hr,hc,hg⟩
      ·exact ⟨.bl [],⟨a,cap,rfl,hlc,.inl rfl⟩,[],rfl,hlm⟩
      ·obtain ⟨bs,rfl,hl⟩:=qzQ xs vs hr hTy
       exact ⟨.bl bs,⟨_,cap,by rw [hl],by omega,.inr ⟨b,off,rfl,hc,by simpa using hg⟩⟩,bs,rfl,by rw [hl]; exact hlm⟩
     | false=>
      simp only
      exact ⟨.l (qE P e) xs,⟨a,cap,rfl,hlc,fun y hy=>(hT y hy).2,hx⟩,xs,rfl,hlm,fun y hy=>(hT y hy).1⟩
    case array m e=>
     simp only [Bool.and_eq_true,beq_iff_eq] at hn
     obtain ⟨⟨⟨hse,hst⟩,hoe⟩,hk⟩:=hn
     have h:(if cs.length=P.cellsOf t then ((List.range m).mapM fun i=>DataW.trod enc P w 0 (fun _=>true) true fuel e ((cs.drop (i * P.cellsOf e)).take (P.cellsOf e))).map fun xs=>(DataW.agg (xs.map (·.1)),xs.flatMap (·.2)) else none)=some (d,ps):=by
      rw [← h]
     split at h
     case isFalse=>simp at h
     rename_i hlen
     obtain ⟨ys,hys,hd⟩:=Option.map_eq_some_iff.1 h
     have hp:=qmI hys
     simp only [Prod.mk.injEq] at hd
     obtain ⟨rfl,_⟩:=hd
     have hse':P.cellsOf e=1:=hse
     have hst':P.cellsOf t=m:=hst
     have hm:cs.length=m:=by rw [hlen,hst']
     obtain ⟨xs,g1,g2,g3⟩:=qET (G:=G) (w:=w) (T:=TyP P n e) cs (fun i hi=>by
      obtain ⟨y,hyi,hy⟩:=qy0 hp i i (by rw [List.getElem?_range (by omega)])
      rw [hse',Nat.mul_one] at hy
      exact ih e _ y.1 y.2 hy (fun m' hm'=>hwt m' (by
       simp only [DataW.weights,hu]
       exact qoD (List.mem_map.2 ⟨y,List.mem_of_getElem? hyi,rfl⟩) hm')) n hoe)
     cases n with
     | zero=>simp [okP] at hoe
     | succ n=>
      split at hk
      ·rename_i hue
       simp only [hue]
       obtain ⟨bs,rfl,hl⟩:=qzQ xs cs g2 (fun y hy=>by have:=g3 y hy; unfold TyP at this; rw [hue] at this; exact this)
       have hbm:bs.length=m:=by rw [hl,g1,hm]
       exact ⟨.ba m ⟨bs.toArray,by simp [hbm]⟩,by simp [qG,Vector.toList],_,rfl⟩
      ·rename_i hue
       simp only [hue]
       obtain ⟨bs,rfl,hl⟩:=qIr xs cs g2 (fun y hy=>by have:=g3 y hy; unfold TyP at this; rw [hue] at this; exact this)
       have hbm:bs.length=m:=by rw [hl,g1,hm]
       exact ⟨.wa m ⟨bs.toArray,by simp [hbm]⟩,by simp [qG,Vector.toList],_,rfl⟩
      ·simp at hk
    case struct fs=>
     simp only at h ⊢
     split at h
     case isFalse=>simp at h
     rename_i hlen
     obtain ⟨ys,hys,hd⟩:=Option.map_eq_some_iff.1 h
     simp only [Prod.mk.injEq] at hd
     obtain ⟨rfl,_⟩:=hd
     have hl:qE P t=cs.length:=hlen.symm
     rw [hl] at hn
     obtain ⟨xs,h1,h2⟩:=qBR (G:=G) (w:=w) fs.toList 0 ys hn hys (fun g y hgm hg ho=>ih g.type _ y.1 y.2 hg (fun m hm=>hwt m (by
      simp only [DataW.weights,hu]
      exact qoY hys g y hgm hg hm)) n ho)
     exact ⟨.ag xs,by simpa [qG] using h1,xs,rfl,h2⟩
end g
end Go.Rx
end
noncomputable section
namespace Go.Rx
open Go.ChangeShapes Go.WideShapes Go.ChangeAt Go.RowKit
section g
variable [RB] {P:Program} {G:Gh} {w:World} {H:Type} {enc:TypeId×Value→H} {ob:Ob} {γ:Hm}
theorem qW3 {n base : Nat} {t : TypeId} {v : Value} {d : DataW H} {ps : List MemPlace} (hG : ∀ b i, b < w.heap.size → G b i) (hn : okP P n t = true) (ho : Value.okWide P w .any base t v)
    (h:DataW.Trod enc P w 0 (fun _=>true) true t v d ps) (hwt:∀ m∈d.weights P t,m≤RB.b):∃ x,(qm ob γ G w (.pv x) v.cells.toList∧zp (AV.isAgg (.pv x)) v.cells.toList v)∧TyP P n t x:=by
 obtain ⟨fuel,h⟩:=h
 obtain ⟨x,h1,h2⟩:=qVy hG fuel t _ d ps h hwt n hn
 refine ⟨x,⟨by simpa [qm] using h1,?_⟩,h2⟩
 cases n with
 | zero=>simp [okP] at hn
 | succ n=>
  unfold okP at hn
  unfold TyP at h2
  unfold Value.okWide at ho
  cases hu:P.underlying t with
  | none=>rw [hu] at hn; simp at hn
  | some u=>
   rw [hu] at hn h2 ho
   have hc:∀ cs,Cell.okWide P w .any base t (.agg cs)→(match u with | .interface _ | .map .. | .func .. | .chan .. | .unsafePointer=>True | _=>False)→False:=by
    intro cs _ hm
    cases u<;>simp_all
   have hagg:∀ cs,v=.agg cs→Cell.okWide P w .any base t v→(u=.bool∨(∃ k,u=.int k)∨u=.string∨∃ e,u=.slice e)→False:=by
    intro cs hv ho hk
    subst hv
    rcases hk with rfl | ⟨k,rfl⟩ | rfl | ⟨e,rfl⟩<;>simp [Cell.okWide,hu,Cell.ok] at ho
   have hone:Cell.okWide P w .any base t v→(u=.bool∨(∃ k,u=.int k)∨u=.string∨∃ e,u=.slice e)→v.cells.toList=[v]:=by
    intro ho hk
    cases v with
    | agg cs=>exact (hagg cs rfl ho hk).elim
    | _=>rfl
   cases u<;>simp only at hn h2 ho<;>try (simp at hn; done)
   case bool=>obtain ⟨b,rfl⟩:=h2; exact hone ho (.inl rfl)
   case int k=>obtain ⟨b,rfl,_⟩:=h2; exact hone ho (.inr (.inl ⟨_,rfl⟩))
   case string=>obtain ⟨b,rfl,_⟩:=h2; exact hone ho (.inr (.inr (.inl rfl)))
   case slice e=>
    have:=hone ho (.inr (.inr (.inr ⟨_,rfl⟩)))
    split at h2<;>obtain ⟨b,rfl,_⟩:=h2<;>exact this
   case array m e=>
    obtain ⟨cs,rfl,_⟩:=ho
    split at h2
    ·obtain ⟨b,rfl⟩:=h2; rfl
    ·obtain ⟨b,rfl⟩:=h2; rfl
    ·exact h2.elim
   case struct fs=>
    obtain ⟨cs,rfl,_⟩:=ho
    obtain ⟨b,rfl,_⟩:=h2
    rfl
theorem qHK {n base : Nat} (hG : ∀ b i, b < w.heap.size → G b i) : ∀ (ts : List TypeId) (vs : List Value) (ds : List (DataW H)) (ps : List MemPlace), ts.all (okP P n) = true →
    (∀ (j:Nat) t v,ts[j]?=some t→vs[j]?=some v→Value.okWide P w .any base t v)→DataW.TrodAll enc P w 0 (fun _=>true) true ts vs ds ps→(∀ m∈DataW.weightsEach P ts ds,m≤RB.b)→
    ∃ xs,zB ob γ G w (xs.map .pv) vs∧qhr (TyP P n) ts xs
 | [],vs,ds,ps,_,_,h,_=>by
  obtain ⟨rfl,rfl,rfl⟩:=trodAll_nil h
  exact ⟨[],by simp [zB],trivial⟩
 | t::ts,vs,ds,ps,hok,ho,h,hwt=>by
  obtain ⟨v,vs,d,ds,p,q,rfl,rfl,rfl,h1,h2⟩:=trodAll_cons h
  simp only [List.all_cons,Bool.and_eq_true] at hok
  obtain ⟨x,⟨g1,g2⟩,g3⟩:=qW3 (ob:=ob) (γ:=γ) hG hok.1 (ho 0 t v rfl rfl) h1 (fun m hm=>hwt m (by simp only [DataW.weightsEach,List.mem_append]; exact .inl hm))
  obtain ⟨xs,g4,g5⟩:=qHK hG ts vs ds q hok.2 (fun j t v ht hv=>ho (j + 1) t v (by simpa using ht) (by simpa using hv)) h2 (fun m hm=>hwt m (by simp only [DataW.weightsEach,List.mem_append]; exact .inr hm))
  exact ⟨x::xs,by simp only [List.map_cons,zB]; exact ⟨_,v,vs,rfl,g1,g2,g4⟩,g3,g5⟩
theorem qEH {w' : World} (hl : laidOutB P = true) (hb : ∀ b, b < w.heap.size → w'.heap[b]? = w.heap[b]?) : ∀ (ts : List TypeId) (vs : List Value) (ds : List (DataW H)) (ps : List MemPlace),
    (∀ t∈ts,P.readableRec t=true∧t < P.types.size)→(∀ p∈ps,p.block < w.heap.size)→DataW.TrodAll enc P w 0 (fun _=>true) true ts vs ds ps→
    DataW.TrodAll enc P w' 0 (fun b=>decide (b < w.heap.size)) true ts vs ds ps
 | [],vs,ds,ps,_,_,h=>by
  obtain ⟨rfl,rfl,rfl⟩:=trodAll_nil h
  rfl
 | t::ts,vs,ds,ps,hr,hlt,h=>by
  obtain ⟨v,vs,d,ds,p,q,rfl,rfl,rfl,h1,h2⟩:=trodAll_cons h
  refine ⟨p,q,WideElems.Trod_stays hl (hr t (by simp)).1 (hr t (by simp)).2 h1 (fun x hx=>?_) (fun x hx=>by simpa using hlt x (by simp [hx])),
   qEH hl hb ts vs ds q (fun t ht=>hr t (by simp [ht])) (fun x hx=>hlt x (by simp [hx])) h2,rfl⟩
  have:=hlt x (by simp [hx])
  cases x with
  | cell b o=>exact World.cell?_of_block (w:=w) (hb b this)
  | map b=>exact hb b this
theorem qtx {us:List TypeId} {m:Nat}:∀ {ts:List TypeId} {ds:List (DataW H)},m∈DataW.weightsEach P ts ds→m∈DataW.weightsEach P (ts++us) ds
 | [],ds,h=>by simp [DataW.weightsEach] at h
 | t::ts,[],h=>by simp [DataW.weightsEach] at h
 | t::ts,d::ds,h=>by
  simp only [List.cons_append,DataW.weightsEach,List.mem_append] at h ⊢
  exact h.imp id qtx
theorem qKu {K n : Nat} {f : Func} {s : ChangeSpec} {tb : TypeId} {fresh handsOn : Bool} {bd : Code} (hf : P.funcs[K]? = some f) (hb : f.body = some bd) (hname : (f.name == "runtime.NumGoroutine") = false)
    (hl:laidOutB P=true) (hpar:(f.params.toList.all fun t=>okP P n t&&P.readableRec t&&decide (t < P.types.size))=true) (hvars:s.vars=[]) (hres:f.resultTypes=#[tb]) (htb:P.underlying tb=some .bool)
    (hs:∀ ds:List (DataW H),ds.length=f.params.size→s.fn H ds={ results:=[.lit (.bool true)],args:=ds,vars:=[] })
    (hrun:∀ xs,qhr (TyP P n) f.params.toList xs→Valid P 0 (.fn (.func K) [] []) (xs.map .pv) [] (.ret (.pv (.b true))) [])
    (W:World) (base:Nat) (args:Array Value) (ds gs:List (DataW H)) (before:List MemPlace)
    (hval:∀ (j:Nat) t v,f.params[j]?=some t→args[j]?=some v→Value.okWide P W .any base t v)
    (hW:DataW.Whole enc P f.params.toList s.vars false W args.toList ds gs before) {us:List TypeId} (hsz:(DataW.weightsEach P (f.params.toList++us) (ds++gs)).all (·≤RB.b)=true) :
    Calls P K args W fun e W'=>∃ v,e=.returned v∧s.post enc P f false fresh handsOn false W args v W':=by
 have hW':=hW
 obtain ⟨p,q,hA,hV,rfl,hfz,hnd⟩:=hW
 rw [hvars] at hV
 obtain ⟨rfl,rfl⟩:=trodVars_none hV
 simp only [List.append_nil] at hW' hfz hsz
 let G:Gh:=fun b _=>b < W.heap.size
 let γ:Hm:=fun _=>(0,0)
 have hpar':f.params.toList.all (okP P n)=true:=List.all_eq_true.2 fun t ht=>by
  have:=List.all_eq_true.1 hpar t ht
  simp only [Bool.and_eq_true] at this
  exact this.1.1
 have hread:∀ t∈f.params.toList,P.readableRec t=true∧t < P.types.size:=fun t ht=>by
  have:=List.all_eq_true.1 hpar t ht
  simp only [Bool.and_eq_true,decide_eq_true_eq] at this
  exact ⟨this.1.2,this.2⟩
 obtain ⟨xs,hx,hty⟩:=qHK (ob:=[]) (γ:=γ) (G:=G) (fun b i hb=>hb) f.params.toList args.toList ds p hpar'
  (fun j t v ht hv=>hval j t v (by simpa using ht) (by simpa using hv)) hA (fun m hm=>by
   have:=List.all_eq_true.1 hsz m (qtx hm)
   simpa using this)
 have HK:qL [] γ G W:=⟨fun l o h=>by simp [get_nil,zK] at h,fun l l' o o' h=>by simp [get_nil,zK] at h,fun b o h=>h,fun l o h=>by simp [get_nil,zK] at h⟩
 obtain ⟨r,hr,hcall⟩:=hrun xs hty γ G W (.func (.func K) #[] #[]) args.toList HK ⟨_,⟨[],[],rfl,rfl,rfl⟩,rfl⟩ hx
 cases hr
 unfold X2 at hcall
 have hinv:(do let d ← Deferred.ofValue (.func (.func K) #[] #[]) args.toList.toArray; invoke d.target d.args:Sem Next).run P W=.ok (.enter K args.toList.toArray) W:=by
  simp only [Deferred.ofValue,Sem.run_bind,Sem.run_pure,Result.andThen_ok,invoke,callFunc,run_program,hf,hname,hb,Option.isNone_some,Bool.false_eq_true,if_false]
  simp
 rw [hinv] at hcall
 refine hcall.mono fun e W' ⟨v,he,γ',G',g1,g2,g3⟩=>?_
 subst he
 refine ⟨v,rfl,?_⟩
 obtain ⟨c,h1,h2⟩:=g3
 simp only [qm,qG] at h1
 subst h1
 simp only [AV.isAgg,zp,List.cons.injEq,and_true] at h2
 subst h2
 have hlt:=hW'.lt
 have hframe:∀ b,b < W.heap.size→W'.heap[b]?=W.heap[b]?:=fun b hb=>g2.frame b hb (fun l o h=>by simp [get_nil,zK] at h)
 have hlen:ds.length=f.params.size:=by
  have:∀ (ts:List TypeId) (vs:List Value) (ds:List (DataW H)) (ps:List MemPlace),DataW.TrodAll enc P W 0 (fun _=>true) true ts vs ds ps→ds.length=ts.length:=by
   intro ts
   induction ts with
   | nil=>intro vs ds ps h; obtain ⟨rfl,rfl,rfl⟩:=trodAll_nil h; rfl
   | cons t ts ih=>intro vs ds ps h; obtain ⟨v,vs,d,ds,p,q,rfl,rfl,rfl,h1,h2⟩:=trodAll_cons h; simp [ih _ _ _ h2]
  rw [this _ _ _ _ hA]; simp
 have hsp:=hs ds hlen
 refine ⟨ds,[],p,[],p,[],hW',?_,?_,?_,?_,fun h=>by simp at h⟩
 ·simp only [List.append_nil]
  rw [hsp,hres]
  exact trodAll_mk1 (shut_bool htb _)
 ·simp only [List.append_nil]
  rw [hsp]
  exact qEH hl hframe _ _ _ _ hread hlt hA
 ·simp only [List.append_nil]
  rw [hsp,hvars]
  rfl
 ·refine ⟨g2.io.1,g2.io.2,fun i hi=>?_⟩
  rw [hframe i hi]
  cases W.heap[i]? with
  | none=>rfl
  | some o=>cases o<;>simp
end g
end Go.Rx
end
noncomputable section
namespace Go.Rx
section g
variable [RB] {P:Program} {n:Nat} {t:TypeId} {x:PV}
theorem qYh {k:IntKind} (hu:P.underlying t=some (.int k)) (h:TyP P n t x):∃ i,x=.i k i∧(Lit.int k i).wf=true:=by
 cases n with
 | zero=>exact h.elim
 | succ n=>unfold TyP at h; rw [hu] at h; exact h
theorem wf_i64 {i:Int} (h:(Lit.int .i64 i).wf=true):qw i:=by
 simp [Lit.wf,IntKind.min,IntKind.max,IntKind.signed,IntKind.bits] at h
 exact ⟨by omega,by omega⟩
theorem qYd (hu:P.underlying t=some (.int .i64)) (h:TyP P n t x):∃ i,x=.i .i64 i∧qw i:=by
 obtain ⟨i,h1,h2⟩:=qYh hu h
 exact ⟨i,h1,wf_i64 h2⟩
theorem qYo (hu:P.underlying t=some .string) (h:TyP P n t x):∃ s,x=.s s∧s.length≤RB.b:=by
 cases n with
 | zero=>exact h.elim
 | succ n=>unfold TyP at h; rw [hu] at h; exact h
theorem qWA {m:Nat} {e:TypeId} (hu:P.underlying t=some (.array m e)) (he:P.underlying e=some (.int .u8)) (h:TyP P n t x):∃ v:Vector UInt8 m,x=.ba m v∧True:=by
 cases n with
 | zero=>exact h.elim
 | succ n=>unfold TyP at h; rw [hu] at h; simp only [he] at h; obtain ⟨v,h⟩:=h; exact ⟨v,h,trivial⟩
theorem qJy {α:Type} {f:α→PV} {ok:α→Prop} {R:PV→Prop} (he:∀ y,R y→∃ a,y=f a∧ok a):∀ (xs:List PV),(∀ y∈xs,R y)→∃ l:List α,xs=l.map f∧∀ a∈l,ok a
 | [],_=>⟨[],rfl,by simp⟩
 | y::ys,h=>by
  obtain ⟨a,rfl,ha⟩:=he y (h y (by simp))
  obtain ⟨l,rfl,hl⟩:=qJy he ys (fun z hz=>h z (by simp [hz]))
  exact ⟨a::l,rfl,fun b hb=>by
   rcases List.mem_cons.1 hb with rfl | hb
   ·exact ha
   ·exact hl b hb⟩
theorem qMc {e : TypeId} {sz b : Nat} {α : Type} {f : α → PV} {ok : α → Prop} (hu : P.underlying t = some (.slice e)) (h8 : Jm P e = false) (hsz : qE P e = sz) (hb : P.bytesOf e = b) (he : ∀ n y, TyP P n e y → ∃ a, y = f a ∧ ok a) (h : TyP P n t x) :
    ∃ l:List α,x=qY6 sz f l∧l.length * b≤RB.b∧∀ a∈l,ok a:=by
 cases n with
 | zero=>exact h.elim
 | succ n=>
  unfold TyP at h
  rw [hu] at h
  simp only [h8] at h
  obtain ⟨xs,rfl,h1,h2⟩:=h
  obtain ⟨l,rfl,h3⟩:=qJy (fun y hy=>he n y hy) xs h2
  exact ⟨l,by rw [hsz]; rfl,by rw [hb] at h1; simpa using h1,h3⟩
theorem qij {fs:Array Field} (hu:P.underlying t=some (.struct fs)) (h:TyP P n t x):∃ xs,x=.ag xs∧∃ m,qhr (fun f y=>TyP P m f.type y) fs.toList xs:=by
 cases n with
 | zero=>exact h.elim
 | succ n=>
  unfold TyP at h
  rw [hu] at h
  obtain ⟨xs,h1,h2⟩:=h
  exact ⟨xs,h1,n,h2⟩
theorem JL {α β:Type} {R:α→β→Prop} {a:α} {as1:List α} {ys:List β} (h:qhr R (a::as1) ys):∃ y zs,ys=y::zs∧R a y∧qhr R as1 zs:=by
 cases ys with
 | nil=>exact h.elim
 | cons y zs=>exact ⟨y,zs,rfl,h.1,h.2⟩
theorem qhq {α β:Type} {R:α→β→Prop} {ys:List β} (h:qhr R [] ys):ys=[]:=by
 cases ys with
 | nil=>rfl
 | cons y zs=>exact h.elim
end g
end Go.Rx
end
