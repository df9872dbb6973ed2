/- A part of the proof of OpTells: the law returns true for every input, and its arguments read as before. No condition. -/
import Derived.Test.YtigkkdoljkhcfaaGreatOpTellsF
set_option linter.unusedSimpArgs false
set_option linter.unusedVariables false
set_option linter.unusedSectionVars false
set_option maxRecDepth 100000
noncomputable section
namespace Go.Rx
open Go.Proofs
structure Cod {α:Type} (V:α→Prop) (put:α→List UInt8) (get:List UInt8→Option (α×Nat)):Prop where
 back:∀ a r,V a→get (put a++r)=some (a,(put a).length)
 forth:∀ b a n,get b=some (a,n)→V a∧n≤b.length∧b.take n=put a
theorem Cod.cut {α:Type} {V:α→Prop} {put:α→List UInt8} {get:List UInt8→Option (α×Nat)} (C:Cod V put get) {a:α} (h:V a) {k:Nat} (hk:k < (put a).length):get ((put a).take k)=none:=by
 cases e:get ((put a).take k) with
 | none=>rfl
 | some x=>
  obtain ⟨a',n⟩:=x
  obtain ⟨h1,h2,h3⟩:=C.forth _ _ _ e
  have hn:n≤k:=by rw [List.length_take] at h2; omega
  rw [List.take_take,Nat.min_eq_left hn] at h3
  have h4:=C.back a' ((put a).drop n) h1
  rw [← h3,List.take_append_drop,List.length_take,Nat.min_eq_left (by omega)] at h4
  have h5:=C.back a [] h
  rw [List.append_nil,h4] at h5
  have:n=(put a).length:=(Prod.mk.inj (Option.some.inj h5)).2
  omega
def rdN:Nat→Nat→List UInt8→Option (Nat×Nat)
 | _,_,[]=>none
 | i,n,c::r=>if i=10∨(i=9∧0 < n / 144115188075855872)∨(i=0∧c.toNat=128) then none else if c.toNat < 128 then some (n * 128 + c.toNat % 128,i + 1) else rdN (i + 1) (n * 128 + c.toNat % 128) r
theorem qB6 (i n:Nat) (c:UInt8) (r:List UInt8):rdN i n (c::r)=if i=10∨(i=9∧0 < n / 144115188075855872)∨(i=0∧c.toNat=128) then none else if c.toNat < 128 then some (n * 128 + c.toNat % 128,i + 1) else rdN (i + 1) (n * 128 + c.toNat % 128) r:=rfl
def qij (x K:Nat):Prop:=K≤9∧x < 18446744073709551616∧x / 128 ^ K < 128∧∀ k < K,128≤x / 128 ^ k
theorem qry (x k:Nat):(hiB x k).toNat=x / 128 ^ k % 128 + 128:=by
 unfold hiB
 rw [UInt8.toNat_ofNat_of_lt' (show x / 128 ^ k % 128 + 128 < UInt8.size by unfold UInt8.size; omega)]
theorem qxw (x:Nat):(loB x).toNat=x % 128:=by
 unfold loB
 rw [UInt8.toNat_ofNat_of_lt' (show x % 128 < UInt8.size by unfold UInt8.size; omega)]
theorem quC {x:Nat} (hx:x < 18446744073709551616) (r:List UInt8):∀ (k i:Nat),i + k≤9→(i=0→k≠0→x / 128 ^ k % 128≠0)→rdN i (x / 128 ^ (k + 1)) (dn x k++r)=some (x,i + k + 1)
 | 0,i,hi,_=>by
  show rdN i (x / 128 ^ 1) (loB x::r)=_
  have h9:i=9→¬ 0 < x / 128 ^ 1 / 144115188075855872:=fun _=>by rw [Nat.pow_one]; omega
  unfold rdN
  rw [qxw,if_neg (by rintro (h | ⟨h,h'⟩ | ⟨_,h⟩); omega; exact h9 h h'; omega),if_pos (by omega),Nat.pow_one,Nat.mod_mod,show x / 128 * 128 + x % 128=x by omega]
 | k + 1,i,hi,h0=>by
  show rdN i (x / 128 ^ (k + 2)) (hiB x (k + 1)::(dn x k++r))=_
  unfold rdN
  have h1:x / 128 ^ (k + 2) * 128 + (x / 128 ^ (k + 1) % 128 + 128) % 128=x / 128 ^ (k + 1):=by
   rw [← Vw]; omega
  rw [qry,if_neg (by rintro (h | ⟨h,_⟩ | ⟨h,h'⟩); omega; omega; have:=h0 h (by omega); omega),if_neg (by omega),h1,quC hx r k (i + 1) (by omega) (fun h=>by omega)]
  congr 2; omega
theorem qFP {x K:Nat} (h:qij x K) (hK:K≠0):x / 128 ^ K % 128≠0:=by
 obtain ⟨h1,h2,h3,h4⟩:=h
 have:=h4 (K - 1) (by omega)
 have e:=Vw x (K - 1)
 rw [show K - 1 + 1=K by omega] at e
 omega
theorem qE7 {x K:Nat} (h:qij x K) (r:List UInt8):rdN 0 0 (dn x K++r)=some (x,K + 1):=by
 have h0:x / 128 ^ (K + 1)=0:=by rw [← Vw]; exact Nat.div_eq_of_lt h.2.2.1
 have:=quC h.2.1 r K 0 (by have:=h.1; omega) fun _ hK=>qFP h hK
 rw [h0] at this
 rw [this]; congr 2; omega
theorem qrS : ∀ (b : List UInt8) (i n x u : Nat), i ≤ 10 → (i ≤ 9 → n < 128 ^ i) → rdN i n b = some (x, u) →
    ∃ k,u=i + k + 1∧i + k≤9∧k + 1≤b.length∧b.take (k + 1)=dn x k∧x / 128 ^ (k + 1)=n∧(i=0→k≠0→x / 128 ^ k % 128≠0)∧x < 18446744073709551616
 | [],_,_,_,_,_,_,h=>by cases h
 | c::r,i,n,x,u,hi,hn,h=>by
  unfold rdN at h
  split at h
  ·cases h
  rename_i hno
  have hi9:i≤9:=by
   by_cases e:i=10
   ·exact (hno (.inl e)).elim
   ·omega
  have hc:=c.toNat_lt
  split at h
  ·rename_i hlt
   have h:=Option.some.inj h
   obtain ⟨rfl,rfl⟩:=Prod.mk.inj h
   refine ⟨0,rfl,hi9,by simp,?_,?_,fun _ h=>(h rfl).elim,?_⟩
   ·show [c]=[loB (n * 128 + c.toNat % 128)]
    unfold loB
    rw [show (n * 128 + c.toNat % 128) % 128=c.toNat by omega,UInt8.ofNat_toNat]
   ·rw [Nat.pow_one]; omega
   ·by_cases e:i=9
    ·have:¬ 0 < n / 144115188075855872:=fun h=>hno (.inr (.inl ⟨e,h⟩))
     omega
    ·have h1:=hn hi9
     have h2:128 ^ i≤128 ^ 8:=Nat.pow_le_pow_right (by omega) (by omega)
     have:(128:Nat) ^ 8=72057594037927936:=by decide
     omega
  ·rename_i hge
   have hi8:i + 1≤10:=by omega
   obtain ⟨k,h1,h2,h3,h4,h5,h6,h7⟩:=qrS r (i + 1) (n * 128 + c.toNat % 128) x u hi8 (fun _=>by have:=hn hi9; rw [Nat.pow_succ]; omega) h
   refine ⟨k + 1,by omega,by omega,by simp; omega,?_,?_,fun h0 _=>?_,h7⟩
   ·show c::r.take (k + 1)=hiB x (k + 1)::dn x k
    rw [h4]
    congr 1
    unfold hiB
    rw [h5,show (n * 128 + c.toNat % 128) % 128 + 128=c.toNat by omega,UInt8.ofNat_toNat]
   ·rw [← Vw,h5]; omega
   ·rw [h5]
    intro e
    exact hno (.inr (.inr ⟨h0,by omega⟩))
theorem qe4 {b:List UInt8} {x u:Nat} (h:rdN 0 0 b=some (x,u)):∃ K,u=K + 1∧qij x K∧K + 1≤b.length∧b.take (K + 1)=dn x K:=by
 obtain ⟨k,h1,h2,h3,h4,h5,h6,h7⟩:=qrS b 0 0 x u (by omega) (fun _=>by decide) h
 refine ⟨k,by omega,⟨by omega,h7,?_,fun j hj=>?_⟩,h3,h4⟩
 ·have:=Vw x k
  rw [h5] at this; omega
 ·have ht:=h6 rfl (by omega)
  have h8:1≤x / 128 ^ k:=by
   rcases Nat.eq_zero_or_pos (x / 128 ^ k) with e | e
   ·rw [e] at ht; omega
   ·exact e
  have h9:128 ^ k≤x:=by
   have:=(Nat.le_div_iff_mul_le (Nat.pow_pos (by omega))).1 h8
   omega
  refine (Nat.le_div_iff_mul_le (Nat.pow_pos (by omega))).2 ?_
  have:128 ^ (j + 1)≤128 ^ k:=Nat.pow_le_pow_right (by omega) hj
  rw [Nat.pow_succ] at this
  omega
theorem qxC {x:Nat} (h:x < 18446744073709551616):∃ K,qij x K:=by
 obtain ⟨K,h1,h2,h3⟩:=qz8 h
 exact ⟨K,h1,h,h2,h3⟩
def qyP (x:Nat):Nat:=Classical.epsilon fun K=>qij x K
theorem qea {x:Nat} (h:x < 18446744073709551616):qij x (qyP x):=Classical.epsilon_spec (qxC h)
theorem qBG {x K L:Nat} (h:qij x K) (h':qij x L):K=L:=by
 rcases Nat.lt_trichotomy K L with e | e | e
 ·have:=h'.2.2.2 K e; have:=h.2.2.1; omega
 ·exact e
 ·have:=h.2.2.2 L e; have:=h'.2.2.1; omega
def zy (x:Nat):List UInt8:=dn x (qyP x)
theorem qrN {x K:Nat} (h:qij x K):zy x=dn x K:=by unfold zy; rw [qBG (qea h.2.1) h]
theorem Zz:Cod (fun x:Nat=>x < 18446744073709551616) zy (rdN 0 0):=by
 refine ⟨fun x r h=>?_,fun b x n h=>?_⟩
 ·unfold zy
  rw [qE7 (qea h),ql5]
 ·obtain ⟨K,rfl,h1,h2,h3⟩:=qe4 h
  exact ⟨h1.2.1,h2,by rw [h3,qrN h1]⟩
theorem VL {x:Nat} (h:x < 18446744073709551616):1≤(zy x).length∧(zy x).length≤10:=by
 unfold zy
 rw [ql5]
 have:=(qea h).1
 omega
theorem Wz {b:List UInt8} {x n:Nat} (h:rdN 0 0 b=some (x,n)):1≤n∧n≤10∧n≤b.length:=by
 obtain ⟨K,rfl,h1,h2,_⟩:=qe4 h
 have:=h1.1
 omega
def Jr (b:List UInt8):Int×Int×Bool:=match rdN 0 0 b with
 | some (x,k)=>((x:Int),(k:Int),true)
 | none=>(0,0,false)
theorem qEx:∀ z < 256,vL .u8 ((z:Nat):Int) 128=((z % 128:Nat):Int):=by decide +kernel
theorem qFY {n c:Nat} (hn:n < 144115188075855872) (hc:c < 256):uOr .u64 (WU .u64 (n:Int) 7) (IntKind.u64.wrap (vL .u8 (c:Int) 128))=((n * 128 + c % 128:Nat):Int):=by
 rw [qEx c hc,jm (by omega)]
 unfold WU
 rw [show ((n:Nat):Int) * 2 ^ 7=((128 * n:Nat):Int) by omega,jm (by omega)]
 refine (u64_or_nat (128 * n) (c % 128) (by omega) (by omega)).trans ?_
 rw [show 128 * n=2 ^ 7 * n by omega,← Nat.two_pow_add_eq_or_of_lt (by omega)]
 congr 1; omega
section
variable {N:Nat} [JV N]
theorem qu6 {x:Nat} (h:x < 18446744073709551616):YO N (x:Int)=some (zy x,(zy x).length):=by
 have hK:=qea h
 rw [qCc hK.1 hK.2.2.1 hK.2.2.2]
 unfold zy
 rw [ql5]
def qEl (i n:Nat) (c:UInt8):Tree (J0⊕Q9):=
 .chk ((0:Int)≤7) <| .cond (decide (((c.toNat:Nat):Int) < 128)) (.chk (qf (((i:Nat):Int) + 1)) <|
  .ret (.inr (.inr (.inr (uOr .u64 (WU .u64 (n:Int) 7) (IntKind.u64.wrap (vL .u8 ((c.toNat:Nat):Int) 128)),((i:Nat):Int) + 1))))) <| .chk (qf (((i:Nat):Int) + 1)) <|
  .ret (.inl (uOr .u64 (WU .u64 (n:Int) 7) (IntKind.u64.wrap (vL .u8 ((c.toNat:Nat):Int) 128)),((i:Nat):Int) + 1))
def qF4 (y:Q9):Option (Int×Int):=match y with
 | .inr (.inr z)=>some z
 | _=>none
theorem qEI (b:List UInt8) (hb:b.length≤1000000000000000):∃ y,qgm N b ((b.length:Nat):Int) 0 0=some y∧qF4 y=(rdN 0 0 b).map fun p=>((p.1:Int),(p.2:Int)):=by
 refine qcj (B:=Q8 N b ((b.length:Nat):Int)) (g:=some) (I:=fun v=>∃ i n:Nat,v=((n:Int),(i:Int))∧i≤b.length∧i≤10∧(i≤9→n < 128 ^ i)∧rdN i n (b.drop i)=rdN 0 0 b) (fun v=>11 - v.2.toNat) ?_ N _
  ⟨0,0,rfl,Nat.zero_le _,by omega,fun _=>by decide,by rw [List.drop_zero]⟩ (by have:=big N; simp; omega)
 rintro v ⟨i,n,rfl,hi,h10,hn,hr⟩
 by_cases hlt:i < b.length
 ·have hd:=qsq (d:=(0:UInt8)) hlt
  have hg:zh b ((i:Nat):Int)=some (b.getD i 0):=Zn hlt
  generalize b.getD i 0=c at hd hg
  rw [hd] at hr
  have hc:=c.toNat_lt
  have c1:qf (((i:Nat):Int) + 1):=jY (by omega)
  by_cases hs:i=10∨(i=9∧0 < n / 144115188075855872)∨(i=0∧c.toNat=128)
  ·right
   have hnone:rdN 0 0 b=none:=by rw [← hr]; unfold rdN; rw [if_pos hs]
   rw [hnone]
   rcases hs with rfl | ⟨rfl,h⟩ | ⟨rfl,h⟩
   ·exact ⟨_,_,by unfold Q8; exact w_t (dec_lt hlt) <| qe hg <| w_t rfl <| w_t rfl <| qi rfl,by rfl,by rfl⟩
   ·have e:decide ((0:Int) < Jk ((n:Nat):Int) 57)=true:=by rw [qhP]; exact decide_eq_true (by omega)
    exact ⟨_,_,by unfold Q8; exact w_t (dec_lt hlt) <| qe hg <| w_f rfl <| w_t rfl <| qk (by omega) <| w_t e <| w_t e <| qi rfl,by rfl,by rfl⟩
   ·have e:decide (((c.toNat:Nat):Int)=128)=true:=decide_eq_true (by omega)
    exact ⟨_,_,by unfold Q8; exact w_t (dec_lt hlt) <| qe hg <| w_f rfl <| w_f rfl <| w_t rfl <| w_t e <| qi rfl,by rfl,by rfl⟩
  ·have hi9 : i ≤ 9 := by
      by_cases e:i=10
      ·exact (hs (.inl e)).elim
      ·omega
   have hn57:n < 144115188075855872:=by
    by_cases e:i=9
    ·have:¬ 0 < n / 144115188075855872:=fun h=>hs (.inr (.inl ⟨e,h⟩))
     omega
    ·have h1:=hn hi9
     have h2:128 ^ i≤128 ^ 8:=Nat.pow_le_pow_right (by omega) (by omega)
     have:(128:Nat) ^ 8=72057594037927936:=by decide
     omega
   have w3:=qFY hn57 hc
   have h0:(0:Int)≤7:=by omega
   have tail:(qEl i n c).run some=if c.toNat < 128 then some (.inr (.inr (.inr (((n * 128 + c.toNat % 128:Nat):Int),((i:Nat):Int) + 1)))) else some (.inl (((n * 128 + c.toNat % 128:Nat):Int),((i:Nat):Int) + 1)):=by
    unfold qEl
    rw [w3]
    refine qk h0 ?_
    by_cases h:c.toNat < 128
    ·rw [if_pos h]
     exact w_t (decide_eq_true (by omega)) <| qk c1 <| qi rfl
    ·rw [if_neg h]
     exact w_f (decide_eq_false (by omega)) <| qk c1 <| qi rfl
   have step:(Q8 N b ((b.length:Nat):Int) ((n:Int),(i:Int))).run some=if c.toNat < 128 then some (.inr (.inr (.inr (((n * 128 + c.toNat % 128:Nat):Int),((i:Nat):Int) + 1)))) else some (.inl (((n * 128 + c.toNat % 128:Nat):Int),((i:Nat):Int) + 1)):=by
    unfold Q8
    refine w_t (dec_lt hlt) <| qe hg <| w_f (decide_eq_false (by show ¬ ((i:Nat):Int)=10; omega)) ?_
    refine zl rfl (fun h9=>?_) fun h9=>?_
    ·have h9:((i:Nat):Int)=9:=of_decide_eq_true h9
     have e:decide ((0:Int) < Jk ((n:Nat):Int) 57)=false:=by rw [qhP]; exact decide_eq_false (by omega)
     exact qk (by omega) <| w_f e <| w_f (decide_eq_false (by show ¬ ((i:Nat):Int)=0; omega)) <| tail
    ·refine zl rfl (fun h00=>?_) fun h00=>tail
     have h00:((i:Nat):Int)=0:=of_decide_eq_true h00
     have:¬ c.toNat=128:=fun h=>hs (.inr (.inr ⟨by omega,h⟩))
     exact w_f (decide_eq_false (by show ¬ ((c.toNat:Nat):Int)=128; omega)) <| tail
   rw [qB6,if_neg hs] at hr
   by_cases h:c.toNat < 128
   ·right
    rw [if_pos h] at step hr
    refine ⟨_,_,step,rfl,?_⟩
    rw [← hr]; rfl
   ·left
    rw [if_neg h] at step hr
    refine ⟨_,step,⟨i + 1,n * 128 + c.toNat % 128,rfl,hlt,by omega,fun _=>?_,hr⟩,?_⟩
    ·have:=hn hi9; rw [Nat.pow_succ]; omega
    ·show 11 - (((i:Nat):Int) + 1).toNat < 11 - ((i:Nat):Int).toNat
     omega
 ·right
  obtain rfl:i=b.length:=by omega
  rw [List.drop_length] at hr
  exact ⟨_,_,by unfold Q8; exact w_f (ju (Nat.lt_irrefl _)) (qi rfl),by rfl,by rw [← hr]; rfl⟩
theorem qd4 {b:List UInt8} (hb:b.length≤1000000000000000):Yu N b=some (Jr b):=by
 obtain ⟨y,e,hy⟩:=qEI (N:=N) b hb
 unfold Yu qiS Jr
 refine qe e ?_
 cases hr:rdN 0 0 b with
 | none=>
  rw [hr] at hy
  rcases y with z | z | z
  ·exact w_l rfl (qi rfl)
  ·exact w_r rfl <| w_l rfl (qi rfl)
  ·cases hy
 | some p=>
  rw [hr] at hy
  have:=Wz (x:=p.1) (n:=p.2) hr
  rcases y with z | z | z
  ·cases hy
  ·cases hy
  ·have hz:z=((p.1:Int),(p.2:Int)):=Option.some.inj hy
   subst hz
   exact w_r rfl <| w_r rfl <| w_f (decide_eq_false (by show ¬ ((p.2:Nat):Int)=0; omega)) <| qi rfl
end
end Go.Rx
end
set_option maxRecDepth 100000
noncomputable section
namespace Go.Rx
open Go.Proofs
def ZO (s:List UInt8):List UInt8:=zy s.length++s
def rdT (most:Nat) (b:List UInt8):Option (List UInt8×Nat):=(rdN 0 0 b).bind fun p=>if p.1≤most∧p.1≤b.length - p.2 then some ((b.drop p.2).take p.1,p.2 + p.1) else none
theorem qcr {most:Nat} (hm:most≤1000000000):Cod (fun s:List UInt8=>s.length≤most) ZO (rdT most):=by
 refine ⟨fun s r h=>?_,fun b s n h=>?_⟩
 ·unfold rdT ZO
  rw [List.append_assoc,Zz.back s.length (s++r) (by show s.length < _; omega),Option.bind_some,if_pos ⟨h,by rw [List.length_append,List.length_append]; show s.length≤(zy s.length).length + (s.length + r.length) - (zy s.length).length; omega⟩]
  show some (((zy s.length++(s++r)).drop (zy s.length).length).take s.length,(zy s.length).length + s.length)=_
  rw [List.drop_left,List.take_left,List.length_append]
 ·unfold rdT at h
  cases hr:rdN 0 0 b with
  | none=>rw [hr] at h; cases h
  | some p=>
   obtain ⟨x,u⟩:=p
   rw [hr,Option.bind_some] at h
   split at h
   ·rename_i hc
    obtain ⟨h1,h2,h3⟩:=Zz.forth b x u hr
    obtain ⟨rfl,rfl⟩:=Prod.mk.inj (Option.some.inj h)
    have hl:((b.drop u).take x).length=x:=by rw [List.length_take,List.length_drop]; have:x≤b.length - u:=hc.2; omega
    refine ⟨by show ((b.drop u).take x).length≤most; rw [hl]; exact hc.1,by show u + x≤_; have:x≤b.length - u:=hc.2; omega,?_⟩
    show b.take (u + x)=ZO ((b.drop u).take x)
    unfold ZO
    rw [hl,← h3,List.take_add]
   ·cases h
theorem qfz {s:List UInt8} (h:s.length≤1000000000):(ZO s).length≤s.length + 10:=by
 have:=(VL (x:=s.length) (by omega)).2
 unfold ZO; rw [List.length_append]; omega
def VZ (s:qd):Nat:=((8:Int) * s.1 + s.2).toNat
def jB (s:qd):List UInt8:=zy (VZ s)
def rdS (b:List UInt8):Option (qd×Nat):=(rdN 0 0 b).bind fun p=>if stB (((p.1 / 8:Nat):Int),((p.1 % 8:Nat):Int))=true then some ((((p.1 / 8:Nat):Int),((p.1 % 8:Nat):Int)),p.2) else none
theorem qiE {s:qd} (h:stB s=true):VZ s < 18446744073709551616:=by
 have:=qlz h
 unfold VZ; omega
theorem qyq {s:qd} (h:stB s=true):(((VZ s / 8:Nat):Int),((VZ s % 8:Nat):Int))=s:=by
 obtain ⟨n,r⟩:=s
 obtain ⟨h0,h1,h2,h3⟩:=qlz h
 dsimp only at h0 h1 h2 h3
 unfold VZ
 exact Prod.ext (by show ((((8:Int) * n + r).toNat / 8:Nat):Int)=n; omega) (by show ((((8:Int) * n + r).toNat % 8:Nat):Int)=r; omega)
theorem qsI:Cod (fun s:qd=>stB s=true) jB rdS:=by
 refine ⟨fun s r h=>?_,fun b s n h=>?_⟩
 ·unfold rdS jB
  rw [Zz.back _ r (qiE h),Option.bind_some]
  show (if stB (((VZ s / 8:Nat):Int),((VZ s % 8:Nat):Int))=true then some ((((VZ s / 8:Nat):Int),((VZ s % 8:Nat):Int)),(zy (VZ s)).length) else none)=_
  rw [qyq h,if_pos h]
 ·unfold rdS at h
  cases hr:rdN 0 0 b with
  | none=>rw [hr] at h; cases h
  | some p=>
   obtain ⟨x,u⟩:=p
   rw [hr,Option.bind_some] at h
   split at h
   ·rename_i hc
    obtain ⟨h1,h2,h3⟩:=Zz.forth b x u hr
    obtain ⟨rfl,rfl⟩:=Prod.mk.inj (Option.some.inj h)
    refine ⟨hc,h2,?_⟩
    unfold jB VZ
    rw [show ((8:Int) * ((x / 8:Nat):Int) + ((x % 8:Nat):Int)).toNat=x by omega]
    exact h3
   ·cases h
def Xn (p:qa):Prop:=if p.zg=true then 0≤p.zi∧p.zi≤200∧0≤p.Len∧p.Len≤200∧p.Lit=[] else p.zi=0∧p.Len=0∧p.Lit.length≤200
def zt (p:qa):List UInt8:=if p.zg=true then 1::(zy p.zi.toNat++zy p.Len.toNat) else 0::ZO p.Lit
def rdP (b:List UInt8):Option (qa×Nat):=match b with
 | []=>none
 | c::r=>if 1 < c.toNat then none else if c.toNat=0 then (rdT 200 r).map fun p=>(qa.mk false 0 0 p.1,p.2 + 1)
  else (rdN 0 0 r).bind fun p=>(rdN 0 0 (r.drop p.2)).bind fun q=>if p.1≤200∧q.1≤200 then some (qa.mk true (p.1:Int) (q.1:Int) [],1 + p.2 + q.2) else none
theorem qi3 (c : UInt8) (r : List UInt8) : rdP (c :: r) = if 1 < c.toNat then none else if c.toNat = 0 then (rdT 200 r).map fun p => (qa.mk false 0 0 p.1, p.2 + 1)
    else (rdN 0 0 r).bind fun p=>(rdN 0 0 (r.drop p.2)).bind fun q=>if p.1≤200∧q.1≤200 then some (qa.mk true (p.1:Int) (q.1:Int) [],1 + p.2 + q.2) else none:=rfl
theorem qjh {p:qa} (h:jC p=true):Xn p:=by
 unfold jC inP at h
 unfold Xn
 cases e:p.zg with
 | true=>
  rw [e,cond_true] at h
  simp only [Bool.and_eq_true,decide_eq_true_eq] at h
  rw [if_pos rfl]
  exact ⟨h.1.1.1,h.1.1.2,by omega,h.1.2.2,h.2⟩
 | false=>
  rw [e,cond_false] at h
  simp only [Bool.and_eq_true,decide_eq_true_eq] at h
  rw [if_neg (by simp)]
  have h1:=h.1
  refine ⟨by rw [h1]; rfl,by rw [h1]; rfl,by omega⟩
theorem qaS:Cod Xn zt rdP:=by
 refine ⟨fun p r h=>?_,fun b p n h=>?_⟩
 ·obtain ⟨c,f,l,t⟩:=p
  unfold Xn at h
  unfold zt
  cases c with
  | true=>
   have h:0≤f∧f≤200∧0≤l∧l≤200∧t=[]:=by
    have:=h
    rw [if_pos (show qa.zg (true,f,l,t)=true from rfl)] at this
    exact this
   obtain ⟨h1,h2,h3,h4,rfl⟩:=h
   rw [if_pos (show qa.zg (true,f,l,[])=true from rfl)]
   show rdP (1::(zy f.toNat++zy l.toNat)++r)=_
   rw [List.cons_append,qi3,if_neg (by decide),if_neg (by decide),List.append_assoc,Zz.back f.toNat _ (by show f.toNat < _; omega),Option.bind_some]
   show (rdN 0 0 ((zy f.toNat++(zy l.toNat++r)).drop (zy f.toNat).length)).bind _=_
   rw [List.drop_left,Zz.back l.toNat _ (by show l.toNat < _; omega),Option.bind_some]
   show (if f.toNat≤200∧l.toNat≤200 then some (qa.mk true ((f.toNat:Nat):Int) ((l.toNat:Nat):Int) [],1 + (zy f.toNat).length + (zy l.toNat).length) else none)=_
   rw [if_pos (by omega),Int.toNat_of_nonneg h1,Int.toNat_of_nonneg h3]
   refine congrArg some (Prod.ext rfl ?_)
   show 1 + (zy f.toNat).length + (zy l.toNat).length=(1::(zy f.toNat++zy l.toNat)).length
   rw [List.length_cons,List.length_append]; omega
  | false=>
   have h:f=0∧l=0∧t.length≤200:=by
    have:=h
    rw [if_neg (show ¬ qa.zg (false,f,l,t)=true from fun h=>by cases h)] at this
    exact this
   obtain ⟨rfl,rfl,h3⟩:=h
   rw [if_neg (show ¬ qa.zg (false,0,0,t)=true from fun h=>by cases h)]
   rw [List.cons_append,qi3,if_neg (by decide),if_pos (by decide)]
   show (rdT 200 (ZO t++r)).map _=_
   rw [(qcr (most:=200) (by omega)).back t r h3]
   rfl
 ·cases b with
  | nil=>cases h
  | cons c b=>
   have h:(if 1 < c.toNat then none else if c.toNat=0 then (rdT 200 b).map fun p=>(qa.mk false 0 0 p.1,p.2 + 1)
    else (rdN 0 0 b).bind fun p=>(rdN 0 0 (b.drop p.2)).bind fun q=>if p.1≤200∧q.1≤200 then some (qa.mk true (p.1:Int) (q.1:Int) [],1 + p.2 + q.2) else none)=some (p,n):=h
   split at h
   ·cases h
   rename_i hc
   split at h
   ·rename_i h0
    cases ht:rdT 200 b with
    | none=>rw [ht] at h; cases h
    | some q=>
     obtain ⟨t,k⟩:=q
     rw [ht] at h
     obtain ⟨h1,h2,h3⟩:=(qcr (most:=200) (by omega)).forth b t k ht
     obtain ⟨rfl,rfl⟩:=Prod.mk.inj (Option.some.inj h)
     refine ⟨?_,by show k + 1≤b.length + 1; omega,?_⟩
     ·unfold Xn
      rw [if_neg (show ¬ qa.zg (qa.mk false 0 0 t)=true from fun h=>by cases h)]
      exact ⟨rfl,rfl,h1⟩
     ·unfold zt
      rw [if_neg (show ¬ qa.zg (qa.mk false 0 0 t)=true from fun h=>by cases h)]
      show c::b.take k=0::ZO t
      rw [h3]
      congr 1
      rw [← UInt8.ofNat_toNat (x:=c),h0]; rfl
   ·rename_i h0
    cases hf:rdN 0 0 b with
    | none=>rw [hf] at h; cases h
    | some q=>
     obtain ⟨f,k⟩:=q
     rw [hf,Option.bind_some] at h
     cases hl:rdN 0 0 (b.drop k) with
     | none=>rw [show ((f,k):Nat×Nat).2=k from rfl,hl] at h; cases h
     | some q2=>
      obtain ⟨l,j⟩:=q2
      rw [show ((f,k):Nat×Nat).2=k from rfl,hl,Option.bind_some] at h
      split at h
      ·rename_i hle
       have hle:f≤200∧l≤200:=hle
       obtain ⟨_,h2,h3⟩:=Zz.forth b f k hf
       obtain ⟨_,h4,h5⟩:=Zz.forth (b.drop k) l j hl
       rw [List.length_drop] at h4
       obtain ⟨rfl,rfl⟩:=Prod.mk.inj (Option.some.inj h)
       refine ⟨?_,by show 1 + k + j≤b.length + 1; omega,?_⟩
       ·unfold Xn
        rw [if_pos (show qa.zg (qa.mk true (f:Int) (l:Int) [])=true from rfl)]
        exact ⟨by show (0:Int)≤(f:Int); omega,by show (f:Int)≤200; omega,by show (0:Int)≤(l:Int); omega,by show (l:Int)≤200; omega,rfl⟩
       ·unfold zt
        rw [if_pos (show qa.zg (qa.mk true (f:Int) (l:Int) [])=true from rfl)]
        show (c::b).take (1 + k + j)=1::(zy f++zy l)
        rw [show 1 + k + j=(k + j) + 1 by omega,List.take_succ_cons,List.take_add,h3,h5]
        congr 1
        rw [← UInt8.ofNat_toNat (x:=c),show c.toNat=1 by omega]; rfl
      ·cases h
section
variable {α:Type}
def rdM (g:List UInt8→Option (α×Nat)):Nat→List UInt8→Option (List α×Nat)
 | 0,_=>some ([],0)
 | m + 1,b=>(g b).bind fun p=>(rdM g m (b.drop p.2)).map fun q=>(p.1::q.1,p.2 + q.2)
theorem qcp {V:α→Prop} {put:α→List UInt8} {g:List UInt8→Option (α×Nat)} (C:Cod V put g):∀ m,Cod (fun l:List α=>l.length=m∧∀ x∈l,V x) (fun l=>(l.map put).flatten) (rdM g m)
 | 0 => ⟨fun l r h => by
     rw [List.length_eq_zero_iff.1 h.1]; rfl,fun b l n h=>by
     obtain ⟨rfl,rfl⟩:=Prod.mk.inj (Option.some.inj h)
     exact ⟨⟨rfl,fun x hx=>absurd hx List.not_mem_nil⟩,Nat.zero_le _,rfl⟩⟩
 | m + 1 => ⟨fun l r h => by
     cases l with
     | nil=>cases h.1
     | cons x l=>
      show rdM g (m + 1) ((put x++(l.map put).flatten)++r)=_
      unfold rdM
      rw [List.append_assoc,C.back x _ (h.2 x (List.mem_cons_self ..)),Option.bind_some]
      show (rdM g m ((put x++((l.map put).flatten++r)).drop (put x).length)).map _=_
      rw [List.drop_left,(qcp C m).back l r ⟨by have:=h.1; rw [List.length_cons] at this; omega,fun y hy=>h.2 y (List.mem_cons_of_mem _ hy)⟩]
      show some (x::l,(put x).length + ((l.map put).flatten).length)=some (x::l,(put x++(l.map put).flatten).length)
      rw [List.length_append],fun b l n h=>by
     unfold rdM at h
     cases e:g b with
     | none=>rw [e] at h; cases h
     | some p=>
      obtain ⟨x,k⟩:=p
      rw [e,Option.bind_some] at h
      cases e2:rdM g m (b.drop k) with
      | none=>rw [show ((x,k):α×Nat).2=k from rfl,e2] at h; cases h
      | some q=>
       obtain ⟨t,j⟩:=q
       rw [show ((x,k):α×Nat).2=k from rfl,e2] at h
       obtain ⟨h1,h2,h3⟩:=C.forth b x k e
       obtain ⟨h4,h5,h6⟩:=(qcp C m).forth _ t j e2
       rw [List.length_drop] at h5
       obtain ⟨rfl,rfl⟩:=Prod.mk.inj (Option.some.inj h)
       refine ⟨⟨by show t.length + 1=m + 1; rw [h4.1],fun y hy=>?_⟩,by show k + j≤b.length; omega,?_⟩
       ·rcases List.mem_cons.1 hy with rfl | hy
        ·exact h1
        ·exact h4.2 y hy
       ·show b.take (k + j)=put x++(t.map put).flatten
        rw [List.take_add,h3,h6]⟩
end
def jV (l:List qa):List UInt8:=zy l.length++(l.map zt).flatten
def rdD (b:List UInt8):Option (List qa×Nat):=(rdN 0 0 b).bind fun p=>if p.1≤60 then (rdM rdP p.1 (b.drop p.2)).bind fun q=>if jj q.1=true then some (q.1,p.2 + q.2) else none else none
theorem Ki {l:List qa}:jj l=true↔(∀ p∈l,jC p=true)∧l.length≤60∧WS l l.length≤200:=by
 unfold jj
 rw [Bool.and_eq_true,Bool.and_eq_true,decide_eq_true_iff,decide_eq_true_iff,VB,and_assoc]
 constructor
 ·rintro ⟨h,h2⟩
  refine ⟨fun p hp=>?_,h2⟩
  obtain ⟨i,hi,rfl⟩:=List.getElem_of_mem hp
  have:=h i hi
  rw [List.getD_eq_getElem?_getD,List.getElem?_eq_getElem hi] at this
  exact this
 ·rintro ⟨h,h2⟩
  refine ⟨fun j hj=>?_,h2⟩
  rw [List.getD_eq_getElem?_getD,List.getElem?_eq_getElem hj]
  exact h _ (List.getElem_mem hj)
theorem qqt:Cod (fun l:List qa=>jj l=true) jV rdD:=by
 refine ⟨fun l r h=>?_,fun b l n h=>?_⟩
 ·obtain ⟨h1,h2,_⟩:=Ki.1 h
  unfold rdD jV
  rw [List.append_assoc,Zz.back l.length _ (by show l.length < _; omega),Option.bind_some]
  show (if l.length≤60 then (rdM rdP l.length ((zy l.length++((l.map zt).flatten++r)).drop (zy l.length).length)).bind _ else none)=_
  rw [if_pos h2,List.drop_left,(qcp qaS l.length).back l r ⟨rfl,fun p hp=>qjh (h1 p hp)⟩,Option.bind_some]
  show (if jj l=true then some (l,(zy l.length).length + ((l.map zt).flatten).length) else none)=_
  rw [if_pos h,List.length_append]
 ·unfold rdD at h
  cases hr:rdN 0 0 b with
  | none=>rw [hr] at h; cases h
  | some p=>
   obtain ⟨x,u⟩:=p
   rw [hr,Option.bind_some] at h
   split at h
   ·cases hm:rdM rdP x (b.drop u) with
    | none=>rw [show ((x,u):Nat×Nat).1=x from rfl,show ((x,u):Nat×Nat).2=u from rfl,hm] at h; cases h
    | some q=>
     obtain ⟨t,k⟩:=q
     rw [show ((x,u):Nat×Nat).1=x from rfl,show ((x,u):Nat×Nat).2=u from rfl,hm,Option.bind_some] at h
     split at h
     ·rename_i hv
      obtain ⟨_,h2,h3⟩:=Zz.forth b x u hr
      obtain ⟨h4,h5,h6⟩:=(qcp qaS x).forth _ t k hm
      rw [List.length_drop] at h5
      obtain ⟨rfl,rfl⟩:=Prod.mk.inj (Option.some.inj h)
      refine ⟨hv,by show u + k≤b.length; omega,?_⟩
      show b.take (u + k)=jV t
      unfold jV
      rw [List.take_add,h3,h6,h4.1]
     ·cases h
   ·cases h
theorem qpw {p:qa} (h:Xn p):(zt p).length≤211:=by
 unfold Xn at h
 unfold zt
 split
 ·rename_i hc
  rw [if_pos hc] at h
  have h1:=(VL (x:=p.zi.toNat) (by omega)).2
  have h2:=(VL (x:=p.Len.toNat) (by omega)).2
  rw [List.length_cons,List.length_append]; omega
 ·rename_i hc
  rw [if_neg hc] at h
  have:=qfz (s:=p.Lit) (by omega)
  rw [List.length_cons]; omega
theorem qoX {l:List qa} (h:∀ p∈l,Xn p):((l.map zt).flatten).length≤211 * l.length:=by
 induction l with
 | nil=>exact Nat.zero_le _
 | cons p l ih=>
  have h1:=qpw (h p (List.mem_cons_self ..))
  have h2:=ih fun q hq=>h q (List.mem_cons_of_mem _ hq)
  show (zt p++(l.map zt).flatten).length≤211 * (l.length + 1)
  rw [List.length_append]; omega
end Go.Rx
end
set_option maxRecDepth 100000
noncomputable section
namespace Go.Rx
open Go.Proofs
theorem qya {n:Nat} (h:n≤1000000000000000):qf ((n:Nat):Int):=by unfold qf; omega
section
variable {N:Nat} [JV N]
theorem quq {s:List UInt8} (h:s.length≤1000000000):qc3 N s=some (ZO s):=by
 unfold qc3 qgD
 refine qe (show YO N (IntKind.u64.wrap ((s.length:Nat):Int))=some (zy s.length,(zy s.length).length) by rw [jm (by omega)]; exact qu6 (by omega)) ?_
 have:=(VL (x:=s.length) (by omega)).2
 exact qk ⟨rfl,by show ((zy s.length)++s).length * 1≤qN; rw [List.length_append]; unfold qN; omega⟩ <| qk rfl <| qi rfl
theorem quI {x:Nat} (h:x < 18446744073709551616):Jt N (x:Int)=some (zy x):=by
 obtain ⟨K,hK⟩:=qxC h
 have h9:=hK.1
 rw [qrN hK]
 have e1:=qp5 (N:=N) hK.1 hK.2.2.1 hK.2.2.2
 have e2:=qxO (N:=N) (x:=x) (r:=K + 1) (by omega)
 have hrl:(List.replicate ((K + 1:Nat):Int).toNat (0:UInt8)).length=K + 1:=by simp
 have e3:qdC N (x:Int) ((K + 1:Nat):Int) (List.replicate ((K + 1:Nat):Int).toNat (0:UInt8)).length ((K + 1:Nat):Int) (List.replicate ((K + 1:Nat):Int).toNat (0:UInt8)) 0=some (cdn x (K + 1),((K + 1:Nat):Int),false):=by
  rw [hrl]; exact e2
 have c1:qbd ((K + 1:Nat):Int) ((K + 1:Nat):Int) 1:=⟨rfl,by omega,by unfold qN; omega⟩
 have c2:qf (((K + 1:Nat):Int) - 1):=by unfold qf; omega
 have c3:(0:Int)≤((K + 1:Nat):Int) - 1∧((K + 1:Nat):Int) - 1 < (((List.replicate ((K + 1:Nat):Int).toNat (0:UInt8)).length:Nat):Int):=by rw [hrl]; omega
 have en:(((K + 1:Nat):Int) - 1).toNat=K:=by omega
 have hg:qe7 (cdn x (K + 1)) (List.replicate ((K + 1:Nat):Int).toNat (0:UInt8)).length (((K + 1:Nat):Int) - 1).toNat=some (hiB x 0):=by
  rw [hrl,en,qAe (d:=0) (qbb x (K + 1)) (by rw [qbb]; omega),qrC]
 have c4:qbc (cdn x (K + 1)).length (List.replicate ((K + 1:Nat):Int).toNat (0:UInt8)).length (((K + 1:Nat):Int) - 1).toNat:=by rw [hrl]; exact ⟨qbb _ _,by omega⟩
 have hb:UInt8.ofNat (vL .u8 (((hiB x 0).toNat:Nat):Int) 128).toNat=loB x:=by
  rw [qry,Nat.pow_zero,Nat.div_one,qxB _ (Nat.mod_lt _ (by omega)),Int.toNat_natCast]
  rfl
 have hs:(cdn x (K + 1)).set (((K + 1:Nat):Int) - 1).toNat (UInt8.ofNat (vL .u8 (((hiB x 0).toNat:Nat):Int) 128).toNat)=dn x K:=by rw [hb,en,qrG]
 unfold Jt qeO
 refine qe e1 <| qk c1 <| qe e3 <| qk c2 <| qk c3 <| qe hg <| qk c3 <| qk c4 <| qk (qsw _ _) <| qk ?_ <| qi (congrArg some hs)
 show ((cdn x (K + 1)).set (((K + 1:Nat):Int) - 1).toNat (UInt8.ofNat (vL .u8 (((hiB x 0).toNat:Nat):Int) 128).toNat)).length=_
 rw [List.length_set,qbb,hrl]
def Je (most:Nat) (b:List UInt8):List UInt8×Int×Bool:=match rdT most b with
 | some (s,n)=>(s,(n:Int),true)
 | none=>([],0,false)
theorem qt6 {most:Nat} {b:List UInt8} (hm:most≤1000000000) (hb:b.length≤1000000000000):qaT N b (most:Int)=some (Je most b):=by
 unfold qaT qgN Je rdT
 refine qe (qd4 (N:=N) (by omega)) ?_
 unfold Jr
 cases hr:rdN 0 0 b with
 | none=>exact qk ⟨Int.le_refl _,by show (0:Int)≤((b.length:Nat):Int); omega⟩ <| w_f rfl <| qi rfl
 | some p=>
  obtain ⟨x,u⟩:=p
  obtain ⟨u1,u2,u3⟩:=Wz hr
  have hx:=(Zz.forth b x u hr).1
  have hx:x < 18446744073709551616:=hx
  rw [Option.bind_some]
  refine qk ⟨by show (0:Int)≤(u:Int); omega,by show (u:Int)≤_; omega⟩ <| w_t rfl <| w_t (decide_eq_true (by omega)) ?_
  have hl:(b.drop ((u:Nat):Int).toNat).length=b.length - u:=by rw [List.length_drop]; rfl
  have hw:IntKind.u64.wrap (if ((((b.drop ((u:Nat):Int).toNat).length:Nat):Int) < ((most:Nat):Int)) then (((b.drop ((u:Nat):Int).toNat).length:Nat):Int) else ((most:Nat):Int))=((min most (b.length - u):Nat):Int):=by
   rw [hl]
   split
   ·rw [jm (by omega)]; omega
   ·rw [jm (by omega)]; omega
  show (Tree.cond (decide (((x:Nat):Int)≤IntKind.u64.wrap (if ((((b.drop ((u:Nat):Int).toNat).length:Nat):Int) < ((most:Nat):Int)) then (((b.drop ((u:Nat):Int).toNat).length:Nat):Int) else ((most:Nat):Int)))) _ _).run some=_
  rw [hw]
  by_cases hc:x≤most∧x≤b.length - u
  ·rw [if_pos hc]
   have c1:qf ((x:Nat):Int):=by unfold qf; omega
   refine w_t (decide_eq_true (by omega)) <| qk c1 <| qk ⟨Int.le_refl _,by show (0:Int)≤(x:Int); omega,by show (x:Int)≤(((b.drop ((u:Nat):Int).toNat).length:Nat):Int); rw [hl]; omega⟩ <| qk c1 <| qk (show qf (((u:Nat):Int) + ((x:Nat):Int)) by unfold qf; omega) <| qi ?_
   rfl
  ·rw [if_neg hc]
   exact w_f (decide_eq_false (by omega)) <| qi rfl
theorem qET (s:qd):qdf N s=some (if stB s=true then (jB s,true) else ([],false)):=by
 unfold qdf qgj
 refine qe (qoD s) ?_
 cases h:stB s with
 | false=>exact w_t rfl <| qi rfl
 | true=>
  have hb:=qlz h
  have hx:=qiE h
  refine w_f rfl <| qk (by omega) <| qe (show YO N (uOr .u64 (WU .u64 (IntKind.u64.wrap s.1) 3) (IntKind.u64.wrap s.2))=some (jB s,(jB s).length) by
   rw [qFX h,show (8:Int) * s.1 + s.2=((VZ s:Nat):Int) by unfold VZ; omega,jm hx]
   exact qu6 hx) <| qk rfl <| qi rfl
theorem qGh {x:Nat} (h:x < 18446744073709551616):qat .u64 ((x:Nat):Int) 7=((x % 8:Nat):Int):=by
 refine (u64_and_nat x 7 h (by omega)).trans ?_
 rw [show (7:Nat)=2 ^ 3 - 1 from rfl,Nat.and_two_pow_sub_one_eq_mod]
def Za (b:List UInt8):qd×Int×Bool:=match rdS b with
 | some (s,n)=>(s,(n:Int),true)
 | none=>(zSt,0,false)
theorem qFc {b:List UInt8} (hb:b.length≤1000000000000000):qfR N b=some (Za b):=by
 unfold qfR qg1 Za rdS
 refine qe (qd4 (N:=N) hb) ?_
 unfold Jr
 cases hr:rdN 0 0 b with
 | none=>exact qk (by omega) <| qk (by decide) <| qk (by decide) <| w_t rfl <| qi rfl
 | some p=>
  obtain ⟨x,u⟩:=p
  have hx:x < 18446744073709551616:=(Zz.forth b x u hr).1
  have e1:Jk ((x:Nat):Int) 3=((x / 8:Nat):Int):=qhP x 3
  have e2:=qGh hx
  rw [Option.bind_some]
  refine qk (by omega) <| qk (show qf (Jk ((x:Nat):Int) 3) by rw [e1]; unfold qf; omega) <| qk (show qf (qat .u64 ((x:Nat):Int) 7) by rw [e2]; unfold qf; omega) <| w_f rfl ?_
  show (Tree.bind (Yw (Jk ((x:Nat):Int) 3,qat .u64 ((x:Nat):Int) 7)) fun r2=>Tree.cond (!r2) (.ret ((0,0),0,false)) (.ret ((Jk ((x:Nat):Int) 3,qat .u64 ((x:Nat):Int) 7),((u:Nat):Int),true))).run some=_
  rw [e1,e2]
  refine qe (qoD _) ?_
  cases stB (((x / 8:Nat):Int),((x % 8:Nat):Int)) with
  | false=>exact w_t rfl <| qi rfl
  | true=>exact w_f rfl <| qi rfl
theorem qFj {l : List qa} (hl : l.length ≤ 60) (hv : ∀ p ∈ l, Xn p) {o : List UInt8} (ho : o.length ≤ 10) :
    qbk N l ((l.length:Nat):Int) o 0=some (o++(l.map zt).flatten,((l.length:Nat):Int),false):=by
 have hN:=big N
 have e0:qbk N l ((l.length:Nat):Int) o 0=zj (V8 N l ((l.length:Nat):Int)) some N (o++((l.take 0).map zt).flatten,((0:Nat):Int)):=by rw [List.take_zero,List.map_nil,List.flatten_nil,List.append_nil]; rfl
 refine e0.trans (ZX (σ:=Unit) (B:=V8 N l ((l.length:Nat):Int)) (g:=some) (at_:=fun k _=>(o++((l.take k).map zt).flatten,(k:Int))) (I:=fun _ _=>True) (f:=fun _ s=>s) (n:=l.length)
  (fin:=fun _=>(o++(l.map zt).flatten,((l.length:Nat):Int),false)) (fun k s hk _=>⟨?_,trivial⟩) (fun s _=>?_) N 0 () trivial (Nat.zero_le _) (by omega))
 ·have hm:l.getD k zP∈l:=by rw [List.getD_eq_getElem?_getD,List.getElem?_eq_getElem hk]; exact List.getElem_mem hk
  have hp:=hv _ hm
  have hlen:((l.take k).map zt).flatten.length≤211 * k:=by
   have:=qoX (l:=l.take k) fun q hq=>hv q (List.mem_of_mem_take hq)
   rw [List.length_take,Nat.min_eq_left (Nat.le_of_lt hk)] at this
   exact this
  have hpl:=qpw hp
  have nxt:∀ a:List (List UInt8),a.flatten=zt (l.getD k zP)→o++((l.take (k + 1)).map zt).flatten=((o++((l.take k).map zt).flatten)::a).flatten:=fun a ha=>by
   rw [qau (d:=zP) hk,List.map_append,List.flatten_append,List.flatten_cons,ha,List.append_assoc]; simp
  have conc:∀ a:List (List UInt8),a.length≤5→a.flatten=zt (l.getD k zP)→zF N ((o++((l.take k).map zt).flatten)::a)=some (o++((l.take (k + 1)).map zt).flatten):=fun a h5 ha=>by
   rw [nxt a ha]
   refine qr2 (by rw [List.length_cons]; omega) ?_ (by rw [List.length_cons]; omega)
   rw [← qlc,List.flatten_cons,ha,List.length_append,List.length_append]; omega
  unfold V8
  refine w_t (dec_lt hk) <| qe (Zn (d:=zP) hk) ?_
  unfold Xn at hp
  cases hc:(l.getD k zP).zg with
  | true=>
   rw [if_pos hc] at hp
   have e1:Jt N (IntKind.u64.wrap (l.getD k zP).zi)=some (zy (l.getD k zP).zi.toNat):=by
    obtain ⟨z,hz⟩:∃ z:Nat,(l.getD k zP).zi=(z:Int):=⟨(l.getD k zP).zi.toNat,by omega⟩
    rw [hz,jm (by omega),quI (by omega),Int.toNat_natCast]
   have e2:Jt N (IntKind.u64.wrap (l.getD k zP).Len)=some (zy (l.getD k zP).Len.toNat):=by
    obtain ⟨z,hz⟩:∃ z:Nat,(l.getD k zP).Len=(z:Int):=⟨(l.getD k zP).Len.toNat,by omega⟩
    rw [hz,jm (by omega),quI (by omega),Int.toNat_natCast]
   refine w_t rfl <| qe e1 <| qe e2 <| qe (conc [[UInt8.ofNat 1],zy (l.getD k zP).zi.toNat,zy (l.getD k zP).Len.toNat] (by simp) ?_) <| qk (jY (by omega)) <| qi (by rw [jN])
   unfold zt
   rw [if_pos hc]; simp
  | false=>
   rw [if_neg (by rw [hc]; simp)] at hp
   refine w_f rfl <| qe (quq (by show (l.getD k zP).Lit.length≤_; omega)) <| qe (conc [[UInt8.ofNat 0],ZO (l.getD k zP).Lit] (by simp) ?_) <| qk (jY (by omega)) <| qi (by rw [jN])
   unfold zt
   rw [if_neg (by rw [hc]; simp)]; simp
 ·unfold V8
  exact w_f (ju (Nat.lt_irrefl _)) (qi (by rw [ju (Nat.lt_irrefl _),List.take_of_length_le (Nat.le_refl _)]))
theorem qEF {l:List qa} (hl:l.length < N) (hl2:l.length≤1000000000000000):qc0 N l=some (if jj l=true then (jV l,true) else ([],false)):=by
 unfold qc0 qf8
 refine qe (qkP hl hl2) ?_
 cases h:jj l with
 | false=>exact w_t rfl <| qi rfl
 | true=>
  obtain ⟨h1,h2,_⟩:=Ki.1 h
  refine w_f rfl <| qe (show Jt N (IntKind.u64.wrap ((l.length:Nat):Int))=some (zy l.length) by rw [jm (by omega)]; exact quI (by omega)) <| qe (qFj h2 (fun p hp=>qjh (h1 p hp)) (VL (by omega)).2) <| qi rfl
theorem qzX {b:List UInt8} (hb:b.length≤1000000000000):∃ r,KA N b=some r∧match rdP b with | some (p,n)=>r=(p,(n:Int),true) | none=>r.2.2=false:=by
 unfold KA qdq
 cases b with
 | nil=>exact ⟨_,w_t rfl <| qi rfl,rfl⟩
 | cons c b=>
  rw [qi3]
  rw [List.length_cons] at hb
  have hg:zh (c::b) 0=some c:=rfl
  have hd:decide ((((c::b).length:Nat):Int)=0)=false:=decide_eq_false (by rw [List.length_cons]; omega)
  have hc1:(0:Int)≤(1:Int)∧(1:Int)≤(((c::b).length:Nat):Int):=⟨by omega,by rw [List.length_cons]; omega⟩
  by_cases h1:1 < c.toNat
  ·rw [if_pos h1]
   exact ⟨_,w_f hd <| qe hg <| w_t (decide_eq_true (by omega)) <| qi rfl,rfl⟩
  rw [if_neg h1]
  have d1:decide ((1:Int) < ((c.toNat:Nat):Int))=false:=decide_eq_false (by omega)
  by_cases h0:c.toNat=0
  ·rw [if_pos h0]
   have rd:=qt6 (N:=N) (most:=200) (b:=b) (by omega) (by omega)
   unfold Je at rd
   cases ht:rdT 200 b with
   | none=>
    rw [ht] at rd
    exact ⟨_,w_f hd <| qe hg <| w_f d1 <| qe hg <| w_t (decide_eq_true (by omega)) <| qk hc1 <| qe rd <| qk (by decide) <| qi rfl,rfl⟩
   | some p=>
    obtain ⟨s,n⟩:=p
    rw [ht] at rd
    have:=((qcr (most:=200) (by omega)).forth b s n ht).2.1
    exact ⟨_,w_f hd <| qe hg <| w_f d1 <| qe hg <| w_t (decide_eq_true (by omega)) <| qk hc1 <| qe rd <| qk (jY (by omega)) <| qi rfl,rfl⟩
  ·rw [if_neg h0]
   have rd:=qd4 (N:=N) (b:=b) (by omega)
   unfold Jr at rd
   have d0:decide (((c.toNat:Nat):Int)=0)=false:=decide_eq_false (by omega)
   cases hf:rdN 0 0 b with
   | none=>
    rw [hf] at rd
    have rd2:=qd4 (N:=N) (b:=b) (by omega)
    have hl:(0:Int)≤(1:Int) + 0∧(1:Int) + 0≤(((c::b).length:Nat):Int):=⟨by omega,by rw [List.length_cons]; omega⟩
    exact ⟨_,w_f hd <| qe hg <| w_f d1 <| qe hg <| w_f d0 <| qk hc1 <| qe rd <| qk (by decide) <| qk hl <| qe rd2 <| w_t rfl <| qi rfl,rfl⟩
   | some p=>
    obtain ⟨f,n⟩:=p
    rw [hf] at rd
    obtain ⟨_,n2,n3⟩:=Wz hf
    have hf64:f < 18446744073709551616:=(Zz.forth b f n hf).1
    have rd2:=qd4 (N:=N) (b:=b.drop n) (by rw [List.length_drop]; omega)
    have en:(c::b).drop (((1:Int) + ((n:Nat):Int)).toNat)=b.drop n:=by rw [show ((1:Int) + ((n:Nat):Int)).toNat=n + 1 by omega]; rfl
    rw [← en] at rd2
    have hl:(0:Int)≤(1:Int) + ((n:Nat):Int)∧(1:Int) + ((n:Nat):Int)≤(((c::b).length:Nat):Int):=⟨by omega,by rw [List.length_cons]; omega⟩
    have c64:qf ((1:Int) + ((n:Nat):Int)):=by unfold qf; omega
    rw [Option.bind_some]
    show ∃ r:qa×Int×Bool,_∧match ((rdN 0 0 (b.drop n)).bind fun q=>if f≤200∧q.1≤200 then some (qa.mk true (f:Int) (q.1:Int) [],1 + n + q.2) else none) with | some (p,n)=>r=(p,(n:Int),true) | none=>r.2.2=false
    rw [← en]
    unfold Jr at rd2
    cases h2:rdN 0 0 ((c::b).drop (((1:Int) + ((n:Nat):Int)).toNat)) with
    | none=>
     rw [h2] at rd2
     exact ⟨_,w_f hd <| qe hg <| w_f d1 <| qe hg <| w_f d0 <| qk hc1 <| qe rd <| qk c64 <| qk hl <| qe rd2 <| w_f rfl <| w_t rfl <| qi rfl,rfl⟩
    | some q=>
     obtain ⟨z,j⟩:=q
     rw [h2] at rd2
     obtain ⟨_,j2,j3⟩:=Wz h2
     rw [en,List.length_drop] at j3
     rw [Option.bind_some]
     show ∃ r:qa×Int×Bool,_∧match (if f≤200∧z≤200 then some (qa.mk true (f:Int) (z:Int) [],1 + n + j) else none) with | some (p,n)=>r=(p,(n:Int),true) | none=>r.2.2=false
     by_cases hf2:f≤200
     ·by_cases hz2:z≤200
      ·rw [if_pos ⟨hf2,hz2⟩]
       refine ⟨(qa.mk true (f:Int) (z:Int) [],((1 + n + j:Nat):Int),true),w_f hd <| qe hg <| w_f d1 <| qe hg <| w_f d0 <| qk hc1 <| qe rd <| qk c64 <| qk hl <| qe rd2 <| w_f rfl <| w_f rfl <| w_f (decide_eq_false (by show ¬ (200:Int) < (f:Int); omega)) <| w_f (decide_eq_false (by show ¬ (200:Int) < (z:Int); omega)) <| qk (qya (n:=f) (by omega)) <| qk (qya (n:=z) (by omega)) <| qk c64 <| qk (show qf ((1:Int) + ((n:Nat):Int) + ((j:Nat):Int)) by unfold qf; omega) <| qi ?_,rfl⟩
       show some (qa.mk true (f:Int) (z:Int) [],(1:Int) + ((n:Nat):Int) + ((j:Nat):Int),true)=_
       rw [show (1:Int) + ((n:Nat):Int) + ((j:Nat):Int)=((1 + n + j:Nat):Int) by omega]
      ·rw [if_neg (fun h=>hz2 h.2)]
       exact ⟨_,w_f hd <| qe hg <| w_f d1 <| qe hg <| w_f d0 <| qk hc1 <| qe rd <| qk c64 <| qk hl <| qe rd2 <| w_f rfl <| w_f rfl <| w_f (decide_eq_false (by show ¬ (200:Int) < (f:Int); omega)) <| w_t (decide_eq_true (by show (200:Int) < (z:Int); omega)) <| qi rfl,rfl⟩
     ·rw [if_neg (fun h=>hf2 h.1)]
      exact ⟨_,w_f hd <| qe hg <| w_f d1 <| qe hg <| w_f d0 <| qk hc1 <| qe rd <| qk c64 <| qk hl <| qe rd2 <| w_f rfl <| w_f rfl <| w_t (decide_eq_true (by show (200:Int) < (f:Int); omega)) <| qi rfl,rfl⟩
end
end Go.Rx
end
set_option maxRecDepth 100000
noncomputable section
namespace Go.Rx
open Go.Proofs
def qGk (y:Zw):Option (List qa×Int):=match y with
 | .inl _=>none
 | .inr z=>some (z.1,z.2.1)
def Qb (b:List UInt8):List qa×Int×Bool:=match rdD b with
 | some (l,n)=>(l,(n:Int),true)
 | none=>([],0,false)
abbrev RdS:=List UInt8×Bool
def sk (s:RdS) (n:Nat) (is:Bool):RdS×List UInt8:=if s.2=false∧is=true∧n≤s.1.length then ((s.1.drop n,false),s.1.take n) else ((s.1,true),List.replicate n 0)
def XF (p:List UInt8):Nat:=(p.getD 0 0).toNat
theorem qdm (s:RdS) (n:Nat) (is:Bool):(sk s n is).2.length=n:=by
 unfold sk
 split
 ·rename_i h; rw [List.length_take]; exact Nat.min_eq_left h.2.2
 ·simp
theorem Z6 (s:RdS) (n:Nat) (is:Bool):(sk s n is).1.1.length≤s.1.length:=by
 unfold sk
 split
 ·rw [List.length_drop]; omega
 ·exact Nat.le_refl _
section
variable {N:Nat} [JV N]
theorem qED {b:List UInt8} (hb:b.length≤1000000000000) {m u:Nat} (hm:m≤60) (hu:u≤b.length):∃ y,qeR N b (m:Int) [] (u:Int) 0=some y∧qGk y=(rdM rdP m (b.drop u)).map fun p=>(p.1,((u + p.2:Nat):Int)):=by
 refine qcj (B:=Xc N b (m:Int)) (g:=some) (I:=fun v=>∃ (j k:Nat) (l:List qa),v=(l,(k:Int),(j:Int))∧j≤m∧l.length=j∧k≤b.length∧(rdM rdP (m - j) (b.drop k)).map (fun p=>(l++p.1,((k + p.2:Nat):Int)))=(rdM rdP m (b.drop u)).map fun p=>(p.1,((u + p.2:Nat):Int))) (fun v=>m - v.2.2.toNat) ?_ N _
  ⟨0,u,[],rfl,Nat.zero_le _,rfl,hu,rfl⟩ (by have:=big N; simp; omega)
 rintro v ⟨j,k,l,rfl,hj,hl,hk,hr⟩
 by_cases h:j < m
 ·obtain ⟨m',hm'⟩:∃ m',m - j=m' + 1:=⟨m - j - 1,by omega⟩
  rw [hm'] at hr
  obtain ⟨r,er,hp⟩:=qzX (N:=N) (b:=b.drop k) (by rw [List.length_drop]; omega)
  have er:KA N (b.drop ((k:Nat):Int).toNat)=some r:=er
  have c1:(0:Int)≤(k:Int)∧(k:Int)≤((b.length:Nat):Int):=by omega
  cases hq:rdP (b.drop k) with
  | none=>
   rw [hq] at hp
   right
   have e:rdM rdP (m' + 1) (b.drop k)=none:=by unfold rdM; rw [hq]; rfl
   rw [e] at hr
   exact ⟨_,_,by unfold Xc; exact w_t (dec_lt h) <| qk c1 <| qe er <| w_t (by rw [hp]; rfl) <| qi rfl,by rfl,by rw [← hr]; rfl⟩
  | some q=>
   obtain ⟨p,n⟩:=q
   rw [hq] at hp
   have hp:r=(p,(n:Int),true):=hp
   subst hp
   have hn:=(qaS.forth _ p n hq).2.1
   rw [List.length_drop] at hn
   left
   have e:rdM rdP (m' + 1) (b.drop k)=(rdM rdP m' ((b.drop k).drop n)).map fun q=>(p::q.1,n + q.2):=by
    show (rdP (b.drop k)).bind _=_
    rw [hq]; rfl
   rw [e,List.drop_drop] at hr
   have ej:Q_ .u64 ((j:Nat):Int) 1=((j + 1:Nat):Int):=by
    show IntKind.u64.wrap (((j:Nat):Int) + 1)=_
    rw [jN,jm (by omega)]
   refine ⟨(l++[p],((k + n:Nat):Int),((j + 1:Nat):Int)),?_,⟨j + 1,k + n,l++[p],rfl,h,by rw [List.length_append,hl]; rfl,by omega,?_⟩,?_⟩
   ·unfold Xc
    refine w_t (dec_lt h) <| qk c1 <| qe er <| w_f rfl <| qk ⟨rfl,by rw [List.length_append,hl]; show (j + 1) * 40≤qN; unfold qN; omega⟩ <| qk (show qf (((k:Nat):Int) + ((n:Nat):Int)) by unfold qf; omega) <| qi ?_
    show some (Sum.inl (l++[p],((k:Nat):Int) + ((n:Nat):Int),Q_ .u64 ((j:Nat):Int) 1))=_
    rw [ej,show ((k + n:Nat):Int)=((k:Nat):Int) + ((n:Nat):Int) from Int.natCast_add k n]
   ·rw [show m - (j + 1)=m' by omega,← hr,Option.map_map]
    congr 1
    funext q
    show (l++[p]++q.1,((k + n + q.2:Nat):Int))=(l++(p::q.1),((k + (n + q.2):Nat):Int))
    rw [List.append_assoc,Nat.add_assoc]; rfl
   ·show m - ((j + 1:Nat):Int).toNat < m - ((j:Nat):Int).toNat
    omega
 ·obtain rfl:j=m:=by omega
  right
  rw [Nat.sub_self] at hr
  exact ⟨_,_,by unfold Xc; exact w_f (ju (Nat.lt_irrefl _)) (qi rfl),by rfl,by rw [← hr]; show some (l,((k:Nat):Int))=some (l++[],((k + 0:Nat):Int)); rw [List.append_nil,Nat.add_zero]⟩
theorem qEE {b:List UInt8} (hb:b.length≤1000000000000):qdk N b=some (Qb b):=by
 have hN:=big N
 unfold qdk qgJ Qb rdD
 refine qe (qd4 (N:=N) (by omega)) ?_
 unfold Jr
 cases hr:rdN 0 0 b with
 | none=>exact w_t rfl <| qi rfl
 | some p=>
  obtain ⟨m,u⟩:=p
  obtain ⟨_,_,u3⟩:=Wz hr
  rw [Option.bind_some]
  by_cases hm:m≤60
  ·obtain ⟨y,ey,hy⟩:=qED (N:=N) hb hm u3
   show _=some (match (if m≤60 then (rdM rdP m (b.drop u)).bind fun q=>if jj q.1=true then some (q.1,u + q.2) else none else none) with | some (l,n)=>(l,(n:Int),true) | none=>([],0,false))
   rw [if_pos hm]
   refine w_f rfl <| w_f (decide_eq_false (by show ¬ (60:Int) < (m:Int); omega)) <| qe ((Vf rfl).trans ey) ?_
   cases hq:rdM rdP m (b.drop u) with
   | none=>
    rw [hq] at hy
    cases y with
    | inl z=>exact w_l rfl <| qi rfl
    | inr z=>cases hy
   | some q=>
    obtain ⟨l,k⟩:=q
    rw [hq] at hy
    cases y with
    | inl z=>cases hy
    | inr z=>
     obtain ⟨z1,z2,z3⟩:=z
     have hz:(z1,z2)=(l,((u + k:Nat):Int)):=Option.some.inj hy
     obtain ⟨rfl,rfl⟩:=Prod.mk.inj hz
     have hlen:=((qcp qaS m).forth _ z1 k hq).1.1
     rw [Option.bind_some]
     refine w_r rfl <| qk rfl <| qe (qkP (l:=z1) (by omega) (by omega)) ?_
     show _=some (match (if jj z1=true then some (z1,u + k) else none) with | some (l,n)=>(l,(n:Int),true) | none=>([],0,false))
     cases jj z1 with
     | false=>exact w_t rfl <| qi rfl
     | true=>exact w_f rfl <| qk rfl <| qi rfl
  ·show _=some (match (if m≤60 then (rdM rdP m (b.drop u)).bind fun q=>if jj q.1=true then some (q.1,u + q.2) else none else none) with | some (l,n)=>(l,(n:Int),true) | none=>([],0,false))
   rw [if_neg hm]
   exact w_f rfl <| w_t (decide_eq_true (by show (60:Int) < (m:Int); omega)) <| qi rfl
end
theorem qmU {s:RdS} (hs:s.1.length≤1000000000000) {n:Nat} (hn:n≤1000000000000) (is:Bool):z_ s (n:Int) is=some (sk s n is):=by
 obtain ⟨b,bad⟩:=s
 have hs:b.length≤1000000000000:=hs
 have hm:qbd ((n:Nat):Int) ((n:Nat):Int) 1:=⟨rfl,by omega,by unfold qN; omega⟩
 unfold z_ qas sk
 cases bad with
 | true=>
  rw [if_neg (fun h=>by cases h.1)]
  exact w_t rfl <| w_t rfl <| qk hm <| qk rfl <| qi rfl
 | false=>
  refine w_f rfl ?_
  cases is with
  | false=>
   rw [if_neg (fun h=>by cases h.2.1)]
   exact w_t rfl <| w_t rfl <| qk hm <| qk rfl <| qi rfl
  | true=>
   refine w_f rfl ?_
   by_cases h:b.length < n
   ·rw [if_neg (fun h'=>by have:n≤b.length:=h'.2.2; omega)]
    have e:decide ((((qj.b (b,false)).length:Nat):Int) < ((n:Nat):Int))=true:=decide_eq_true (by show ((b.length:Nat):Int) < _; omega)
    exact w_t e <| qk hm <| qk rfl <| qi (by rw [e]; rfl)
   ·rw [if_pos ⟨rfl,rfl,by show n≤b.length; omega⟩]
    have e:decide ((((qj.b (b,false)).length:Nat):Int) < ((n:Nat):Int))=false:=decide_eq_false (by show ¬ ((b.length:Nat):Int) < _; omega)
    refine w_f e <| qk ⟨Int.le_refl _,by omega,by show ((n:Nat):Int)≤((b.length:Nat):Int); omega⟩ <| qk ⟨by omega,by show ((n:Nat):Int)≤((b.length:Nat):Int); omega⟩ <| qi ?_
    rw [e]; rfl
theorem qv1 {s:RdS} (hs:s.1.length≤1000000000000):Jh s=some ((sk s 1 true).1,((XF (sk s 1 true).2:Nat):Int)):=by
 unfold Jh qbw
 have h:=qdm s 1 true
 have hg:zh (sk s 1 true).2 (0:Int)=some ((sk s 1 true).2.getD 0 0):=Zn (d:=(0:UInt8)) (k:=0) (by omega)
 have:=((sk s 1 true).2.getD 0 0).toNat_lt
 exact qe (qmU (n:=1) hs (by omega) true) <| qe hg <| qk (by unfold qf; omega) <| qi rfl
theorem qEr {s:RdS} (hs:s.1.length≤1000000000000):Xb s=some ((sk s 16 true).1,jA 16 (sk s 16 true).2):=by
 unfold Xb qct
 have h:=qdm s 16 true
 exact qe (qmU (n:=16) hs (by omega) true) <| qk ⟨by omega,by omega⟩ <| qi rfl
theorem qsA {s:RdS} (hs:s.1.length≤1000000000000):v8 s=some ((sk s 32 true).1,jA 32 (sk s 32 true).2):=by
 unfold v8 Yz
 have h:=qdm s 32 true
 exact qe (qmU (n:=32) hs (by omega) true) <| qk ⟨by omega,by omega⟩ <| qi rfl
end Go.Rx
end
set_option maxRecDepth 100000
noncomputable section
namespace Go.Rx
open Go.Proofs
theorem qru (n:Nat):IntKind.u64.wrap ((n:Nat):Int)=((n % 18446744073709551616:Nat):Int):=by
 have:IntKind.u64.wrap ((n:Nat):Int)=((n:Nat):Int) % 18446744073709551616:=by simp [IntKind.wrap,IntKind.bits,IntKind.signed]
 rw [this]; omega
theorem qEm (x:Nat):∀ (K i:Nat),i≤K→(dn x K).getD i 0=if i=K then loB x else hiB x (K - i)
 | 0,i,h=>by
  obtain rfl:i=0:=by omega
  rfl
 | K + 1,0,_=>rfl
 | K + 1,i + 1,h=>by
  show (dn x K).getD i 0=_
  rw [qEm x K i (by omega)]
  by_cases e:i=K
  ·rw [if_pos e,if_pos (by omega)]
  ·rw [if_neg e,if_neg (by omega),show K + 1 - (i + 1)=K - i by omega]
def qtG (b:List UInt8) (n i:Nat):Prop:=∀ x u,rdN 0 0 b=some (x,u)→i < u∧n=x / 128 ^ (u - i)
theorem quw {b:List UInt8} {x u i:Nat} (h:rdN 0 0 b=some (x,u)) (hi:i < u):(b.getD i 0).toNat=if i + 1=u then x % 128 else x / 128 ^ (u - 1 - i) % 128 + 128:=by
 obtain ⟨K,rfl,h1,h2,h3⟩:=qe4 h
 have:b.getD i 0=(dn x K).getD i 0:=by
  rw [← h3,List.getD_eq_getElem?_getD,List.getD_eq_getElem?_getD,List.getElem?_take_of_lt hi]
 rw [this,qEm x K i (by omega)]
 by_cases e:i=K
 ·rw [if_pos e,if_pos (by omega),qxw]
 ·rw [if_neg e,if_neg (by omega),qry,show K + 1 - 1 - i=K - i by omega]
theorem qhF {b:List UInt8} {x u:Nat} (h:rdN 0 0 b=some (x,u)):x < 18446744073709551616:=(Zz.forth b x u h).1
theorem qCt {b:List UInt8} {n i:Nat} (h:qtG b n i) (hc:128≤(b.getD i 0).toNat):qtG b ((n * 128 + (b.getD i 0).toNat % 128) % 18446744073709551616) (i + 1):=by
 intro x u hx
 obtain ⟨h1,h2⟩:=h x u hx
 have hb:=quw hx h1
 have hl:=qhF hx
 have hne:i + 1≠u:=fun e=>by rw [if_pos e] at hb; omega
 rw [if_neg hne] at hb
 refine ⟨by omega,?_⟩
 have e1:x / 128 ^ (u - (i + 1)) / 128=n:=by rw [Vw,h2,show u - (i + 1) + 1=u - i by omega]
 have e2:u - 1 - i=u - (i + 1):=by omega
 rw [e2] at hb
 have hq:x / 128 ^ (u - (i + 1))≤x:=Nat.div_le_self _ _
 rw [hb]
 omega
theorem qD4 {b:List UInt8} {n i:Nat} (h:qtG b n i) (hc:(b.getD i 0).toNat < 128) {x u:Nat} (hx:rdN 0 0 b=some (x,u)):u=i + 1∧(n * 128 + (b.getD i 0).toNat % 128) % 18446744073709551616=x:=by
 obtain ⟨h1,h2⟩:=h x u hx
 have hb:=quw hx h1
 have hl:=qhF hx
 by_cases e:i + 1=u
 ·rw [if_pos e] at hb
  subst e
  rw [show i + 1 - i=1 by omega,Nat.pow_one] at h2
  exact ⟨rfl,by omega⟩
 ·rw [if_neg e] at hb; omega
theorem qFx {n c:Nat} (hn:n < 18446744073709551616):Q_ .u64 (qDZ .u64 ((128:Int)) ((n:Nat):Int)) (IntKind.u64.wrap (((c:Nat):Int).tmod 128))=(((n * 128 + c % 128) % 18446744073709551616:Nat):Int):=by
 show IntKind.u64.wrap (IntKind.u64.wrap ((128:Int) * ((n:Nat):Int)) + IntKind.u64.wrap (((c % 128:Nat):Int)))=_
 rw [show (128:Int) * ((n:Nat):Int)=((128 * n:Nat):Int) by omega,qru,qru,show (((128 * n % 18446744073709551616:Nat):Int)) + ((c % 128 % 18446744073709551616:Nat):Int)=((128 * n % 18446744073709551616 + c % 128 % 18446744073709551616:Nat):Int) by omega,qru]
 congr 1; omega
section
variable {N:Nat} [JV N]
theorem qcX {x:Nat} (h:x < 18446744073709551616):zf N (x:Int)=some (zy x):=by
 have hK:=qea h
 exact qB8 h hK.1 hK.2.2.1 hK.2.2.2
theorem qyr {x:Nat} (h:x < 18446744073709551616):J8 N (x:Int)=some (zy x):=by
 have hK:=qea h
 have p:(128:Int)≠0:=by omega
 have e:UInt8.ofNat (IntKind.u8.wrap ((x:Int).tmod 128)).toNat=loB x:=by
  show UInt8.ofNat (IntKind.u8.wrap (((x % 128:Nat):Int))).toNat=_
  rw [qqr,Nat.mod_eq_of_lt (show x % 128 < 256 by omega),Int.toNat_natCast]
  rfl
 have key:Xp N [loB x] (x:Int)=some (dn x (qyP x),((x / 128 ^ qyP x:Nat):Int),false):=quH h hK.1 hK.2.2.1 hK.2.2.2
 unfold J8 X0
 refine qk p <| qk (Zv _) ?_
 rw [e]
 exact qe ((Vf rfl).trans ((YQ _).trans key)) <| qk rfl <| qi rfl
def qF9 (y:ji):Int×Int×Bool:=match y with
 | .inl z=>(z.1,z.2.1,z.2.2)
 | .inr _=>(0,0,false)
theorem qB1 (b:List UInt8) (hb:b.length≤1000000000000000):∃ y,WD N b 0 0=some y∧qF9 y=Jr b:=by
 have hN:=big N
 refine qcj (B:=jr N b) (g:=some) (I:=fun v=>∃ i n:Nat,v=((n:Int),(i:Int))∧i≤b.length∧i≤10∧n < 18446744073709551616∧qtG b n i) (fun v=>11 - v.2.toNat) ?_ N _
  ⟨0,0,rfl,Nat.zero_le _,by omega,by omega,fun x u hx=>?_⟩ (by simp; omega)
 ·rintro v ⟨i,n,rfl,hi,h10,hn,hr⟩
  have none_of:(i=b.length∨i=10)→Jr b=(0,0,false):=fun h=>by
   unfold Jr
   cases e:rdN 0 0 b with
   | none=>rfl
   | some p=>
    obtain ⟨x,u⟩:=p
    have h1:=(hr x u e).1
    have h2:=Wz e
    omega
  by_cases hlt:i < b.length
  ·by_cases h9:i < 10
   ·have hg:zh b ((i:Nat):Int)=some (b.getD i 0):=Zn hlt
    have hc:=(b.getD i 0).toNat_lt
    have c1:qf (((i:Nat):Int) + 1):=jY (by omega)
    have hn':(n * 128 + (b.getD i 0).toNat % 128) % 18446744073709551616 < 18446744073709551616:=Nat.mod_lt _ (by omega)
    have ea:=qFx (c:=(b.getD i 0).toNat) hn
    have hnx:=qCt hr
    have hla:=fun h x u=>qD4 hr h (x:=x) (u:=u)
    have hcc:0 < (b.take (i + 1)).length:=by rw [List.length_take]; omega
    generalize (n * 128 + (b.getD i 0).toNat % 128) % 18446744073709551616=n' at *
    generalize b.getD i 0=c at *
    by_cases h:c.toNat < 128
    ·right
     have hp:=qyr (N:=N) hn'
     have d0:decide (((i:Nat):Int) < ((b.length:Nat):Int))=true:=decide_eq_true (by omega)
     have d1:decide (((i:Nat):Int) < ((10:Int)))=true:=decide_eq_true (by omega)
     have d2:decide (((c.toNat:Nat):Int) < ((128:Int)))=true:=decide_eq_true (by omega)
     have c2:0≤(0:Int)∧(0:Int)≤(((i:Nat):Int) + 1)∧(((i:Nat):Int) + 1)≤((b.length:Nat):Int):=by omega
     have et:(b.take (((i:Nat):Int) + 1).toNat).drop 0=b.take (i + 1):=by rw [List.drop_zero]; congr 1
     by_cases he:zy n'=b.take (i + 1)
     ·refine ⟨_, _, by
         unfold jr
         refine w_t d0 <| w_t d1 <| qe hg <| qk (by omega) ?_
         dsimp only
         rw [ea]
         exact qe hg <| w_t d2 <| qe hp <| qk c1 <| qk c2 <| w_f (by rw [et,decide_eq_true he]; rfl) <| qk c1 <| qi rfl,rfl,?_⟩
      have hbk:=Zz.back n' (b.drop (i + 1)) hn'
      have hlen:(zy n').length=i + 1:=by rw [he,List.length_take]; omega
      rw [hlen] at hbk
      rw [he,List.take_append_drop] at hbk
      show ((n':Int),((i:Nat):Int) + 1,true)=Jr b
      unfold Jr
      rw [hbk]; rfl
     ·refine ⟨_, _, by
         unfold jr
         refine w_t d0 <| w_t d1 <| qe hg <| qk (by omega) ?_
         dsimp only
         rw [ea]
         exact qe hg <| w_t d2 <| qe hp <| qk c1 <| qk c2 <| w_t (by rw [et,decide_eq_false he]; rfl) <| qi rfl,rfl,?_⟩
      show ((0:Int),(0:Int),false)=Jr b
      unfold Jr
      cases e:rdN 0 0 b with
      | none=>rfl
      | some p=>
       obtain ⟨x,u⟩:=p
       obtain ⟨e1,e2⟩:=hla h x u e
       obtain ⟨K,e3,e4,_,e5⟩:=qe4 e
       refine (he ?_).elim
       rw [e2,qrN e4,← e5]
       congr 1; omega
    ·left
     refine ⟨_,by
      unfold jr
      refine w_t (decide_eq_true (by show ((i:Nat):Int) < ((b.length:Nat):Int); omega)) <| w_t (decide_eq_true (by show ((i:Nat):Int) < 10; omega)) <| qe hg <| qk (by omega) ?_
      dsimp only
      rw [ea]
      exact qe hg <| w_f (decide_eq_false (by omega)) <| qk c1 <| qi rfl,⟨i + 1,n',rfl,hlt,h9,hn',hnx (by omega)⟩,?_⟩
     show 11 - (((i:Nat):Int) + 1).toNat < 11 - ((i:Nat):Int).toNat
     omega
   ·right
    exact ⟨_,_,by unfold jr; exact w_t (decide_eq_true (by show ((i:Nat):Int) < ((b.length:Nat):Int); omega)) <| w_f (decide_eq_false (by show ¬ ((i:Nat):Int) < 10; omega)) (qi rfl),by rfl,by exact (none_of (.inr (by omega))).symm⟩
  ·right
   exact ⟨_,_,by unfold jr; exact w_f (decide_eq_false (by show ¬ ((i:Nat):Int) < ((b.length:Nat):Int); omega)) (qi rfl),by rfl,by exact (none_of (.inl (by omega))).symm⟩
 ·obtain ⟨K,rfl,h1,_⟩:=qe4 hx
  refine ⟨by omega,?_⟩
  have:=h1.2.2.1
  rw [Nat.sub_zero,Nat.pow_succ,← Nat.div_div_eq_div_mul]
  exact (Nat.div_eq_of_lt this).symm
theorem qcy {b:List UInt8} (hb:b.length≤1000000000000000):zV N b=some (Jr b):=by
 obtain ⟨y,e,hy⟩:=qB1 (N:=N) b hb
 unfold zV YZ
 refine qe e ?_
 rcases y with z | z
 ·exact w_l rfl (qi (congrArg some hy))
 ·exact w_r rfl (qi (congrArg some hy))
theorem qse {s:List UInt8} (h:s.length≤1000000):Q5 N s=some (ZO s):=by
 have hl:=(VL (x:=s.length) (by omega)).2
 unfold Q5 WV
 show (Tree.bind (zf N (IntKind.u64.wrap ((s.length:Nat):Int))) _).run some=_
 rw [jm (by omega)]
 exact qe (qcX (by omega)) <| qk ⟨rfl,by rw [List.length_append]; unfold qN; simp; omega⟩ <| qk rfl <| qi rfl
theorem qDa {b:List UInt8} (hb:b.length≤1000000000000000):XY N b=some (Za b):=by
 unfold XY YH Za rdS
 refine qe (qcy (N:=N) hb) ?_
 unfold Jr
 cases hr:rdN 0 0 b with
 | none=>exact w_t rfl <| qi rfl
 | some p=>
  obtain ⟨x,u⟩:=p
  have hx:x < 18446744073709551616:=qhF hr
  rw [Option.bind_some]
  refine w_f rfl ?_
  show (Tree.cond (decide (8796093022216≤((x:Nat):Int))) _ _).run some=_
  by_cases hbig:8796093022216≤((x:Nat):Int)
  ·refine w_t (decide_eq_true hbig) <| qi ?_
   have:stB (((x / 8:Nat):Int),((x % 8:Nat):Int))=false:=by
    unfold stB
    simp only [Bool.or_eq_false_iff,Bool.and_eq_false_iff,decide_eq_false_iff_not]
    refine ⟨fun e=>?_,.inl (.inl (.inr ?_))⟩
    ·have:((x / 8:Nat):Int)=0:=congrArg Prod.fst e
     omega
    ·show ¬ ((x / 8:Nat):Int)≤1099511627776
     omega
   rw [this]; rfl
  ·have e1 : IntKind.u64.wrap ((((x : Nat) : Int)).tdiv 8) = ((x / 8 : Nat) : Int) := by
      show IntKind.u64.wrap (((x / 8:Nat):Int))=_
      rw [jm (by omega)]
   have e2:(((x:Nat):Int)).tmod 8=((x % 8:Nat):Int):=rfl
   refine w_f (decide_eq_false hbig) <| qk (by omega) ?_
   show (Tree.chk (qf (IntKind.u64.wrap ((((x:Nat):Int)).tdiv 8))) <| Tree.chk ((8:Int)≠0) <| Tree.chk (qf ((((x:Nat):Int)).tmod 8)) <| Tree.bind (v_ (qd.mk (IntKind.u64.wrap ((((x:Nat):Int)).tdiv 8)) ((((x:Nat):Int)).tmod 8))) fun r2=>
    Tree.cond (!r2) (Tree.ret (qd.mk 0 0,0,false)) (Tree.ret (qd.mk (IntKind.u64.wrap ((((x:Nat):Int)).tdiv 8)) ((((x:Nat):Int)).tmod 8),((u:Nat):Int),true))).run some=_
   rw [e1,e2]
   refine qk (show qf ((x / 8:Nat):Int) by unfold qf; omega) <| qk (by omega) <| qk (show qf ((x % 8:Nat):Int) by unfold qf; omega) <| qe (qqY _) ?_
   show (Tree.cond (!stB (((x / 8:Nat):Int),((x % 8:Nat):Int))) _ _).run some=_
   cases stB (((x / 8:Nat):Int),((x % 8:Nat):Int)) with
   | true=>exact w_f rfl <| qi rfl
   | false=>exact w_t rfl <| qi rfl
theorem qrU {most:Nat} {b:List UInt8} (hm:most≤1000000000) (hb:b.length≤1000000000000):Q4 N b (most:Int)=some (Je most b):=by
 unfold Q4 WE Je rdT
 refine qe (qcy (N:=N) (by omega)) ?_
 unfold Jr
 cases hr:rdN 0 0 b with
 | none=>exact w_t rfl <| qi rfl
 | some p=>
  obtain ⟨x,u⟩:=p
  have hx:x < 18446744073709551616:=qhF hr
  have hu:=(Wz hr).2.2
  rw [Option.bind_some]
  refine w_f rfl <| w_f (decide_eq_false (by show ¬ ((most:Nat):Int) < 0; omega)) ?_
  show (Tree.cond (decide ((IntKind.u64.wrap ((most:Nat):Int)) < ((x:Nat):Int))) _ _).run some=some (match (if x≤most∧x≤b.length - u then some ((b.drop u).take x,u + x) else none) with | some (s,n)=>(s,(n:Int),true) | none=>([],0,false))
  rw [jm (by omega)]
  by_cases h1:x≤most
  ·refine w_f (decide_eq_false (by omega)) <| qk (show qf (((b.length:Nat):Int) - ((u:Nat):Int)) by unfold qf; omega) ?_
   show (Tree.cond (decide (IntKind.u64.wrap (((b.length:Nat):Int) - ((u:Nat):Int)) < ((x:Nat):Int))) _ _).run some=_
   rw [show ((b.length:Nat):Int) - ((u:Nat):Int)=((b.length - u:Nat):Int) by omega,jm (by omega)]
   by_cases h2:x≤b.length - u
   ·rw [if_pos ⟨h1,h2⟩]
    refine w_f (decide_eq_false (by omega)) <| qk (show qf ((x:Nat):Int) by unfold qf; omega) <| qk (show qf (((u:Nat):Int) + ((x:Nat):Int)) by unfold qf; omega) <| qk (show 0≤((u:Nat):Int)∧((u:Nat):Int)≤(((u:Nat):Int) + ((x:Nat):Int))∧(((u:Nat):Int) + ((x:Nat):Int))≤((b.length:Nat):Int) by omega) <| qk (show qf ((x:Nat):Int) by unfold qf; omega) <| qk (show qf (((u:Nat):Int) + ((x:Nat):Int)) by unfold qf; omega) <| qi ?_
    show some ((b.take (((u:Nat):Int) + ((x:Nat):Int)).toNat).drop (((u:Nat):Int)).toNat,((u:Nat):Int) + ((x:Nat):Int),true)=some ((b.drop u).take x,((u + x:Nat):Int),true)
    rw [show (((u:Nat):Int) + ((x:Nat):Int)).toNat=u + x by omega,show (((u:Nat):Int)).toNat=u by omega,List.drop_take,show u + x - u=x by omega]
    rfl
   ·rw [if_neg (fun h=>h2 h.2)]
    exact w_t (decide_eq_true (by omega)) <| qi rfl
  ·rw [if_neg (fun h=>h1 h.1)]
   exact w_t (decide_eq_true (by omega)) <| qi rfl
end
end Go.Rx
end
set_option maxRecDepth 100000
noncomputable section
namespace Go.Rx
open Go.Proofs
open Go.Lib (compareBytes)
end Go.Rx
end
set_option maxRecDepth 100000
noncomputable section
namespace Go.Rx
open Go.Proofs
end Go.Rx
end
set_option maxRecDepth 100000
noncomputable section
namespace Go.Rx
open Go.Proofs
end Go.Rx
end
set_option maxRecDepth 100000
noncomputable section
namespace Go.Rx
open Go.Proofs
open Go.Lib (compareBytes)
end Go.Rx
end
set_option maxRecDepth 100000
noncomputable section
namespace Go.Rx
open Go.Proofs
open Go.Lib (compareBytes)
end Go.Rx
end
set_option maxRecDepth 100000
noncomputable section
namespace Go.Rx
open Go.Proofs
open Go.Lib (compareBytes)
end Go.Rx
end
set_option maxRecDepth 100000
noncomputable section
namespace Go.Rx
open Go.Proofs
end Go.Rx
end
set_option maxRecDepth 100000
noncomputable section
namespace Go.Rx
open Go.Proofs
end Go.Rx
end
set_option maxRecDepth 100000
noncomputable section
namespace Go.Rx
open Go.Proofs
end Go.Rx
end
set_option maxRecDepth 100000
noncomputable section
namespace Go.Rx
open Go.Proofs
end Go.Rx
end
set_option maxRecDepth 100000
noncomputable section
namespace Go.Rx
open Go.Proofs
end Go.Rx
end
set_option maxRecDepth 100000
noncomputable section
namespace Go.Rx
open Go.Proofs
end Go.Rx
end
set_option maxRecDepth 100000
noncomputable section
namespace Go.Rx
open Go.Proofs
end Go.Rx
end
set_option maxRecDepth 100000
noncomputable section
namespace Go.Rx
open Go.Proofs
end Go.Rx
end
set_option maxRecDepth 100000
noncomputable section
namespace Go.Rx
open Go.Proofs
end Go.Rx
end
set_option maxRecDepth 100000
noncomputable section
namespace Go.Rx
open Go.Proofs
section
variable {N:Nat} [JV N]
theorem qvT (o:qb):∃ x,Qa N o=some x∧(x=true→(qb.P o).length≤80∧(qb.V o).length≤300∧∀ k,k < (qb.P o).length→((qb.P o).getD k zP).Lit.length≤300):=by
 have hN:=big N
 by_cases h1:(qb.P o).length≤80
 ·by_cases h2:(qb.V o).length≤300
  ·have hl : WW N o 0 = some (if XM (fun k => decide (((qb.P o).getD k zP).Lit.length ≤ 300)) (qb.P o).length then .inr (((qb.P o).length : Nat), false) else .inl ()) := by
      refine (qlu (B:=Z3 N o) (g:=some) (q:=fun k=>decide (((qb.P o).getD k zP).Lit.length≤300)) (n:=(qb.P o).length) (hit:=()) (fun k hk=>?_) ?_ (by omega))
      ·unfold Z3
       refine w_t (dec_lt hk) <| qe (Zn (d:=zP) hk) ?_
       by_cases h:((qb.P o).getD k zP).Lit.length≤300
       ·rw [decide_eq_true h]
        exact w_f (decide_eq_false (by show ¬ (300:Int) < ((((qb.P o).getD k zP).Lit.length:Nat):Int); omega)) <| qk (jY (by omega)) <| qi (by rw [jN]; rfl)
       ·rw [decide_eq_false h]
        exact w_t (decide_eq_true (by show (300:Int) < ((((qb.P o).getD k zP).Lit.length:Nat):Int); omega)) <| qi rfl
      ·unfold Z3
       exact w_f (ju (Nat.lt_irrefl _)) (qi (by rw [ju (Nat.lt_irrefl _)]))
   refine ⟨XM (fun k=>decide (((qb.P o).getD k zP).Lit.length≤300)) (qb.P o).length,?_,fun h=>⟨h1,h2,fun k hk=>of_decide_eq_true (VB.1 h k hk)⟩⟩
   unfold Qa ZY
   refine w_f (decide_eq_false (by omega)) <| w_f (decide_eq_false (by omega)) <| qe hl ?_
   cases XM (fun k=>decide (((qb.P o).getD k zP).Lit.length≤300)) (qb.P o).length<;>rfl
  ·refine ⟨false,?_,fun h=>by cases h⟩
   unfold Qa ZY
   exact w_f (decide_eq_false (by omega)) <| w_t (decide_eq_true (by omega)) <| qi rfl
 ·refine ⟨false,?_,fun h=>by cases h⟩
  unfold Qa ZY
  exact w_t (decide_eq_true (by omega)) <| qi rfl
end
end Go.Rx
end
set_option maxRecDepth 100000
noncomputable section
namespace Go.Rx
open Go.Proofs
end Go.Rx
end
set_option maxRecDepth 100000
noncomputable section
namespace Go.Rx
open Go.Proofs
end Go.Rx
end
set_option maxRecDepth 100000
noncomputable section
namespace Go.Rx
open Go.Proofs
end Go.Rx
end
set_option maxRecDepth 100000
noncomputable section
namespace Go.Rx
open Go.Proofs
end Go.Rx
end
set_option maxRecDepth 100000
noncomputable section
namespace Go.Rx
open Go.Proofs
end Go.Rx
end
set_option maxRecDepth 100000
noncomputable section
namespace Go.Rx
open Go.Proofs
end Go.Rx
end
set_option maxRecDepth 100000
noncomputable section
namespace Go.Rx
open Go.Proofs
end Go.Rx
end
set_option maxRecDepth 100000
noncomputable section
namespace Go.Rx
open Go.Proofs
end Go.Rx
end
set_option maxRecDepth 100000
noncomputable section
namespace Go.Rx
open Go.Proofs
end Go.Rx
end
set_option maxRecDepth 100000
noncomputable section
namespace Go.Rx
open Go.Proofs
end Go.Rx
end
set_option maxRecDepth 100000
noncomputable section
namespace Go.Rx
open Go.Proofs
end Go.Rx
end
set_option maxRecDepth 100000
noncomputable section
namespace Go.Rx
open Go.Proofs
open Go.Lib (compareBytes)
end Go.Rx
end
set_option maxRecDepth 100000
noncomputable section
namespace Go.Rx
open Go.Proofs
end Go.Rx
end
set_option maxRecDepth 100000
noncomputable section
namespace Go.Rx
open Go.Proofs
end Go.Rx
end
set_option maxRecDepth 100000
noncomputable section
namespace Go.Rx
open Go.Proofs
end Go.Rx
end
set_option maxRecDepth 100000
noncomputable section
namespace Go.Rx
open Go.Proofs
end Go.Rx
end
set_option maxRecDepth 100000
noncomputable section
namespace Go.Rx
open Go.Proofs
theorem qph {p:qa}:jC p=true↔(p.zg=true∧(0≤p.zi∧p.zi≤200)∧(1≤p.Len∧p.Len≤200)∧p.Lit=[])∨(p.zg=false∧p.zi=0∧p.Len=0∧1≤((p.Lit.length:Nat):Int)∧((p.Lit.length:Nat):Int)≤200):=by
 unfold jC inP
 cases e:p.zg with
 | true=>
  rw [cond_true]
  simp only [Bool.and_eq_true,decide_eq_true_eq]
  constructor
  ·rintro ⟨⟨h1,h2⟩,h3⟩; exact .inl ⟨trivial,h1,h2,h3⟩
  ·rintro (⟨_,h1,h2,h3⟩ | ⟨h,_⟩)
   ·exact ⟨⟨h1,h2⟩,h3⟩
   ·cases h
 | false=>
  rw [cond_false]
  simp only [Bool.and_eq_true,decide_eq_true_eq]
  constructor
  ·rintro ⟨h1,h2⟩; exact .inr ⟨trivial,by rw [h1]; rfl,by rw [h1]; rfl,h2⟩
  ·rintro (⟨h,_⟩ | ⟨_,h1,h2,h3⟩)
   ·cases h
   ·refine ⟨?_,h3⟩
    obtain ⟨c,f,n,t⟩:=p
    have h1:f=0:=h1
    have h2:n=0:=h2
    have e:c=false:=e
    rw [h1,h2,e]; rfl
section
variable {N:Nat} [JV N]
theorem qBl {l m:List qa} (hl:l.length≤600):V5 N l m=some (decide (l=m)):=by
 have hN:=big N
 unfold V5 WM
 by_cases hm:m.length=l.length
 ·have e : XQ N l m 0 = some (if XM (fun k => decide (l.getD k zP = m.getD k zP)) l.length then .inr (((l.length : Nat) : Int), false) else .inl ()) := by
     refine (qlu (B:=ZS N l m) (g:=some) (q:=fun k=>decide (l.getD k zP=m.getD k zP)) (n:=l.length) (hit:=()) (fun k hk=>?_) ?_ (by omega))
     ·unfold ZS
      refine w_t (dec_lt hk) <| qe (Zn (d:=zP) hk) <| qe (Zn (d:=zP) (by omega)) <| zl rfl (fun h=>?_) fun h=>?_
      ·have h':decide (l.getD k zP=m.getD k zP)=false:=by rw [qtZ,Bool.not_eq_true'] at h; exact h
       rw [h']; exact qi rfl
      ·have h':decide (l.getD k zP=m.getD k zP)=true:=by rw [qtZ,Bool.not_eq_false'] at h; exact h
       rw [h']; exact qk (jY (by omega)) <| qi (by rw [jN]; rfl)
     ·unfold ZS
      exact w_f (ju (Nat.lt_irrefl _)) (qi (by rw [ju (Nat.lt_irrefl _)]))
  refine w_f (by rw [decide_eq_true (by omega)]; rfl) <| qe e ?_
  cases e:XM (fun k=>decide (l.getD k zP=m.getD k zP)) l.length with
  | true=>
   have:l=m:=qjM hm fun k hk=>of_decide_eq_true (VB.1 e k hk)
   exact w_r rfl (qi (by rw [decide_eq_true this]))
  | false=>
   have:¬ l=m:=fun h=>by
    rw [VB.2 (fun k _=>by rw [h]; exact decide_eq_true rfl)] at e; cases e
   exact w_l rfl (qi (by rw [decide_eq_false this]))
 ·exact w_t (by rw [decide_eq_false (by omega)]; rfl) (qi (by rw [decide_eq_false (fun h=>hm (by rw [h]))]))
theorem qmd {a b:qb} (hl:(qb.P a).length≤600):Q6 N a b=some (decide (a=b)):=by
 unfold Q6 WO
 have no:∀ {p:Prop} [Decidable p],(a=b→p)→decide p=false→some false=some (decide (a=b)):=fun hp h=>by rw [decide_eq_false (fun e=>of_decide_eq_false h (hp e))]
 refine qe (qBl hl) <| zl rfl (fun h0=>?_) fun h0=>qi (no (fun e=>by rw [e]) h0)
 refine zl rfl (fun h1=>?_) fun h1=>qi (no (fun e=>by rw [e]) h1)
 refine zl (qzB _ _) (fun h2=>?_) fun h2=>qi (no (fun e=>by rw [e]) h2)
 refine zl (qyX _ _) (fun h3=>?_) fun h3=>qi (no (fun e=>by rw [e]) h3)
 refine zl rfl (fun h4=>?_) fun h4=>qi (no (fun e=>by rw [e]) h4)
 refine zl rfl (fun h5=>?_) fun h5=>qi (no (fun e=>by rw [e]) h5)
 refine zl (qzB _ _) (fun h6=>?_) fun h6=>qi (no (fun e=>by rw [e]) h6)
 refine zl rfl (fun h7=>?_) fun h7=>qi (no (fun e=>by rw [e]) h7)
 refine qi ?_
 rw [qFC]
 have h0:=of_decide_eq_true h0; have h1:=of_decide_eq_true h1; have h2:=of_decide_eq_true h2; have h3:=of_decide_eq_true h3
 have h4:=of_decide_eq_true h4; have h5:=of_decide_eq_true h5; have h6:=of_decide_eq_true h6; have h7:=of_decide_eq_true h7
 refine congrArg some (decide_eq_decide.2 ⟨fun h8=>?_,fun e=>by rw [e]⟩)
 obtain ⟨a0,a1,a2,a3,a4,a5,a6,a7,a8⟩:=a
 obtain ⟨b0,b1,b2,b3,b4,b5,b6,b7,b8⟩:=b
 have h0:a5=b5:=h0; have h1:a0=b0:=h1; have h2:a1=b1:=h2; have h3:a2=b2:=h3
 have h4:a3=b3:=h4; have h5:a4=b4:=h5; have h6:a6=b6:=h6; have h7:a7=b7:=h7; have h8:a8=b8:=h8
 subst h0 h1 h2 h3 h4 h5 h6 h7 h8
 rfl
theorem qBg (o:qb):∃ r,V4 o=some r∧(0≤o.Kind→o.Kind < 4→r=qmH o):=by
 unfold V4 WA qmH
 by_cases h0:o.Kind=0
 ·refine ⟨_,w_f (by rw [decide_eq_true h0]; rfl) <| w_f (decide_eq_false (by show ¬ o.Kind=1; omega)) <| w_f (decide_eq_false (by show ¬ o.Kind=2; omega)) <| w_f (decide_eq_false (by show ¬ o.Kind=3; omega)) <| qi rfl,fun _ _=>?_⟩
  rw [if_neg (by omega),if_neg (by omega),if_neg (by omega)]
 by_cases h1:o.Kind=1
 ·refine ⟨_,w_t (by rw [decide_eq_false h0]; rfl) <| w_t (decide_eq_true h1) <| w_f (decide_eq_false (by show ¬ o.Kind=2; omega)) <| w_f (decide_eq_false (by show ¬ o.Kind=3; omega)) <| qi rfl,fun _ _=>?_⟩
  rw [if_pos h1]
 by_cases h2:o.Kind=2
 ·refine ⟨_,w_t (by rw [decide_eq_false h0]; rfl) <| w_f (decide_eq_false h1) <| w_t (decide_eq_true h2) <| w_f (decide_eq_false (by show ¬ o.Kind=3; omega)) <| qi rfl,fun _ _=>?_⟩
  rw [if_neg h1,if_pos h2]
 by_cases h3:o.Kind=3
 ·refine ⟨_,w_t (by rw [decide_eq_false h0]; rfl) <| w_f (decide_eq_false h1) <| w_f (decide_eq_false h2) <| w_t (decide_eq_true h3) <| qi rfl,fun _ _=>?_⟩
  rw [if_neg h1,if_neg h2,if_pos h3]
 ·exact ⟨_,w_t (by rw [decide_eq_false h0]; rfl) <| w_f (decide_eq_false h1) <| w_f (decide_eq_false h2) <| w_f (decide_eq_false h3) <| qi rfl,fun _ _=>by omega⟩
end
end Go.Rx
end
set_option maxRecDepth 100000
noncomputable section
namespace Go.Rx
open Go.Proofs
section
variable {N:Nat} [JV N]
set_option maxHeartbeats 4000000 in
theorem qyS {l : List qa} {k : Nat} (hk : k < l.length) (hl : l.length ≤ 600) (hq : ∀ j, j < k → jC (l.getD j zP) = true) :
    (Qf N l (WS l k,(k:Int))).run some=some (if jC (l.getD k zP) then .inl (WS l (k + 1),((k + 1:Nat):Int)) else .inr (.inl ())):=by
 have h1:=qrR (k:=k) (Nat.le_of_lt hk) hq
 unfold Qf
 refine w_t (dec_lt hk) <| qe (Zn (d:=zP) hk) ?_
 rw [qkC hk]
 generalize l.getD k zP=e at *
 generalize WS l k=s at *
 have hi:=qkQ (p:=e)
 have no:¬ (jC e=true)→some (Sum.inr (Sum.inl ()))=some (if jC e then (Sum.inl (s + (e.Len + ((e.Lit.length:Nat):Int)),((k + 1:Nat):Int)):(Int×Int)⊕zG) else .inr (.inl ())):=fun h=>by rw [if_neg h]
 have yes:jC e=true→(Tree.chk (qf (s + qa.Len e)) <| Tree.chk (qf ((s + qa.Len e) + (((qa.Lit e).length:Nat):Int))) <| Tree.chk (qf ((k:Int) + 1)) <| Tree.ret (Sum.inl ((s + qa.Len e) + (((qa.Lit e).length:Nat):Int),(k:Int) + 1):(Int×Int)⊕zG)).run some=some (if jC e then (Sum.inl (s + (e.Len + ((e.Lit.length:Nat):Int)),((k + 1:Nat):Int)):(Int×Int)⊕zG) else .inr (.inl ())):=fun h=>by
  have hi:=hi h
  rw [if_pos h]
  refine qk (show qf (s + e.Len) by unfold qf; omega) <| qk (show qf (s + e.Len + ((e.Lit.length:Nat):Int)) by unfold qf; omega) <| qk (jY (by omega)) <| qi ?_
  rw [jN]
  show some (Sum.inl (s + e.Len + ((e.Lit.length:Nat):Int),((k + 1:Nat):Int)))=_
  rw [Int.add_assoc]
 have no:=fun h=>no (mt qph.1 h)
 have yes:=fun h=>yes (qph.2 h)
 clear hi h1
 repeat' (refine zl rfl (fun _=>?_) fun _=>?_)
 all_goals simp only [decide_eq_true_eq,decide_eq_false_iff_not,Bool.not_eq_true',Bool.not_eq_false'] at *
 all_goals first
  | (refine qi (no ?_); clear no yes hq; rintro (⟨a1,⟨a2,a3⟩,⟨a4,a5⟩,a6⟩ | ⟨a1,a2,a3,a4,a5⟩)<;>first | omega | (simp_all; done))
  | exact yes (.inl ⟨by assumption,⟨by omega,by omega⟩,⟨by omega,by omega⟩,by assumption⟩)
  | exact yes (.inr ⟨by assumption,by omega,by omega,by omega,by omega⟩)
  | (exfalso; clear no yes hq; first | omega | (simp_all; done))
theorem qn_ {l:List qa} (hl:l.length≤600):Zs N l=some (jj l):=by
 have hN:=big N
 have key:WN N l 0 0=some (if XM (fun k=>jC (l.getD k zP)) l.length then .inr (WS l l.length,((l.length:Nat):Int),false) else .inl ()):=by
  refine (qiw (B:=Qf N l) (g:=some) (at_:=fun k=>(WS l k,(k:Int))) (q:=fun k=>jC (l.getD k zP)) (n:=l.length) (hit:=.inl ()) (fin:=.inr (WS l l.length,((l.length:Nat):Int),false)) (fun k hk hq=>qyS hk hl hq) ?_ l.length 0 (by omega) N (by omega) (fun j hj=>by omega)).trans ?_
  ·unfold Qf
   exact w_f (ju (Nat.lt_irrefl _)) (qi (by rw [ju (Nat.lt_irrefl _)]))
  ·split<;>rfl
 unfold Zs Y0 jj
 refine qe key ?_
 cases XM (fun k=>jC (l.getD k zP)) l.length with
 | false=>rfl
 | true=>
  refine w_r rfl <| zl (c:=decide (l.length≤60)) (decide_eq_decide.2 (by omega)) (fun h=>qi ?_) fun h=>qi ?_
  ·rw [h]; rfl
  ·rw [h]; rfl
theorem qn4 {o:qb} (hl:(qb.P o).length≤600):zq N o=some (opB o):=by
 obtain ⟨r,er,hr⟩:=qBg o
 unfold zq YX
 have no:∀ {p:Prop} [Decidable p],(opB o=true→p)→decide p=false→some false=some (opB o):=fun {p} _ hp h=>by
  cases e:opB o with
  | false=>rfl
  | true=>exact (of_decide_eq_false h (hp e)).elim
 have nob:∀ {p:Bool},(opB o=true→p=true)→p=false→some false=some (opB o):=fun {p} hp h=>by
  cases e:opB o with
  | false=>rfl
  | true=>rw [hp e] at h; cases h
 have f:=fun h=>(qd9 (o:=o)).1 h
 have hpos:opB o=true→0 < o.S.N:=fun h=>by
  obtain ⟨_,_,h0,hs,_⟩:=f h
  unfold stB at hs
  rw [decide_eq_false (fun e=>h0 e)] at hs
  simp only [Bool.false_or,Bool.and_eq_true,decide_eq_true_eq] at hs
  exact hs.1.1.1
 refine qe (qqY _) <| qe er <| qe (qmd hl) <| qe (qn_ hl) ?_
 refine zl rfl (fun h1=>?_) fun h1=>qi (nob (fun e=>(f e).2.2.2.1) h1)
 refine zl rfl (fun h2=>?_) fun h2=>qi (no (fun e=>by
  have:=f e
  rw [hr this.1.1 this.1.2]; exact this.2.1) h2)
 refine zl rfl (fun h3=>?_) fun h3=>qi (nob (fun e=>(f e).2.2.2.2.2.2.2) h3)
 refine zl rfl (fun h4=>?_) fun h4=>qi (no hpos h4)
 refine zl rfl (fun h5=>?_) fun h5=>qi (no (fun e=>(f e).1.1) h5)
 refine zl rfl (fun h6=>?_) fun h6=>qi (no (fun e=>(f e).1.2) h6)
 refine zl rfl (fun h7=>?_) fun h7=>qi (no (fun e=>(f e).2.2.2.2.1.1) h7)
 refine zl rfl (fun h8=>?_) fun h8=>qi (no (fun e=>(f e).2.2.2.2.1.2) h8)
 refine zl rfl (fun h9=>?_) fun h9=>qi (no (fun e=>(f e).2.2.2.2.2.1.1) h9)
 refine zl rfl (fun h10=>?_) fun h10=>qi (no (fun e=>(f e).2.2.2.2.2.1.2) h10)
 have h2:=of_decide_eq_true h2; have h4:=of_decide_eq_true h4; have h5:=of_decide_eq_true h5; have h6:=of_decide_eq_true h6
 have h7:=of_decide_eq_true h7; have h8:=of_decide_eq_true h8; have h9:=of_decide_eq_true h9; have h10:=of_decide_eq_true h10
 refine qi (congrArg some ?_)
 rw [Bool.eq_iff_iff,qd9]
 constructor
 ·intro h11
  have h11:=of_decide_eq_true h11
  refine ⟨⟨h5,h6⟩,h2.trans (hr h5 h6),fun e=>?_,h1,⟨h7,h8⟩,⟨h9,h10⟩,by omega,h3⟩
  rw [e] at h4
  exact absurd h4 (by show ¬ (0:Int) < 0; omega)
 ·intro e
  have:o.V.length≤200:=e.2.2.2.2.2.2.1
  exact decide_eq_true (by show ((o.V.length:Nat):Int)≤200; omega)
end
end Go.Rx
end
set_option maxRecDepth 100000
noncomputable section
namespace Go.Rx
open Go.Proofs
section
variable {N:Nat} [JV N]
theorem qD6 {l : List qa} (hl : l.length ≤ 60) (hv : ∀ p ∈ l, Xn p) {o : List UInt8} (ho : o.length ≤ 10) :
    JU N l o 0=some (o++(l.map zt).flatten,((l.length:Nat):Int),false):=by
 have hN:=big N
 have e0:JU N l o 0=zj (Qs N l) some N (o++((l.take 0).map zt).flatten,((0:Nat):Int)):=by rw [List.take_zero,List.map_nil,List.flatten_nil,List.append_nil]; rfl
 refine e0.trans (ZX (σ:=Unit) (B:=Qs N l) (g:=some) (at_:=fun k _=>(o++((l.take k).map zt).flatten,(k:Int))) (I:=fun _ _=>True) (f:=fun _ s=>s) (n:=l.length)
  (fin:=fun _=>(o++(l.map zt).flatten,((l.length:Nat):Int),false)) (fun k s hk _=>⟨?_,trivial⟩) (fun s _=>?_) N 0 () trivial (Nat.zero_le _) (by omega))
 ·have hm:l.getD k zP∈l:=by rw [List.getD_eq_getElem?_getD,List.getElem?_eq_getElem hk]; exact List.getElem_mem hk
  have hp:=hv _ hm
  have hlen:(o++((l.take k).map zt).flatten).length≤10 + 211 * k:=by
   have:=qoX (l:=l.take k) fun q hq=>hv q (List.mem_of_mem_take hq)
   rw [List.length_take,Nat.min_eq_left (Nat.le_of_lt hk)] at this
   rw [List.length_append]; omega
  have nxt:o++((l.take (k + 1)).map zt).flatten=(o++((l.take k).map zt).flatten)++zt (l.getD k zP):=by
   rw [qau (d:=zP) hk,List.map_append,List.flatten_append,List.append_assoc]; simp
  have hg:=Zn (d:=zP) hk
  rw [nxt]
  have av:∀ {q:List UInt8},q.length≤100000→q.length * 1≤qN:=fun {q} h=>by unfold qN; omega
  generalize o++((l.take k).map zt).flatten=a at *
  generalize l.getD k zP=e at *
  have hl1:∀ {x:Nat},x < 18446744073709551616→(zy x).length≤10:=fun h=>(VL h).2
  unfold Xn at hp
  unfold Qs
  refine w_t (dec_lt hk) <| qe hg ?_
  cases hc:e.zg with
  | true=>
   rw [if_pos hc] at hp
   obtain ⟨x,hx⟩:∃ z:Nat,e.zi=(z:Int):=⟨e.zi.toNat,by omega⟩
   obtain ⟨y,hy⟩:∃ z:Nat,e.Len=(z:Int):=⟨e.Len.toNat,by omega⟩
   have e1:zf N (IntKind.u64.wrap (qa.zi e))=some (zy x):=by
    show zf N (IntKind.u64.wrap e.zi)=_
    rw [hx,jm (by omega)]; exact qcX (by omega)
   have e2:zf N (IntKind.u64.wrap (qa.Len e))=some (zy y):=by
    show zf N (IntKind.u64.wrap e.Len)=_
    rw [hy,jm (by omega)]; exact qcX (by omega)
   have l1:=hl1 (x:=x) (by omega)
   have l2:=hl1 (x:=y) (by omega)
   have ew:zt e=1::(zy x++zy y):=by
    unfold zt
    rw [if_pos hc,hx,hy,Int.toNat_natCast,Int.toNat_natCast]
   refine w_t rfl <| qk ⟨rfl,av (by rw [List.length_append]; simp; omega)⟩ <| qe hg <| qe e1 <| qk rfl <| qk ⟨rfl,av (by rw [List.length_append,List.length_append]; simp; omega)⟩ <| qe hg <| qe e2 <| qk rfl <| qk ⟨rfl,av (by rw [List.length_append,List.length_append,List.length_append]; simp; omega)⟩ <| qk (jY (by omega)) <| qi ?_
   rw [jN,ew]
   simp
  | false=>
   rw [if_neg (by rw [hc]; simp)] at hp
   have e1:Q5 N (qa.Lit e)=some (ZO e.Lit):=qse (by omega)
   have l1:=qfz (s:=e.Lit) (by omega)
   have ew:zt e=0::ZO e.Lit:=by
    unfold zt
    rw [if_neg (by rw [hc]; simp)]
   refine w_f rfl <| qk ⟨rfl,av (by rw [List.length_append]; simp; omega)⟩ <| qe hg <| qe e1 <| qk ⟨rfl,av (by rw [List.length_append,List.length_append]; simp; omega)⟩ <| qk (jY (by omega)) <| qi ?_
   rw [jN,ew]
   simp
 ·unfold Qs
  exact w_f (ju (Nat.lt_irrefl _)) (qi (by rw [ju (Nat.lt_irrefl _),List.take_of_length_le (Nat.le_refl _)]))
theorem qDf {l:List qa} (h:jj l=true):XT N l=some (jV l,true):=by
 obtain ⟨h1,h2,_⟩:=Ki.1 h
 unfold XT YA
 refine qe (qn_ (by omega)) <| w_f (by rw [h]; rfl) ?_
 show (Tree.bind (zf N (IntKind.u64.wrap ((l.length:Nat):Int))) _).run some=_
 rw [jm (by omega)]
 exact qe (qcX (by omega)) <| qe ((Vf rfl).trans ((YQ _).trans (qD6 h2 (fun p hp=>qjh (h1 p hp)) (VL (by omega)).2))) <| qk rfl <| qi rfl
def qFW (y:jo):Option (List qa×Int):=match y with
 | .inl _=>none
 | .inr z=>some (z.1,z.2.1)
theorem qwK {b : List UInt8} (hb : b.length ≤ 1000000000000) {m j k : Nat} (hm : m ≤ 60) (hj : j < m) (hk : k ≤ b.length) {l : List qa} (hl : l.length = j) :
    (Ql N b (m:Int) (l,(k:Int),(j:Int))).run some=some (match rdP (b.drop k) with
     | none=>.inr (.inl ())
     | some (p,n)=>.inl (l++[p],((k:Nat):Int) + ((n:Nat):Int),((j:Nat):Int) + 1)):=by
 have c0:qf ((m:Nat):Int):=by unfold qf; omega
 unfold Ql
 refine qk c0 <| w_t (dec_lt hj) ?_
 by_cases hlt:k < b.length
 ·have hd:=qsq (d:=(0:UInt8)) hlt
  have hg:zh b ((k:Nat):Int)=some (b.getD k 0):=Zn hlt
  generalize b.getD k 0=c at hd hg
  rw [hd,qi3]
  have t1:(((k:Nat):Int) + 1).toNat=k + 1:=by omega
  have c1:qf (((k:Nat):Int) + 1):=jY (by omega)
  have c2:0≤(((k:Nat):Int) + 1)∧(((k:Nat):Int) + 1)≤((b.length:Nat):Int):=by omega
  have cj:qf (((j:Nat):Int) + 1):=jY (by omega)
  have av:∀ p:qa,vq l.length l.length ((l++[p]).length) 40:=fun p=>⟨rfl,by rw [List.length_append,hl]; show (j + 1) * 40≤qN; unfold qN; omega⟩
  refine w_f (decide_eq_false (by show ¬ ((b.length:Nat):Int)≤((k:Nat):Int); omega)) <| qe hg ?_
  by_cases h1:1 < c.toNat
  ·rw [if_pos h1]
   exact w_t (decide_eq_true (by omega)) <| qi rfl
  rw [if_neg h1]
  refine w_f (decide_eq_false (by omega)) <| qe hg <| qk c1 ?_
  have hlen:(b.drop (k + 1)).length=b.length - (k + 1):=List.length_drop
  by_cases h0:c.toNat=0
  ·have d1:decide (((c.toNat:Nat):Int)=((1:Int)))=false:=decide_eq_false (by omega)
   rw [if_pos h0]
   have rd:Q4 N (b.drop ((((k:Nat):Int) + 1).toNat)) 200=some (Je 200 (b.drop (k + 1))):=by rw [t1]; exact qrU (most:=200) (by omega) (by omega)
   refine w_f d1 <| qk c2 <| qe rd ?_
   unfold Je
   cases ht:rdT 200 (b.drop (k + 1)) with
   | none=>exact w_t rfl <| qi rfl
   | some q=>
    obtain ⟨s,n⟩:=q
    have:=((qcr (most:=200) (by omega)).forth (b.drop (k + 1)) s n ht).2.1
    refine w_f rfl <| qk (show qf (((k:Nat):Int) + 1 + ((n:Nat):Int)) by unfold qf; omega) ?_
    rw [d1]
    refine qk (av _) <| qk cj <| qi ?_
    show some (Sum.inl (l++[qa.mk false 0 0 s],((k:Nat):Int) + 1 + ((n:Nat):Int),((j:Nat):Int) + 1))=some (Sum.inl (l++[qa.mk false 0 0 s],((k:Nat):Int) + ((n + 1:Nat):Int),((j:Nat):Int) + 1))
    rw [show ((k:Nat):Int) + 1 + ((n:Nat):Int)=((k:Nat):Int) + ((n + 1:Nat):Int) by omega]
  ·have d1:decide (((c.toNat:Nat):Int)=((1:Int)))=true:=decide_eq_true (by omega)
   rw [if_neg h0]
   have rd:zV N (b.drop ((((k:Nat):Int) + 1).toNat))=some (Jr (b.drop (k + 1))):=by rw [t1]; exact qcy (by omega)
   refine w_t d1 <| qk c2 <| qe rd ?_
   unfold Jr
   cases hf:rdN 0 0 (b.drop (k + 1)) with
   | none=>
    have rd2:zV N (b.drop ((((k:Nat):Int) + 1 + 0).toNat))=some (Jr (b.drop (k + 1))):=by rw [Int.add_zero,t1]; exact qcy (by omega)
    unfold Jr at rd2
    rw [hf] at rd2
    exact qk (show qf (((k:Nat):Int) + 1 + 0) by rw [Int.add_zero]; exact c1) <| qk (show 0≤(((k:Nat):Int) + 1 + 0)∧(((k:Nat):Int) + 1 + 0)≤((b.length:Nat):Int) by omega) <| qe rd2 <| qk (show qf (((k:Nat):Int) + 1 + 0 + 0) by rw [Int.add_zero,Int.add_zero]; exact c1) <| w_t rfl <| qi rfl
   | some p=>
    obtain ⟨f,n⟩:=p
    obtain ⟨_,n2,n3⟩:=Wz hf
    have hf64:=qhF hf
    have t2:(((k:Nat):Int) + 1 + ((n:Nat):Int)).toNat=k + 1 + n:=by omega
    have rd2:zV N (b.drop ((((k:Nat):Int) + 1 + ((n:Nat):Int)).toNat))=some (Jr ((b.drop (k + 1)).drop n)):=by rw [t2,List.drop_drop]; exact qcy (by rw [List.length_drop]; omega)
    rw [Option.bind_some]
    refine qk (show qf (((k:Nat):Int) + 1 + ((n:Nat):Int)) by unfold qf; omega) <| qk (show 0≤(((k:Nat):Int) + 1 + ((n:Nat):Int))∧(((k:Nat):Int) + 1 + ((n:Nat):Int))≤((b.length:Nat):Int) by omega) <| qe rd2 ?_
    show _=some (match ((rdN 0 0 ((b.drop (k + 1)).drop n)).bind fun q=>if f≤200∧q.1≤200 then some (qa.mk true (f:Int) (q.1:Int) [],1 + n + q.2) else none) with | none=>Sum.inr (Sum.inl ()) | some (p,n)=>Sum.inl (l++[p],((k:Nat):Int) + ((n:Nat):Int),((j:Nat):Int) + 1))
    unfold Jr
    cases h2:rdN 0 0 ((b.drop (k + 1)).drop n) with
    | none=>exact qk (show qf (((k:Nat):Int) + 1 + ((n:Nat):Int) + 0) by unfold qf; omega) <| w_f rfl <| w_t rfl <| qi rfl
    | some q=>
     obtain ⟨z,i⟩:=q
     obtain ⟨_,i2,i3⟩:=Wz h2
     rw [List.length_drop] at i3
     have hz64:=qhF h2
     rw [Option.bind_some]
     refine qk (show qf (((k:Nat):Int) + 1 + ((n:Nat):Int) + ((i:Nat):Int)) by unfold qf; omega) <| w_f rfl <| w_f rfl ?_
     by_cases hf2:f≤200
     ·refine w_f (decide_eq_false (by show ¬ (200:Int) < ((f:Nat):Int); omega)) ?_
      by_cases hz2:z≤200
      ·refine w_f (decide_eq_false (by show ¬ (200:Int) < ((z:Nat):Int); omega)) <| qk (show qf ((f:Nat):Int) by unfold qf; omega) <| qk (show qf ((z:Nat):Int) by unfold qf; omega) ?_
       rw [d1,if_pos ⟨hf2,hz2⟩]
       refine qk (av _) <| qk cj <| qi ?_
       show some (Sum.inl (l++[qa.mk true (f:Int) (z:Int) []],((k:Nat):Int) + 1 + ((n:Nat):Int) + ((i:Nat):Int),((j:Nat):Int) + 1))=some (Sum.inl (l++[qa.mk true (f:Int) (z:Int) []],((k:Nat):Int) + ((1 + n + i:Nat):Int),((j:Nat):Int) + 1))
       rw [show ((k:Nat):Int) + 1 + ((n:Nat):Int) + ((i:Nat):Int)=((k:Nat):Int) + ((1 + n + i:Nat):Int) by omega]
      ·rw [if_neg (fun h=>hz2 h.2)]
       exact w_t (decide_eq_true (by show (200:Int) < ((z:Nat):Int); omega)) <| qi rfl
     ·rw [if_neg (fun h=>hf2 h.1)]
      exact w_t (decide_eq_true (by show (200:Int) < ((f:Nat):Int); omega)) <| qi rfl
 ·have hd:b.drop k=[]:=List.drop_eq_nil_of_le (by omega)
  rw [hd]
  exact w_t (decide_eq_true (by show ((b.length:Nat):Int)≤((k:Nat):Int); omega)) <| qi rfl
theorem qEd {b:List UInt8} (hb:b.length≤1000000000000) {m u:Nat} (hm:m≤60) (hu:u≤b.length):∃ y,WB N b (m:Int) [] (u:Int) 0=some y∧qFW y=(rdM rdP m (b.drop u)).map fun p=>(p.1,((u + p.2:Nat):Int)):=by
 refine qcj (B:=Ql N b (m:Int)) (g:=some) (I:=fun v=>∃ (j k:Nat) (l:List qa),v=(l,(k:Int),(j:Int))∧j≤m∧l.length=j∧k≤b.length∧(rdM rdP (m - j) (b.drop k)).map (fun p=>(l++p.1,((k + p.2:Nat):Int)))=(rdM rdP m (b.drop u)).map fun p=>(p.1,((u + p.2:Nat):Int))) (fun v=>m - v.2.2.toNat) ?_ N _
  ⟨0,u,[],rfl,Nat.zero_le _,rfl,hu,rfl⟩ (by have:=big N; simp; omega)
 rintro v ⟨j,k,l,rfl,hj,hl,hk,hr⟩
 by_cases h:j < m
 ·obtain ⟨m',hm'⟩:∃ m',m - j=m' + 1:=⟨m - j - 1,by omega⟩
  rw [hm'] at hr
  have hb1:=qwK (N:=N) hb hm h hk hl
  cases hq:rdP (b.drop k) with
  | none=>
   rw [hq] at hb1
   right
   have e:rdM rdP (m' + 1) (b.drop k)=none:=by unfold rdM; rw [hq]; rfl
   rw [e] at hr
   exact ⟨_,_,hb1,by rfl,by rw [← hr]; rfl⟩
  | some q=>
   obtain ⟨p,n⟩:=q
   rw [hq] at hb1
   have hn:=(qaS.forth _ p n hq).2.1
   rw [List.length_drop] at hn
   left
   have e:rdM rdP (m' + 1) (b.drop k)=(rdM rdP m' ((b.drop k).drop n)).map fun q=>(p::q.1,n + q.2):=by
    show (rdP (b.drop k)).bind _=_
    rw [hq]; rfl
   rw [e,List.drop_drop] at hr
   refine ⟨(l++[p],((k + n:Nat):Int),((j + 1:Nat):Int)),hb1,⟨j + 1,k + n,l++[p],rfl,h,by rw [List.length_append,hl]; rfl,by omega,?_⟩,?_⟩
   ·rw [show m - (j + 1)=m' by omega,← hr,Option.map_map]
    congr 1
    funext q
    show (l++[p]++q.1,((k + n + q.2:Nat):Int))=(l++(p::q.1),((k + (n + q.2):Nat):Int))
    rw [List.append_assoc,Nat.add_assoc]; rfl
   ·show m - ((j + 1:Nat):Int).toNat < m - ((j:Nat):Int).toNat
    omega
 ·obtain rfl:j=m:=by omega
  right
  rw [Nat.sub_self] at hr
  have c0:qf ((j:Nat):Int):=by unfold qf; omega
  exact ⟨_,_,by unfold Ql; exact qk c0 <| w_f (ju (Nat.lt_irrefl _)) (qi rfl),by rfl,by rw [← hr]; show some (l,((k:Nat):Int))=some (l++[],((k + 0:Nat):Int)); rw [List.append_nil,Nat.add_zero]⟩
theorem qCA {b:List UInt8} (hb:b.length≤1000000000000):X2 N b=some (Qb b):=by
 have hN:=big N
 unfold X2 YS Qb rdD
 refine qe (qcy (N:=N) (by omega)) ?_
 unfold Jr
 cases hr:rdN 0 0 b with
 | none=>exact w_t rfl <| qi rfl
 | some p=>
  obtain ⟨m,u⟩:=p
  obtain ⟨_,_,u3⟩:=Wz hr
  rw [Option.bind_some]
  by_cases hm:m≤60
  ·obtain ⟨y,ey,hy⟩:=qEd (N:=N) hb hm u3
   show _=some (match (if m≤60 then (rdM rdP m (b.drop u)).bind fun q=>if jj q.1=true then some (q.1,u + q.2) else none else none) with | some (l,n)=>(l,(n:Int),true) | none=>([],0,false))
   rw [if_pos hm]
   refine w_f rfl <| w_f (decide_eq_false (by show ¬ (60:Int) < (m:Int); omega)) <| qe ((Vf rfl).trans ((YQ _).trans ey)) ?_
   cases hq:rdM rdP m (b.drop u) with
   | none=>
    rw [hq] at hy
    cases y with
    | inl z=>exact w_l rfl <| qi rfl
    | inr z=>cases hy
   | some q=>
    obtain ⟨l,k⟩:=q
    rw [hq] at hy
    cases y with
    | inl z=>cases hy
    | inr z=>
     obtain ⟨z1,z2,z3⟩:=z
     have hz:(z1,z2)=(l,((u + k:Nat):Int)):=Option.some.inj hy
     obtain ⟨rfl,rfl⟩:=Prod.mk.inj hz
     have hlen:=((qcp qaS m).forth _ z1 k hq).1.1
     rw [Option.bind_some]
     refine w_r rfl <| qk rfl <| qe (qn_ (l:=z1) (by omega)) ?_
     show _=some (match (if jj z1=true then some (z1,u + k) else none) with | some (l,n)=>(l,(n:Int),true) | none=>([],0,false))
     cases jj z1 with
     | false=>exact w_t rfl <| qi rfl
     | true=>exact w_f rfl <| qk rfl <| qi rfl
  ·show _=some (match (if m≤60 then (rdM rdP m (b.drop u)).bind fun q=>if jj q.1=true then some (q.1,u + q.2) else none else none) with | some (l,n)=>(l,(n:Int),true) | none=>([],0,false))
   rw [if_neg hm]
   exact w_f rfl <| w_t (decide_eq_true (by show (60:Int) < (m:Int); omega)) <| qi rfl
end
end Go.Rx
end
set_option maxRecDepth 100000
noncomputable section
namespace Go.Rx
open Go.Proofs
abbrev zn (a:Int):UInt8:=UInt8.ofNat a.toNat
def opT (o:qb):List UInt8:=if o.Kind=1 then zn o.No::ZO o.V else if o.Kind=2 then zn o.No::(o.zi.toList++(zn o.zk::o.D.toList)) else if o.Kind=3 then zn o.No::(jV o.P++o.D.toList) else []
def opW (o:qb):List UInt8:=zn o.Kind::(o.ID.toList++(jB o.S++opT o))
theorem qnd {l:List qa} (h:jj l=true):(jV l).length≤12670:=by
 obtain ⟨h1,h2,_⟩:=Ki.1 h
 have h3:=qoX (l:=l) fun p hp=>qjh (h1 p hp)
 have h4:=(VL (x:=l.length) (by omega)).2
 unfold jV
 rw [List.length_append]; omega
theorem qpe {s:qd} (h:stB s=true):1≤(jB s).length∧(jB s).length≤10:=VL (qiE h)
theorem qmL {a:Int} (h0:0≤a) (h1:a < 256):IntKind.u8.wrap a=a:=by
 have:IntKind.u8.wrap a=a % 256:=by simp [IntKind.wrap,IntKind.bits,IntKind.signed]
 rw [this]; omega
section
variable {N:Nat} [JV N]
theorem qqF {a:List (List UInt8)} {r:List UInt8} (h5:a.length≤10) (h:a.flatten=r) (hr:r.length≤1000000):zF N a=some r:=by
 have:=big N
 rw [← h]
 exact qr2 (by omega) (by rw [← qlc,h]; omega) (by omega)
theorem qE2 {o:qb} (hl:(qb.P o).length < N) (hl2:(qb.P o).length≤1000000000000000):qlg N o=some (if opB o=true then (opW o,true) else ([],false)):=by
 unfold qlg qoz
 refine qe (qnY hl hl2) ?_
 cases h:opB o with
 | false=>exact w_t rfl <| qi rfl
 | true=>
  obtain ⟨hk,_,_,hs,hn,hf,hv,hp⟩:=qd9.1 h
  have l1:=(qpe hs).2
  have eID:(o.ID:Vector UInt8 16).toList.length=16:=Vector.length_toList
  have eFr:(o.zi:Vector UInt8 16).toList.length=16:=Vector.length_toList
  have eD:(o.D:Vector UInt8 32).toList.length=32:=Vector.length_toList
  have kb:[UInt8.ofNat (IntKind.u8.wrap (qb.Kind o)).toNat]=[zn o.Kind]:=by rw [qmL hk.1 (by omega)]
  have nb:[UInt8.ofNat (IntKind.u8.wrap (qb.No o)).toNat]=[zn o.No]:=by rw [qmL hn.1 (by omega)]
  have fb:[UInt8.ofNat (IntKind.u8.wrap (qb.zk o)).toNat]=[zn o.zk]:=by rw [qmL hf.1 (by omega)]
  have s1:qdf N (qb.S o)=some (jB o.S,true):=by rw [qET,if_pos hs]
  refine w_f rfl <| qe s1 <| qk (Zv _) <| qe (x:=zn o.Kind::(o.ID.toList++jB o.S)) ?_ ?_
  ·rw [kb]
   exact qqF (by simp) (by simp) (by rw [List.length_cons,List.length_append]; omega)
  ·unfold opW opT
   refine zl rfl (fun h1=>?_) fun h1=>?_
   ·have lt:=qfz (s:=o.V) (by omega)
    rw [if_pos (of_decide_eq_true h1)]
    refine qk (Zv _) <| qe (quq (by show o.V.length≤_; omega)) <| qe (qqF (r:=zn o.Kind::(o.ID.toList++(jB o.S++zn o.No::ZO o.V))) (by simp) ?_ ?_) <| qi rfl
    ·rw [nb]; simp
    ·simp only [List.length_cons,List.length_append]; omega
   rw [if_neg (of_decide_eq_false h1)]
   refine zl rfl (fun h2=>?_) fun h2=>?_
   ·rw [if_pos (of_decide_eq_true h2)]
    refine qk (Zv _) <| qk (Zv _) <| qe (qqF (r:=zn o.Kind::(o.ID.toList++(jB o.S++zn o.No::(o.zi.toList++zn o.zk::o.D.toList)))) (by simp) ?_ ?_) <| qi rfl
    ·rw [nb,fb]; simp
    ·simp only [List.length_cons,List.length_append]; omega
   rw [if_neg (of_decide_eq_false h2)]
   refine zl rfl (fun h3=>?_) fun h3=>?_
   ·have lp:=qnd hp
    rw [if_pos (of_decide_eq_true h3)]
    refine qe (show qc0 N (qb.P o)=some (jV o.P,true) by rw [qEF hl hl2,if_pos hp]) <| qk (Zv _) <| qe (qqF (r:=zn o.Kind::(o.ID.toList++(jB o.S++zn o.No::(jV o.P++o.D.toList)))) (by simp) ?_ ?_) <| qi rfl
    ·rw [nb]; simp
    ·simp only [List.length_cons,List.length_append]; omega
   rw [if_neg (of_decide_eq_false h3)]
   exact qi (by rw [List.append_nil]; rfl)
abbrev zO:qb:=qb.mk 0 zI zSt 0 [] [] zI 0 zD
def qcm (b:List UInt8) (s:RdS) (o:qb):qb×Int×Bool:=if s.2=false∧opB o=true then (o,((b.length:Nat):Int) - ((s.1.length:Nat):Int),true) else (zO,0,false)
def qFr (N:Nat) (b:List UInt8) (s:RdS) (o:qb):Tree (qb×Int×Bool):=
 .cond (qj.bad s) (.ret (zO,0,false)) <| .bind (J_ N o) fun r=>.cond (!r) (.ret (zO,0,false)) <| .chk (qf (((b.length:Nat):Int) - (((qj.b s).length:Nat):Int))) <| .ret (o,((b.length:Nat):Int) - (((qj.b s).length:Nat):Int),true)
theorem qmu {b:List UInt8} {s:RdS} {o:qb} (hb:b.length≤1000000000000) (hs:s.1.length≤b.length) (hl:(qb.P o).length < N) (hl2:(qb.P o).length≤1000000000000000):(qFr N b s o).run some=some (qcm b s o):=by
 obtain ⟨r,bad⟩:=s
 have hs:r.length≤b.length:=hs
 unfold qFr qcm
 cases bad with
 | true=>exact w_t rfl <| qi (by rw [if_neg (fun h=>by cases h.1)])
 | false=>
  refine w_f rfl <| qe (qnY hl hl2) ?_
  cases h:opB o with
  | false=>exact w_t rfl <| qi (by rw [if_neg (fun h=>by cases h.2)])
  | true=>exact w_f rfl <| qk (show qf (((b.length:Nat):Int) - ((r.length:Nat):Int)) by unfold qf; omega) <| qi (by rw [if_pos ⟨rfl,rfl⟩]; rfl)
abbrev skI (s:RdS) (r:Int×Bool):RdS×List UInt8:=sk s r.1.toNat r.2
def qyY (b:List UInt8) (k:Int) (id:Vector UInt8 16) (S:qd) (no:Int) (s:RdS):qb×Int×Bool:=
 if k=1 then qcm b (skI s (Je 200 s.1).2).1 (qb.mk k id S no (Je 200 s.1).1 [] zI 0 zD)
 else if k=2 then qcm b (sk (sk (sk s 16 true).1 1 true).1 32 true).1 (qb.mk k id S no [] [] (jA 16 (sk s 16 true).2) ((XF (sk (sk s 16 true).1 1 true).2:Nat):Int) (jA 32 (sk (sk (sk s 16 true).1 1 true).1 32 true).2))
 else if k=3 then qcm b (sk (skI s (Qb s.1).2).1 32 true).1 (qb.mk k id S no [] (Qb s.1).1 zI 0 (jA 32 (sk (skI s (Qb s.1).2).1 32 true).2))
 else qcm b s (qb.mk k id S no [] [] zI 0 zD)
def qyy (b:List UInt8) (k:Int) (id:Vector UInt8 16) (S:qd) (s:RdS):qb×Int×Bool:=
 if k=0 then qcm b s (qb.mk k id S 0 [] [] zI 0 zD) else qyY b k id S ((XF (sk s 1 true).2:Nat):Int) (sk s 1 true).1
def opG (b:List UInt8):qb×Int×Bool:=
 qyy b ((XF (sk (b,false) 1 true).2:Nat):Int) (jA 16 (sk (sk (b,false) 1 true).1 16 true).2) (Za (sk (sk (b,false) 1 true).1 16 true).1.1).1 (skI (sk (sk (b,false) 1 true).1 16 true).1 (Za (sk (sk (b,false) 1 true).1 16 true).1.1).2).1
theorem qoe {s:RdS} (hs:s.1.length≤1000000000000) {r:Int×Bool} (h0:0≤r.1) (hn:r.1≤1000000000000):z_ s r.1 r.2=some (skI s r):=by
 obtain ⟨n,is⟩:=r
 obtain ⟨m,rfl⟩:∃ m:Nat,n=(m:Int):=⟨n.toNat,by have:0≤n:=h0; omega⟩
 have hn:(m:Int)≤1000000000000:=hn
 exact qmU hs (by omega) is
theorem qxM (b:List UInt8):0≤(Za b).2.1∧(Za b).2.1≤((b.length:Nat):Int):=by
 unfold Za
 cases h:rdS b with
 | none=>exact ⟨Int.le_refl _,by show (0:Int)≤_; omega⟩
 | some p=>have:=(qsI.forth b p.1 p.2 h).2.1; exact ⟨by show (0:Int)≤(p.2:Int); omega,by show (p.2:Int)≤_; omega⟩
theorem qxx (b:List UInt8):0≤(Je 200 b).2.1∧(Je 200 b).2.1≤((b.length:Nat):Int):=by
 unfold Je
 cases h:rdT 200 b with
 | none=>exact ⟨Int.le_refl _,by show (0:Int)≤_; omega⟩
 | some p=>have:=((qcr (most:=200) (by omega)).forth b p.1 p.2 h).2.1; exact ⟨by show (0:Int)≤(p.2:Int); omega,by show (p.2:Int)≤_; omega⟩
theorem qrh (b:List UInt8):(0≤(Qb b).2.1∧(Qb b).2.1≤((b.length:Nat):Int))∧(Qb b).1.length≤60:=by
 unfold Qb
 cases h:rdD b with
 | none=>exact ⟨⟨Int.le_refl _,by show (0:Int)≤_; omega⟩,Nat.zero_le _⟩
 | some p=>
  have:=qqt.forth b p.1 p.2 h
  have h2:=(Ki.1 this.1).2.1
  exact ⟨⟨by show (0:Int)≤(p.2:Int); omega,by show (p.2:Int)≤_; omega⟩,h2⟩
theorem qFf {b:List UInt8} (hb:b.length≤1000000000000):qpc N b=some (opG b):=by
 have hN:=big N
 have h1:=Z6 (b,false) 1 true
 have h1:(sk (b,false) 1 true).1.1.length≤b.length:=h1
 have h2:=Z6 (sk (b,false) 1 true).1 16 true
 unfold qpc qoO opG
 refine qe (qv1 (s:=(b,false)) hb) <| qe (qEr (s:=(sk (b,false) 1 true).1) (by omega)) ?_
 generalize hs2:(sk (sk (b,false) 1 true).1 16 true).1=s2 at h2
 generalize jA 16 (sk (sk (b,false) 1 true).1 16 true).2=id
 generalize ((XF (sk (b,false) 1 true).2:Nat):Int)=k
 have g3:=qxM s2.1
 have h4:(skI s2 (Za s2.1).2).1.1.length≤s2.1.length:=Z6 _ _ _
 refine qe (qFc (N:=N) (b:=s2.1) (by omega)) <| qe (qoe (s:=s2) (r:=(Za s2.1).2) (by omega) g3.1 (by omega)) ?_
 generalize (skI s2 (Za s2.1).2).1=s4 at h4
 generalize (Za s2.1).1=S
 unfold qyy
 refine zl (c:=!decide (k=0)) rfl (fun h0=>?_) fun h0=>?_
 ·rw [Bool.not_eq_true'] at h0
  rw [if_neg (of_decide_eq_false h0)]
  have h5:=Z6 s4 1 true
  refine qe (qv1 (s:=s4) (by omega)) ?_
  generalize (sk s4 1 true).1=s5 at h5
  generalize ((XF (sk s4 1 true).2:Nat):Int)=no
  unfold qyY
  refine zl rfl (fun hk=>?_) fun hk=>?_
  ·rw [if_pos (of_decide_eq_true hk)]
   have g:=qxx s5.1
   have h6:(skI s5 (Je 200 s5.1).2).1.1.length≤s5.1.length:=Z6 _ _ _
   exact qe (qt6 (N:=N) (most:=200) (b:=s5.1) (by omega) (by omega)) <| qe (qoe (s:=s5) (r:=(Je 200 s5.1).2) (by omega) g.1 (by omega)) <| qmu hb (by omega) (by show 0 < N; omega) (Nat.zero_le _)
  rw [if_neg (of_decide_eq_false hk)]
  refine zl rfl (fun hk=>?_) fun hk=>?_
  ·rw [if_pos (of_decide_eq_true hk)]
   have h6:=Z6 s5 16 true
   have h7:=Z6 (sk s5 16 true).1 1 true
   have h8:=Z6 (sk (sk s5 16 true).1 1 true).1 32 true
   exact qe (qEr (s:=s5) (by omega)) <| qe (qv1 (s:=(sk s5 16 true).1) (by omega)) <| qe (qsA (s:=(sk (sk s5 16 true).1 1 true).1) (by omega)) <| qmu (s:=(sk (sk (sk s5 16 true).1 1 true).1 32 true).1) hb (by omega) (by show 0 < N; omega) (Nat.zero_le _)
  rw [if_neg (of_decide_eq_false hk)]
  refine zl rfl (fun hk=>?_) fun hk=>?_
  ·rw [if_pos (of_decide_eq_true hk)]
   have g:=qrh s5.1
   have h6:(skI s5 (Qb s5.1).2).1.1.length≤s5.1.length:=Z6 _ _ _
   have h7:=Z6 (skI s5 (Qb s5.1).2).1 32 true
   exact qe (qEE (N:=N) (b:=s5.1) (by omega)) <| qe (qoe (s:=s5) (r:=(Qb s5.1).2) (by omega) g.1.1 (by omega)) <| qe (qsA (s:=(skI s5 (Qb s5.1).2).1) (by omega)) <| qmu (s:=(sk (skI s5 (Qb s5.1).2).1 32 true).1) hb (by omega) (by show (Qb s5.1).1.length < N; omega) (by show (Qb s5.1).1.length≤_; omega)
  rw [if_neg (of_decide_eq_false hk)]
  exact qmu hb (by omega) (by show 0 < N; omega) (Nat.zero_le _)
 ·rw [Bool.not_eq_false'] at h0
  have h0:=of_decide_eq_true h0
  rw [if_pos h0]
  exact w_f (decide_eq_false (by omega)) <| w_f (decide_eq_false (by omega)) <| w_f (decide_eq_false (by omega)) <| qmu hb (by omega) (by show 0 < N; omega) (Nat.zero_le _)
end
end Go.Rx
end
set_option maxRecDepth 100000
noncomputable section
namespace Go.Rx
open Go.Proofs
theorem qmY (c:UInt8):UInt8.ofNat (((c.toNat:Nat):Int)).toNat=c:=by rw [Int.toNat_natCast]; exact UInt8.ofNat_toNat
theorem u8_in (c:UInt8):inB ((c.toNat:Nat):Int):=by have:=c.toNat_lt; unfold inB; omega
theorem qu5 {n k:Nat} {s:List UInt8} (hk:k < s.length):(jA n (s.take k)).setIfInBounds k (s.getD k 0)=jA n (s.take (k + 1)):=by
 refine Vector.ext fun i hi=>?_
 unfold jA
 rw [Vector.getElem_setIfInBounds,Vector.getElem_ofFn,Vector.getElem_ofFn]
 show (if k=i then s.getD k 0 else (s.take k).getD i 0)=(s.take (k + 1)).getD i 0
 by_cases e:k=i
 ·subst e
  rw [if_pos rfl,List.getD_eq_getElem?_getD,List.getD_eq_getElem?_getD,List.getElem?_take_of_lt (by omega)]
 ·rw [if_neg e,List.getD_eq_getElem?_getD,List.getD_eq_getElem?_getD]
  by_cases h:i < k
  ·rw [List.getElem?_take_of_lt h,List.getElem?_take_of_lt (by omega)]
  ·rw [List.getElem?_eq_none (by rw [List.length_take]; omega),List.getElem?_eq_none (by rw [List.length_take]; omega)]
theorem qvy (n:Nat):jA n (([]:List UInt8))=Vector.replicate n 0:=by
 refine Vector.ext fun i hi=>?_
 unfold jA
 rw [Vector.getElem_ofFn,Vector.getElem_replicate]; rfl
theorem qcn {s:RdS} {n:Nat} (hn:n≤1000000000000):qS s (n:Int)=some (sk s n true):=by
 obtain ⟨b,bad⟩:=s
 have hm:qbd ((n:Nat):Int) ((n:Nat):Int) 1:=⟨rfl,by omega,by unfold qN; omega⟩
 unfold qS JL sk
 cases bad with
 | true=>
  rw [if_neg (fun h=>by cases h.1)]
  exact w_t rfl <| qk hm <| qk rfl <| qi rfl
 | false=>
  refine w_f rfl ?_
  by_cases h:b.length < n
  ·rw [if_neg (fun h'=>by have:n≤b.length:=h'.2.2; omega)]
   exact w_t (decide_eq_true (by show ((b.length:Nat):Int) < _; omega)) <| qk hm <| qk rfl <| qi rfl
  ·rw [if_pos ⟨rfl,rfl,by show n≤b.length; omega⟩]
   exact w_f (decide_eq_false (by show ¬ ((b.length:Nat):Int) < _; omega)) <| qk ⟨Int.le_refl _,by omega,by show ((n:Nat):Int)≤((b.length:Nat):Int); omega⟩ <| qk ⟨by omega,by show ((n:Nat):Int)≤((b.length:Nat):Int); omega⟩ <| qi rfl
theorem qEk {b:List UInt8} {bad is:Bool} {n:Nat}:sk (b,bad||!is) n true=sk (b,bad) n is:=by
 unfold sk
 cases bad<;>cases is<;>simp
theorem qrx {s:RdS} {r:Int×Bool} (h0:0≤r.1) (hn:r.1≤1000000000000):(s.2=true→qS (qc.mk (qc.b s) true) r.1=some (skI s r))∧(s.2=false→qS (qc.mk (qc.b s) (!r.2)) r.1=some (skI s r)):=by
 obtain ⟨b,bad⟩:=s
 obtain ⟨n,is⟩:=r
 obtain ⟨m,rfl⟩:∃ m:Nat,n=(m:Int):=⟨n.toNat,by have:0≤n:=h0; omega⟩
 have hn:(m:Int)≤1000000000000:=hn
 constructor
 ·intro h
  have h:bad=true:=h
  subst h
  refine (qcn (s:=(b,true)) (by omega)).trans (congrArg some ?_)
  exact qEk (bad:=true) (is:=is)
 ·intro h
  have h:bad=false:=h
  subst h
  refine (qcn (s:=(b,!is)) (by omega)).trans (congrArg some ?_)
  exact qEk (bad:=false) (is:=is)
section
variable {N:Nat} [JV N]
theorem qxs (v:Vector UInt8 16):Vk N v=some v.toList:=by
 have hN:=big N
 have hl:v.toList.length=16:=Vector.length_toList
 have key:Vg N v [] 0=some (v.toList,(16:Int),false):=by
  have e0:Vg N v [] 0=zj (QR N v) some N (v.toList.take 0,((0:Nat):Int)):=rfl
  refine e0.trans (ZX (σ:=Unit) (B:=QR N v) (g:=some) (at_:=fun k _=>(v.toList.take k,(k:Int))) (I:=fun _ _=>True) (f:=fun _ s=>s) (n:=16)
   (fin:=fun _=>(v.toList,(16:Int),false)) (fun k s hk _=>⟨?_,trivial⟩) (fun s _=>?_) N 0 () trivial (Nat.zero_le _) (by omega))
  ·unfold QR
   refine w_t (decide_eq_true (by show ((k:Nat):Int) < 16; omega)) <| qk (show 0≤((k:Nat):Int)∧((k:Nat):Int) < ((16:Nat):Int) by omega) <| qk (show (((k:Nat):Int)).toNat < 16 by omega) <| qk (u8_in _) <| qk ⟨rfl,by show (v.toList.take k++_).length * 1≤qN; rw [List.length_append,List.length_take]; unfold qN; simp; omega⟩ <| qk (jY (by omega)) <| qi ?_
   show some (Sum.inl (v.toList.take k++[UInt8.ofNat (((v.toList.getD k 0).toNat:Nat):Int).toNat],((k:Nat):Int) + 1))=_
   rw [qmY,jN,qau (d:=(0:UInt8)) (by omega)]
  ·unfold QR
   exact w_f rfl (qi (by rw [List.take_of_length_le (by omega)]; rfl))
 unfold Vk Kt
 exact qe ((Vf rfl).trans ((YQ _).trans key)) <| qk rfl <| qi rfl
theorem qno (v:Vector UInt8 32):Zk N v=some v.toList:=by
 have hN:=big N
 have hl:v.toList.length=32:=Vector.length_toList
 have key:ZJ N v [] 0=some (v.toList,(32:Int),false):=by
  have e0:ZJ N v [] 0=zj (vd N v) some N (v.toList.take 0,((0:Nat):Int)):=rfl
  refine e0.trans (ZX (σ:=Unit) (B:=vd N v) (g:=some) (at_:=fun k _=>(v.toList.take k,(k:Int))) (I:=fun _ _=>True) (f:=fun _ s=>s) (n:=32)
   (fin:=fun _=>(v.toList,(32:Int),false)) (fun k s hk _=>⟨?_,trivial⟩) (fun s _=>?_) N 0 () trivial (Nat.zero_le _) (by omega))
  ·unfold vd
   refine w_t (decide_eq_true (by show ((k:Nat):Int) < 32; omega)) <| qk (show 0≤((k:Nat):Int)∧((k:Nat):Int) < ((32:Nat):Int) by omega) <| qk (show (((k:Nat):Int)).toNat < 32 by omega) <| qk (u8_in _) <| qk ⟨rfl,by show (v.toList.take k++_).length * 1≤qN; rw [List.length_append,List.length_take]; unfold qN; simp; omega⟩ <| qk (jY (by omega)) <| qi ?_
   show some (Sum.inl (v.toList.take k++[UInt8.ofNat (((v.toList.getD k 0).toNat:Nat):Int).toNat],((k:Nat):Int) + 1))=_
   rw [qmY,jN,qau (d:=(0:UInt8)) (by omega)]
  ·unfold vd
   exact w_f rfl (qi (by rw [List.take_of_length_le (by omega)]; rfl))
 unfold Zk Xu
 exact qe ((Vf rfl).trans ((YQ _).trans key)) <| qk rfl <| qi rfl
theorem qx3 {s:RdS}:QY N s=some ((sk s 16 true).1,jA 16 (sk s 16 true).2):=by
 have hN:=big N
 have hl:=qdm s 16 true
 unfold QY Vx
 refine qe (qcn (n:=16) (by omega)) ?_
 generalize sk s 16 true=z at *
 have key:Zh N z.1 (Vector.replicate 16 0) z.2 (Vector.replicate 16 0) 0=some (jA 16 z.2,(16:Int),false):=by
  have e0:Zh N z.1 (Vector.replicate 16 0) z.2 (Vector.replicate 16 0) 0=zj (jR N z.1 (Vector.replicate 16 0) z.2) some N (jA 16 (z.2.take 0),((0:Nat):Int)):=by rw [List.take_zero,qvy]; rfl
  refine e0.trans (ZX (σ:=Unit) (B:=jR N z.1 (Vector.replicate 16 0) z.2) (g:=some) (at_:=fun k _=>(jA 16 (z.2.take k),(k:Int))) (I:=fun _ _=>True) (f:=fun _ s=>s) (n:=16)
   (fin:=fun _=>(jA 16 z.2,(16:Int),false)) (fun k s hk _=>⟨?_,trivial⟩) (fun s _=>?_) N 0 () trivial (Nat.zero_le _) (by omega))
  ·unfold jR
   refine w_t (decide_eq_true (by show ((k:Nat):Int) < 16; omega)) <| qe (Zn (d:=(0:UInt8)) (by omega)) <| qk (show 0≤((k:Nat):Int)∧((k:Nat):Int) < ((16:Nat):Int) by omega) <| qk (u8_in _) <| qk (show (((k:Nat):Int)).toNat < 16 by omega) <| qk (jY (by omega)) <| qi ?_
   show some (Sum.inl ((jA 16 (z.2.take k)).setIfInBounds k (UInt8.ofNat (((z.2.getD k 0).toNat:Nat):Int).toNat),((k:Nat):Int) + 1))=_
   rw [qmY,jN,qu5 (by omega)]
  ·unfold jR
   exact w_f rfl (qi (by rw [List.take_of_length_le (by omega)]; rfl))
 exact qe key <| qi rfl
theorem qnc {s:RdS}:zo N s=some ((sk s 32 true).1,jA 32 (sk s 32 true).2):=by
 have hN:=big N
 have hl:=qdm s 32 true
 unfold zo Jl
 refine qe (qcn (n:=32) (by omega)) ?_
 generalize sk s 32 true=z at *
 have key:vH N z.1 (Vector.replicate 32 0) z.2 (Vector.replicate 32 0) 0=some (jA 32 z.2,(32:Int),false):=by
  have e0:vH N z.1 (Vector.replicate 32 0) z.2 (Vector.replicate 32 0) 0=zj (je N z.1 (Vector.replicate 32 0) z.2) some N (jA 32 (z.2.take 0),((0:Nat):Int)):=by rw [List.take_zero,qvy]; rfl
  refine e0.trans (ZX (σ:=Unit) (B:=je N z.1 (Vector.replicate 32 0) z.2) (g:=some) (at_:=fun k _=>(jA 32 (z.2.take k),(k:Int))) (I:=fun _ _=>True) (f:=fun _ s=>s) (n:=32)
   (fin:=fun _=>(jA 32 z.2,(32:Int),false)) (fun k s hk _=>⟨?_,trivial⟩) (fun s _=>?_) N 0 () trivial (Nat.zero_le _) (by omega))
  ·unfold je
   refine w_t (decide_eq_true (by show ((k:Nat):Int) < 32; omega)) <| qe (Zn (d:=(0:UInt8)) (by omega)) <| qk (show 0≤((k:Nat):Int)∧((k:Nat):Int) < ((32:Nat):Int) by omega) <| qk (u8_in _) <| qk (show (((k:Nat):Int)).toNat < 32 by omega) <| qk (jY (by omega)) <| qi ?_
   show some (Sum.inl ((jA 32 (z.2.take k)).setIfInBounds k (UInt8.ofNat (((z.2.getD k 0).toNat:Nat):Int).toNat),((k:Nat):Int) + 1))=_
   rw [qmY,jN,qu5 (by omega)]
  ·unfold je
   exact w_f rfl (qi (by rw [List.take_of_length_le (by omega)]; rfl))
 exact qe key <| qi rfl
theorem qCR {s:qd} (h:stB s=true):XX N s=some (jB s,true):=by
 have hx:=qiE h
 have hb:=qlz h
 unfold XX YF
 refine qe (qqY s) <| w_f (by rw [h]; rfl) ?_
 have e:(8:Int) * s.1 + s.2=((VZ s:Nat):Int):=by unfold VZ; omega
 have c1:qf ((8:Int) * s.1):=by unfold qf; omega
 have c2:qf ((8:Int) * s.1 + s.2):=by unfold qf; omega
 refine qk c1 <| qk c2 ?_
 show (Tree.bind (zf N (IntKind.u64.wrap ((8:Int) * s.1 + s.2))) _).run some=_
 rw [e,jm hx]
 exact qe (qcX hx) <| qk rfl <| qi rfl
end
end Go.Rx
end
set_option maxRecDepth 100000
noncomputable section
namespace Go.Rx
open Go.Proofs
theorem qAN {n:Nat} {p:List UInt8} (h:p.length=n):(jA n p).toList=p:=by
 apply List.ext_getElem
 ·rw [Vector.length_toList,h]
 ·intro i h1 h2
  rw [Vector.getElem_toList]
  unfold jA
  rw [Vector.getElem_ofFn,List.getD_eq_getElem?_getD,List.getElem?_eq_getElem h2]; rfl
theorem qFl {p:List UInt8} (h:p.length=1):p=[zn ((XF p:Nat):Int)]:=by
 match p,h with
 | [c],_=>show [c]=[UInt8.ofNat ((c.toNat:Nat):Int).toNat]; rw [Int.toNat_natCast,UInt8.ofNat_toNat]
theorem qhp {s:RdS} {n:Nat} {is:Bool} (h:(sk s n is).1.2=false):s.2=false∧is=true∧n≤s.1.length∧(sk s n is).2=s.1.take n∧s.1=(sk s n is).2++(sk s n is).1.1:=by
 unfold sk at h ⊢
 split
 ·rename_i hc
  exact ⟨hc.1,hc.2.1,hc.2.2,rfl,(List.take_append_drop _ _).symm⟩
 ·rename_i hc
  rw [if_neg hc] at h; cases h
theorem qqC {s:RdS} (h:(sk s 1 true).1.2=false):s.2=false∧s.1=zn ((XF (sk s 1 true).2:Nat):Int)::(sk s 1 true).1.1:=by
 obtain ⟨h1,_,_,_,h2⟩:=qhp h
 refine ⟨h1,?_⟩
 rw [qFl (qdm s 1 true)] at h2
 exact h2
theorem qyA {s:RdS} {n:Nat} (h:(sk s n true).1.2=false):s.2=false∧s.1=(jA n (sk s n true).2).toList++(sk s n true).1.1:=by
 obtain ⟨h1,_,_,_,h2⟩:=qhp h
 exact ⟨h1,by rw [qAN (qdm s n true)]; exact h2⟩
theorem qGs {s:RdS} (h:(skI s (Za s.1).2).1.2=false):s.2=false∧s.1=jB (Za s.1).1++(skI s (Za s.1).2).1.1:=by
 obtain ⟨h1,h2,_,h3,h4⟩:=qhp h
 refine ⟨h1,?_⟩
 have:jB (Za s.1).1=(skI s (Za s.1).2).2:=by
  rw [h3]
  unfold Za at h2 ⊢
  cases e:rdS s.1 with
  | none=>rw [e] at h2; cases h2
  | some p=>exact (qsI.forth s.1 p.1 p.2 e).2.2.symm
 rw [this]; exact h4
theorem qGq {s:RdS} (h:(skI s (Je 200 s.1).2).1.2=false):s.2=false∧s.1=ZO (Je 200 s.1).1++(skI s (Je 200 s.1).2).1.1:=by
 obtain ⟨h1,h2,_,h3,h4⟩:=qhp h
 refine ⟨h1,?_⟩
 have:ZO (Je 200 s.1).1=(skI s (Je 200 s.1).2).2:=by
  rw [h3]
  unfold Je at h2 ⊢
  cases e:rdT 200 s.1 with
  | none=>rw [e] at h2; cases h2
  | some p=>exact ((qcr (most:=200) (by omega)).forth s.1 p.1 p.2 e).2.2.symm
 rw [this]; exact h4
theorem qGg {s:RdS} (h:(skI s (Qb s.1).2).1.2=false):s.2=false∧s.1=jV (Qb s.1).1++(skI s (Qb s.1).2).1.1:=by
 obtain ⟨h1,h2,_,h3,h4⟩:=qhp h
 refine ⟨h1,?_⟩
 have:jV (Qb s.1).1=(skI s (Qb s.1).2).2:=by
  rw [h3]
  unfold Qb at h2 ⊢
  cases e:rdD s.1 with
  | none=>rw [e] at h2; cases h2
  | some p=>exact (qqt.forth s.1 p.1 p.2 e).2.2.symm
 rw [this]; exact h4
theorem qEA {b r:List UInt8} {o:qb} (h:opB o=true) (hb:b=opW o++r):qcm b (r,false) o=(o,(((opW o).length:Nat):Int),true):=by
 unfold qcm
 rw [if_pos ⟨rfl,h⟩,hb,List.length_append]
 refine Prod.ext rfl (Prod.ext ?_ rfl)
 show (((opW o).length + r.length:Nat):Int) - ((r.length:Nat):Int)=(((opW o).length:Nat):Int)
 omega
theorem qF5 {o:qb} (h:o.Kind=0):opT o=[]:=by
 unfold opT
 rw [if_neg (by omega),if_neg (by omega),if_neg (by omega)]
theorem qGe {o:qb} (h:o.Kind=1):opT o=zn o.No::ZO o.V:=if_pos h
theorem qF8 {o:qb} (h:o.Kind=2):opT o=zn o.No::(o.zi.toList++(zn o.zk::o.D.toList)):=by
 unfold opT
 rw [if_neg (by omega),if_pos h]
theorem qF3 {o:qb} (h:o.Kind=3):opT o=zn o.No::(jV o.P++o.D.toList):=by
 unfold opT
 rw [if_neg (by omega),if_neg (by omega),if_pos h]
def qEt (b:List UInt8) (x:qb×Int×Bool):Prop:=x=(zO,0,false)∨∃ o r,x=(o,(((opW o).length:Nat):Int),true)∧opB o=true∧b=opW o++r
theorem qhz {b:List UInt8} {s:RdS} {o:qb} (h:s.2=false→opB o=true→b=opW o++s.1):qEt b (qcm b s o):=by
 by_cases hc:s.2=false∧opB o=true
 ·right
  have hb:=h hc.1 hc.2
  obtain ⟨r,bad⟩:=s
  obtain rfl:bad=false:=hc.1
  exact ⟨o,r,qEA hc.2 hb,hc.2,hb⟩
 ·left
  unfold qcm
  rw [if_neg hc]
theorem qFq (b:List UInt8):qEt b (opG b):=by
 unfold opG
 have front : (skI (sk (sk (b, false) 1 true).1 16 true).1 (Za (sk (sk (b, false) 1 true).1 16 true).1.1).2).1.2 = false →
     b=zn ((XF (sk (b,false) 1 true).2:Nat):Int)::((jA 16 (sk (sk (b,false) 1 true).1 16 true).2).toList++(jB (Za (sk (sk (b,false) 1 true).1 16 true).1.1).1++(skI (sk (sk (b,false) 1 true).1 16 true).1 (Za (sk (sk (b,false) 1 true).1 16 true).1.1).2).1.1)):=fun h=>by
  obtain ⟨h1,h2⟩:=qGs h
  obtain ⟨h3,h4⟩:=qyA h1
  obtain ⟨_,h5⟩:=qqC h3
  rw [h2] at h4
  rw [h4] at h5
  exact h5
 generalize ((XF (sk (b,false) 1 true).2:Nat):Int)=k at front
 generalize jA 16 (sk (sk (b,false) 1 true).1 16 true).2=id at front
 generalize (Za (sk (sk (b,false) 1 true).1 16 true).1.1).1=S at front
 generalize (skI (sk (sk (b,false) 1 true).1 16 true).1 (Za (sk (sk (b,false) 1 true).1 16 true).1.1).2).1=s4 at front
 have whole:∀ (o:qb) (r:List UInt8),s4.2=false→o.Kind=k→o.ID=id→o.S=S→s4.1=opT o++r→b=opW o++r:=fun o r h0 h1 h2 h3 h4=>by
  rw [front h0,h4]
  unfold opW
  rw [h1,h2,h3]; simp
 unfold qyy
 split
 ·rename_i h0
  exact qhz fun hs _=>whole _ _ hs rfl rfl rfl (by rw [qF5 (show qb.Kind (qb.mk k id S _ _ _ _ _ _)=0 from h0)]; rfl)
 rename_i h0
 unfold qyY
 split
 ·rename_i h1
  exact qhz fun hs _=>by
   obtain ⟨t1,t2⟩:=qGq hs
   obtain ⟨t3,t4⟩:=qqC t1
   refine whole _ _ t3 rfl rfl rfl ?_
   rw [qGe (show qb.Kind (qb.mk k id S _ _ _ _ _ _)=1 from h1),t4,List.cons_append]
   exact congrArg _ t2
 split
 ·rename_i h1 h2
  exact qhz fun hs _=>by
   obtain ⟨t1,t2⟩:=qyA hs
   obtain ⟨t3,t4⟩:=qqC t1
   obtain ⟨t5,t6⟩:=qyA t3
   obtain ⟨t7,t8⟩:=qqC t5
   refine whole _ _ t7 rfl rfl rfl ?_
   rw [qF8 (show qb.Kind (qb.mk k id S _ _ _ _ _ _)=2 from h2),t8,List.cons_append]
   refine congrArg _ (t6.trans ?_)
   rw [List.append_assoc,List.cons_append]
   refine congrArg _ (t4.trans ?_)
   exact congrArg _ t2
 split
 ·rename_i h1 h2 h3
  exact qhz fun hs _=>by
   obtain ⟨t1,t2⟩:=qyA hs
   obtain ⟨t3,t4⟩:=qGg t1
   obtain ⟨t5,t6⟩:=qqC t3
   refine whole _ _ t5 rfl rfl rfl ?_
   rw [qF3 (show qb.Kind (qb.mk k id S _ _ _ _ _ _)=3 from h3),t6,List.cons_append]
   refine congrArg _ (t4.trans ?_)
   rw [List.append_assoc]
   exact congrArg _ t2
 ·rename_i h1 h2 h3
  exact qhz fun _ ho=>by
   have:=(qd9.1 ho).1
   have hk:0≤k∧k < 4:=this
   omega
end Go.Rx
end
set_option maxRecDepth 100000
noncomputable section
namespace Go.Rx
open Go.Proofs
section
variable {N:Nat} [JV N]
theorem qq0 {s:RdS}:zh (sk s 1 true).2 (0:Int)=some ((sk s 1 true).2.getD 0 0):=by
 have h:=qdm s 1 true
 exact Zn (d:=(0:UInt8)) (k:=0) (by omega)
theorem qzn (c:UInt8):qf ((c.toNat:Nat):Int):=by have:=c.toNat_lt; unfold qf; omega
section j
variable {a fr i1 fr2:Vector UInt8 16} {b S:qd} {c v bb:List UInt8} {e dd:Vector UInt8 32} {k no fn:Int} {s:RdS} {f:Bool}
theorem qGt (hf:f=true):vM N a b c fr e k i1 S v fr2 dd s bb f=some (((XF (sk s 1 true).2:Nat):Int),(sk s 1 true).1):=by
 subst hf
 unfold vM V9
 exact w_t rfl <| qe (qcn (n:=1) (by omega)) <| qe qq0 <| qk (qzn _) <| qi rfl
theorem qGn (hf:f=false):vM N a b c fr e k i1 S v fr2 dd s bb f=some (0,s):=by
 subst hf; rfl
theorem qF_ (hs:s.1.length≤1000000000000) (hf:f=true):vw N a b c fr e k i1 S no v fr2 dd s bb f=some ((Je 200 s.1).1,(skI s (Je 200 s.1).2).1):=by
 subst hf
 have g:=qxx s.1
 obtain ⟨h1,h2⟩:=qrx (s:=s) (r:=(Je 200 s.1).2) g.1 (by omega)
 unfold vw VS
 exact w_t rfl <| qe (qrU (most:=200) (by omega) hs) <| zl rfl (fun h=>qe (h1 h) (qi rfl)) fun h=>qe (h2 h) (qi rfl)
theorem qEs (hf:f=false):vw N a b c fr e k i1 S no v fr2 dd s bb f=some (v,s):=by
 subst hf; rfl
theorem qGa (hf:f=true):vz N a b c fr e k i1 S no v fr2 dd s bb f=some (jA 16 (sk s 16 true).2,((XF (sk (sk s 16 true).1 1 true).2:Nat):Int),(sk (sk s 16 true).1 1 true).1):=by
 subst hf
 unfold vz Vs
 exact w_t rfl <| qe qx3 <| qe (qcn (s:=(sk s 16 true).1) (n:=1) (by omega)) <| qe qq0 <| qk (qzn _) <| qi rfl
theorem qy7 (hf:f=false):vz N a b c fr e k i1 S no v fr2 dd s bb f=some (fr2,0,s):=by
 subst hf; rfl
theorem qF2 (hs:s.1.length≤1000000000000) (hf:f=true):vp N a b c fr e k i1 S no v fr2 fn dd s bb f=some (.inl (qb.mk k i1 S no v (Qb s.1).1 fr2 fn dd,(skI s (Qb s.1).2).1)):=by
 subst hf
 have g:=qrh s.1
 obtain ⟨h1,h2⟩:=qrx (s:=s) (r:=(Qb s.1).2) g.1.1 (by omega)
 unfold vp VQ
 exact w_t rfl <| qe (qCA hs) <| zl rfl (fun h=>qe (h1 h) (qi rfl)) fun h=>qe (h2 h) (qi rfl)
theorem qtI (hf:f=false):vp N a b c fr e k i1 S no v fr2 fn dd s bb f=some (.inr ()):=by
 subst hf; rfl
theorem qzl (hf:f=false):Jv N a b c fr e k i1 S no v fr2 fn dd s bb f=some (dd,s):=by
 subst hf; rfl
theorem qFS {o:qb} (hf:f=true):vQ N a b c fr e o s bb f=some (qb.mk o.Kind o.ID o.S o.No o.V o.P o.zi o.zk (jA 32 (sk s 32 true).2),(sk s 32 true).1):=by
 subst hf
 unfold vQ JS
 exact w_t rfl <| qe qnc <| qi rfl
end j
theorem qe0 {b : List UInt8} {s : RdS} {o : qb} (hb : b.length ≤ 1000000000000) (hs : s.1.length ≤ b.length) (hl : (qb.P o).length ≤ 600) :
    (Tree.bind (zq N o) fun r12=>Tree.cond (qc.bad s) (.ret (zO,0,false)) <| .cond (!r12) (.ret (zO,0,false)) <| .chk (qf (((b.length:Nat):Int) - (((qc.b s).length:Nat):Int))) <| .ret (o,((b.length:Nat):Int) - (((qc.b s).length:Nat):Int),true)).run some=some (qcm b s o):=by
 obtain ⟨r,bad⟩:=s
 have hs:r.length≤b.length:=hs
 unfold qcm
 refine qe (qn4 hl) ?_
 cases bad with
 | true=>exact w_t rfl <| qi (by rw [if_neg (fun h=>by cases h.1)])
 | false=>
  refine w_f rfl ?_
  cases h:opB o with
  | false=>exact w_t rfl <| qi (by rw [if_neg (fun h=>by cases h.2)])
  | true=>exact w_f rfl <| qk (show qf (((b.length:Nat):Int) - ((r.length:Nat):Int)) by unfold qf; omega) <| qi (by rw [if_pos ⟨rfl,rfl⟩]; rfl)
theorem qBY {b:List UInt8} (hb:b.length≤1000000000000):X_ N b=some (opG b):=by
 have hN:=big N
 have h1:=Z6 (b,false) 1 true
 have h1:(sk (b,false) 1 true).1.1.length≤b.length:=h1
 have h2:=Z6 (sk (b,false) 1 true).1 16 true
 have q1:=qq0 (s:=(b,false))
 unfold X_ Ym opG
 refine qe (qcn (s:=(b,false)) (n:=1) (by omega)) <| qe q1 <| qk (qzn _) ?_
 have ek:(((sk (b,false) 1 true).2.getD 0 0).toNat:Nat)=XF (sk (b,false) 1 true).2:=rfl
 refine qe (qx3 (s:=(sk (b,false) 1 true).1)) ?_
 rw [ek]
 generalize hs2:(sk (sk (b,false) 1 true).1 16 true).1=s2 at h2
 generalize jA 16 (sk (sk (b,false) 1 true).1 16 true).2=id
 generalize ((XF (sk (b,false) 1 true).2:Nat):Int)=k
 have g3:=qxM s2.1
 have h4:(skI s2 (Za s2.1).2).1.1.length≤s2.1.length:=Z6 _ _ _
 obtain ⟨t1,t2⟩:=qrx (s:=s2) (r:=(Za s2.1).2) g3.1 (by omega)
 refine qe (qDa (N:=N) (b:=s2.1) (by omega)) <| zl rfl (fun hbad=>qe (t1 hbad) ?_) fun hbad=>qe (t2 hbad) ?_
 all_goals
  clear t1 t2 hbad
  generalize (skI s2 (Za s2.1).2).1=s4 at h4
  generalize (Za s2.1).1=S
  unfold qyy
  by_cases h0:k=0
  ·rw [if_pos h0]
   exact qe (qGn (by rw [decide_eq_true h0]; rfl)) <| qe (qEs (decide_eq_false (by omega))) <| qe (qy7 (decide_eq_false (by omega))) <| qe (qtI (decide_eq_false (by omega))) <| w_r rfl <| w_f (decide_eq_false (by omega)) <| qe (qzl (decide_eq_false (by omega))) <| qe0 (s:=s4) hb (by omega) (Nat.zero_le _)
  rw [if_neg h0]
  have h5:=Z6 s4 1 true
  refine qe (qGt (by rw [decide_eq_false h0]; rfl)) ?_
  generalize (sk s4 1 true).1=s5 at h5
  generalize ((XF (sk s4 1 true).2:Nat):Int)=no
  unfold qyY
  by_cases k1:k=1
  ·rw [if_pos k1]
   have h6:(skI s5 (Je 200 s5.1).2).1.1.length≤s5.1.length:=Z6 _ _ _
   exact qe (qF_ (by show s5.1.length≤_; omega) (decide_eq_true k1)) <| qe (qy7 (decide_eq_false (by omega))) <| qe (qtI (decide_eq_false (by omega))) <| w_r rfl <| w_f (decide_eq_false (by omega)) <| qe (qzl (decide_eq_false (by omega))) <| qe0 (s:=(skI s5 (Je 200 s5.1).2).1) hb (by omega) (Nat.zero_le _)
  rw [if_neg k1]
  refine qe (qEs (decide_eq_false k1)) ?_
  by_cases k2:k=2
  ·rw [if_pos k2]
   have h6:=Z6 s5 16 true
   have h7:=Z6 (sk s5 16 true).1 1 true
   have h8:=Z6 (sk (sk s5 16 true).1 1 true).1 32 true
   exact qe (qGa (decide_eq_true k2)) <| qe (qtI (decide_eq_false (by omega))) <| w_r rfl <| w_t (decide_eq_true k2) <| qe qnc <| qe0 (s:=(sk (sk (sk s5 16 true).1 1 true).1 32 true).1) hb (by omega) (Nat.zero_le _)
  rw [if_neg k2]
  refine qe (qy7 (decide_eq_false k2)) ?_
  by_cases k3:k=3
  ·rw [if_pos k3]
   have g:=qrh s5.1
   have h6:(skI s5 (Qb s5.1).2).1.1.length≤s5.1.length:=Z6 _ _ _
   have h7:=Z6 (skI s5 (Qb s5.1).2).1 32 true
   exact qe (qF2 (by show s5.1.length≤_; omega) (decide_eq_true k3)) <| w_l rfl <| w_f (decide_eq_false (by show ¬ k=2; omega)) <| qe (qFS (decide_eq_true (by show k=3; omega))) <| qe0 (s:=(sk (skI s5 (Qb s5.1).2).1 32 true).1) hb (by omega) (by show (Qb s5.1).1.length≤600; omega)
  ·rw [if_neg k3]
   exact qe (qtI (decide_eq_false k3)) <| w_r rfl <| w_f (decide_eq_false k2) <| qe (qzl (decide_eq_false k3)) <| qe0 (s:=s5) hb (by omega) (Nat.zero_le _)
theorem qCJ {o:qb} (hl:(qb.P o).length≤600):JH N o=some (if opB o=true then (opW o,true) else ([],false)):=by
 unfold JH Ye
 refine qe (qn4 hl) ?_
 cases h:opB o with
 | false=>exact w_t rfl <| qi rfl
 | true=>
  obtain ⟨hk,_,_,hs,hn,hf,hv,hp⟩:=qd9.1 h
  have l1:=(qpe hs).2
  have eID:(o.ID:Vector UInt8 16).toList.length=16:=Vector.length_toList
  have eFr:(o.zi:Vector UInt8 16).toList.length=16:=Vector.length_toList
  have eD:(o.D:Vector UInt8 32).toList.length=32:=Vector.length_toList
  have kb:UInt8.ofNat (IntKind.u8.wrap (qb.Kind o)).toNat=zn o.Kind:=by rw [qmL hk.1 (by omega)]
  have nb:UInt8.ofNat (IntKind.u8.wrap (qb.No o)).toNat=zn o.No:=by rw [qmL hn.1 (by omega)]
  have fb:UInt8.ofNat (IntKind.u8.wrap (qb.zk o)).toNat=zn o.zk:=by rw [qmL hf.1 (by omega)]
  have av:∀ {q:List UInt8},q.length≤100000→q.length * 1≤qN:=fun {q} h=>by unfold qN; omega
  have lt:=qfz (s:=o.V) (by omega)
  have lp:=qnd hp
  rw [if_pos rfl]
  have head:([zn o.Kind]++o.ID.toList++jB o.S).length≤100:=by simp only [List.length_append,List.length_singleton]; omega
  refine w_f rfl <| qk (Zv _) <| qe (qxs _) ?_
  rw [kb]
  refine qk ⟨rfl,av (by rw [List.length_append]; simp)⟩ <| qe (qCR hs) <| qk ⟨rfl,av (by show ([zn o.Kind]++o.ID.toList++jB o.S).length≤100000; omega)⟩ ?_
  have eW:opW o=([zn o.Kind]++o.ID.toList++jB o.S)++opT o:=by unfold opW; simp
  rw [eW]
  show (Tree.bind (jh [(([zn o.Kind]++o.ID.toList++jB o.S).length,([zn o.Kind]++o.ID.toList++jB o.S).length)] (vN N ([zn o.Kind]++o.ID.toList++jB o.S) o (!decide (o.Kind=0)))) _).run some=_
  generalize [zn o.Kind]++o.ID.toList++jB o.S=a at *
  have J:∀ {x:List UInt8} {p:Option (List UInt8)},jh [(x.length,x.length)] p=p:=fun {x p}=>(Vf rfl).trans (YQ _)
  have j8t:∀ {f:Bool},f=true→vN N a o f=some (a++[zn o.No]):=fun {f} hf=>by
   subst hf
   unfold vN V6
   rw [nb]
   exact w_t rfl <| qk (Zv _) <| qk ⟨rfl,av (by rw [List.length_append]; simp; omega)⟩ <| qi rfl
  have j10f:∀ {x:List UInt8} {f:Bool},f=false→QT N x o f=some x:=fun {x f} hf=>by subst hf; rfl
  have j12f:∀ {x:List UInt8} {f:Bool},f=false→QM N x o f=some x:=fun {x f} hf=>by subst hf; rfl
  have j15f:∀ {x:List UInt8} {f:Bool},f=false→Q0 N x o f=some x:=fun {x f} hf=>by subst hf; rfl
  have j18f:∀ {x:List UInt8} {f:Bool},f=false→QN N x o f=some x:=fun {x f} hf=>by subst hf; rfl
  by_cases h0:o.Kind=0
  ·have e8:vN N a o (!decide (o.Kind=0))=some a:=by rw [decide_eq_true h0]; rfl
   have eT:opT o=[]:=by unfold opT; rw [if_neg (by omega),if_neg (by omega),if_neg (by omega)]
   rw [eT,List.append_nil]
   exact qe (J.trans e8) <| qe (J.trans (j10f (decide_eq_false (by show ¬ o.Kind=1; omega)))) <| qe (J.trans (j12f (decide_eq_false (by show ¬ o.Kind=2; omega)))) <| qe (J.trans (j15f (decide_eq_false (by show ¬ o.Kind=3; omega)))) <| w_f (decide_eq_false (by show ¬ o.Kind=2; omega)) <| qe (J.trans (j18f (decide_eq_false (by show ¬ o.Kind=3; omega)))) <| qk rfl <| qi rfl
  have e8:=j8t (f:=!decide (o.Kind=0)) (by rw [decide_eq_false h0]; rfl)
  refine qe (J.trans e8) ?_
  by_cases h1:o.Kind=1
  ·have e10 : QT N (a ++ [zn o.No]) o (decide (o.Kind = 1)) = some (a ++ [zn o.No] ++ ZO o.V) := by
      rw [decide_eq_true h1]
      unfold QT VG
      exact w_t rfl <| qe (qse (by show o.V.length≤_; omega)) <| qk ⟨rfl,av (by rw [List.length_append,List.length_append]; simp; omega)⟩ <| qi rfl
   have eT:opT o=zn o.No::ZO o.V:=if_pos h1
   rw [eT]
   exact qe (J.trans e10) <| qe (J.trans (j12f (decide_eq_false (by show ¬ o.Kind=2; omega)))) <| qe (J.trans (j15f (decide_eq_false (by show ¬ o.Kind=3; omega)))) <| w_f (decide_eq_false (by show ¬ o.Kind=2; omega)) <| qe (J.trans (j18f (decide_eq_false (by show ¬ o.Kind=3; omega)))) <| qk rfl <| qi (by simp)
  refine qe (J.trans (j10f (decide_eq_false (by show ¬ o.Kind=1; omega)))) ?_
  by_cases h2:o.Kind=2
  ·have e12 : QM N (a ++ [zn o.No]) o (decide (o.Kind = 2)) = some (a ++ [zn o.No] ++ o.zi.toList ++ [zn o.zk]) := by
      rw [decide_eq_true h2]
      unfold QM Vt
      refine w_t rfl <| qe (qxs _) <| qk ⟨rfl,av (by rw [List.length_append,List.length_append]; show _ + _ + (o.zi:Vector UInt8 16).toList.length≤_; simp; omega)⟩ <| qk (Zv _) <| qk ⟨rfl,av (by rw [List.length_append,List.length_append,List.length_append]; show _ + _ + (o.zi:Vector UInt8 16).toList.length + _≤_; simp; omega)⟩ <| qi ?_
      show some (a++[zn o.No]++o.zi.toList++[UInt8.ofNat (IntKind.u8.wrap (qb.zk o)).toNat])=_
      rw [fb]
   have eT:opT o=zn o.No::(o.zi.toList++(zn o.zk::o.D.toList)):=by unfold opT; rw [if_neg (by omega),if_pos h2]
   rw [eT]
   exact qe (J.trans e12) <| qe (J.trans (j15f (decide_eq_false (by show ¬ o.Kind=3; omega)))) <| w_t (decide_eq_true h2) <| qe (qno _) <| qk ⟨rfl,av (by simp only [List.length_append,List.length_singleton]; show _ + _ + (o.zi:Vector UInt8 16).toList.length + _ + (o.D:Vector UInt8 32).toList.length≤_; omega)⟩ <| qk rfl <| qi (by simp)
  refine qe (J.trans (j12f (decide_eq_false (by show ¬ o.Kind=2; omega)))) ?_
  have h3:o.Kind=3:=by omega
  have e15:Q0 N (a++[zn o.No]) o (decide (o.Kind=3))=some (a++[zn o.No]++jV o.P):=by
   rw [decide_eq_true h3]
   unfold Q0 Vy
   exact w_t rfl <| qe (qDf hp) <| qk ⟨rfl,av (by rw [List.length_append,List.length_append]; show _ + _ + (jV o.P).length≤_; simp; omega)⟩ <| qi rfl
  have e18:QN N (a++[zn o.No]++jV o.P) o (decide (o.Kind=3))=some (a++[zn o.No]++jV o.P++o.D.toList):=by
   rw [decide_eq_true h3]
   unfold QN VE
   exact w_t rfl <| qe (qno _) <| qk ⟨rfl,av (by simp only [List.length_append,List.length_singleton]; show _ + _ + (jV o.P).length + (o.D:Vector UInt8 32).toList.length≤_; omega)⟩ <| qi rfl
  have eT:opT o=zn o.No::(jV o.P++o.D.toList):=by unfold opT; rw [if_neg h1,if_neg h2,if_pos h3]
  rw [eT]
  exact qe (J.trans e15) <| w_f (decide_eq_false (by show ¬ o.Kind=2; omega)) <| qe (J.trans e18) <| qk rfl <| qi (by simp)
theorem qzw (o p:qb) (b:List UInt8):vr N o p b=some true:=by
 have hN:=big N
 obtain ⟨y,ey,hy⟩:=qvT (N:=N) o
 obtain ⟨z,ez,hz⟩:=qvT (N:=N) p
 unfold vr VD
 refine qe (show qvL=some true from rfl) <| qe ey <| qe ez <| w_f rfl ?_
 cases y with
 | false=>rfl
 | true=>
 refine w_f rfl ?_
 cases z with
 | false=>rfl
 | true=>
 refine w_f rfl <| zl rfl (fun _=>rfl) fun hb=>?_
 have hb:b.length≤600:=by have:=of_decide_eq_false hb; omega
 obtain ⟨hp,_⟩:=hy rfl
 have same:∀ {x:Bool},eqE .b x x=true:=fun {x}=>by cases x<;>rfl
 have hl:(opG b).1.P.length≤600:=by
  rcases qFq b with h | ⟨q,r,h,hq,_⟩
  ·rw [h]; exact Nat.zero_le _
  ·rw [h]
   have:=(Ki.1 (qd9.1 hq).2.2.2.2.2.2.2).2.1
   show q.P.length≤600; omega
 have eP:=qE2 (N:=N) (o:=o) (by omega) (by omega)
 have eR:=qCJ (N:=N) (o:=o) (by omega)
 refine qe eP <| qe eR <| qe (qFf (by omega)) <| qe (qBY (by omega)) <| qe (qmd hl) <| qe (qn4 (by omega)) <| qe (qmd (by omega)) <| w_t (decide_eq_true rfl) <| w_t same <| w_t (decide_eq_true rfl) <| w_t (decide_eq_true rfl) <| w_t same <| qe (qnY (by omega) (by omega)) <| w_t same <| qe (qsv (by omega) (by omega)) <| w_t same ?_
 have e1:qmW N o=some (((if opB o=true then (opW o,true) else ([],false)).1.length:Nat):Int):=by
  unfold qmW qml
  exact qe eP <| qi rfl
 have e2:V2 N o=some (((if opB o=true then (opW o,true) else ([],false)).1.length:Nat):Int):=by
  unfold V2 WI
  exact qe eR <| qi rfl
 exact qe e1 <| qe e2 <| qi (by rw [decide_eq_true rfl])
end
theorem qE4 (o p:qb) (b:List UInt8):∃ N:Nat,vr N o p b=some true:=by
 have:JV 100000:=JV.of (by omega)
 exact ⟨100000,qzw o p b⟩
end Go.Rx
end
