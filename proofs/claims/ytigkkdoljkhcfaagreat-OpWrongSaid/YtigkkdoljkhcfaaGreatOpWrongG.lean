/- A part of the proof of OpWrong: the law returns true for every input, and its arguments read as before. No condition. -/
import Derived.Test.YtigkkdoljkhcfaaGreatOpWrongF
set_option linter.unusedSimpArgs false
set_option linter.unusedVariables false
set_option linter.unusedSectionVars false
set_option maxRecDepth 100000
noncomputable section
namespace Go.Rx
open Go.Proofs
open Go.Lib (compareBytes)
section g
variable {α:Type}
theorem qvQ {p q:List α} {x:α} {n:Nat} (h:(p++x::q).length=n):YT (p++x::q) n p.length=some x:=by
 unfold YT
 rw [if_pos h,List.getElem?_append_right (Nat.le_refl _),Nat.sub_self]; rfl
theorem qq8 {x y:α} {q:List α}:∀ {p:List α},(p++x::q).set p.length y=p++y::q
 | []=>rfl
 | z::p=>by
  show z::(p++x::q).set p.length y=_
  rw [qq8]; rfl
end g
def VI (rp:List (Vector UInt8 16)) (x:Vector UInt8 16) (q:List (Vector UInt8 16)):List (Vector UInt8 16):=match rp with
 | []=>x::q
 | y::r=>if lbB x y=true then VI r x (y::q) else (y::r).reverse++x::q
def vF (l:List (Vector UInt8 16)):List (Vector UInt8 16):=l.foldl (fun p x=>VI p.reverse x []) []
theorem qlf {x:Vector UInt8 16}:∀ {rp q:List (Vector UInt8 16)},(VI rp x q).Perm (x::(rp++q))
 | [],q=>List.Perm.refl _
 | y::r,q=>by
  unfold VI
  split
  ·exact qlf.trans (List.Perm.cons _ List.perm_middle)
  ·exact List.perm_middle.trans (List.Perm.cons _ ((List.reverse_perm _).append_right _))
theorem qsj {x:Vector UInt8 16} {s:List (Vector UInt8 16)}:∀ {rp q:List (Vector UInt8 16)},VI rp x (q++s)=VI rp x q++s
 | [],q=>rfl
 | y::r,q=>by
  unfold VI
  split
  ·exact qsj (q:=y::q)
  ·rw [List.append_assoc]; rfl
abbrev qdq (l:List (Vector UInt8 16)):Prop:=l.Pairwise fun a b=>lbB a b=true
theorem qm0 {x:Vector UInt8 16}:∀ {rp q:List (Vector UInt8 16)},qdq (rp.reverse++q)→(∀ y∈q,lbB x y=true)→x∉rp→qdq (VI rp x q)
 | [],q,h,hq,_=>List.pairwise_cons.2 ⟨hq,h⟩
 | y::r,q,h,hq,hx=>by
  rw [List.mem_cons,not_or] at hx
  unfold VI
  split
  ·rename_i hlt
   refine qm0 (rp:=r) (q:=y::q) ?_ (fun z hz=>?_) hx.2
   ·rw [List.reverse_cons,List.append_assoc] at h; exact h
   ·rcases List.mem_cons.1 hz with rfl | hz
    ·exact hlt
    ·exact hq z hz
  ·rename_i hlt
   have hyx:lbB y x=true:=by
    rcases qF3 x y with h1 | h1 | h1
    ·exact (hlt h1.1).elim
    ·exact (hx.1 h1).elim
    ·exact h1.1
   obtain ⟨h1,h2,h3⟩:=List.pairwise_append.1 h
   refine List.pairwise_append.2 ⟨h1,List.pairwise_cons.2 ⟨hq,h2⟩,fun a ha b hb=>?_⟩
   have hay:lbB a x=true:=by
    rw [List.reverse_cons,List.mem_append,List.mem_singleton] at ha
    rcases ha with ha | rfl
    ·rw [List.reverse_cons] at h1
     exact qr8 ((List.pairwise_append.1 h1).2.2 a ha y (List.mem_singleton.2 rfl)) hyx
    ·exact hyx
   rcases List.mem_cons.1 hb with rfl | hb
   ·exact hay
   ·exact h3 a ha b hb
theorem qsg:∀ {l p:List (Vector UInt8 16)},qdq p→(p++l).Nodup→qdq (l.foldl (fun p x=>VI p.reverse x []) p)∧(l.foldl (fun p x=>VI p.reverse x []) p).Perm (p++l)
 | [],p,h,_=>⟨h,by rw [List.append_nil]; exact List.Perm.refl _⟩
 | x::l,p,h,hn=>by
  have hp:(VI p.reverse x []).Perm (x::p):=qlf.trans (List.Perm.cons _ (by rw [List.append_nil]; exact List.reverse_perm _))
  have hx:x∉p:=fun hx=>by
   have:=(List.nodup_append.1 hn).2.2 x hx x (List.mem_cons_self ..)
   exact this rfl
  have hs:qdq (VI p.reverse x []):=qm0 (by rw [List.reverse_reverse,List.append_nil]; exact h) (fun y hy=>absurd hy (List.not_mem_nil)) (by rw [List.mem_reverse]; exact hx)
  have hpl:(VI p.reverse x []++l).Perm (p++x::l):=(hp.append_right l).trans List.perm_middle.symm
  obtain ⟨h1,h2⟩:=qsg (l:=l) hs (hpl.nodup_iff.2 hn)
  exact ⟨h1,h2.trans hpl⟩
theorem qDE {l:List (Vector UInt8 16)} (h:l.Nodup):qdq (vF l)∧(vF l).Perm l:=by
 have:=qsg (l:=l) (p:=[]) List.Pairwise.nil (by simpa using h)
 rw [List.nil_append] at this
 exact this
section
variable {N:Nat} [Zg N]
theorem qFr (a b:Vector UInt8 16):∃ n:Int,qd3 a b=some n∧decide (n < 0)=lbB a b:=by
 refine ⟨compareBytes a.toList b.toList,rfl,?_⟩
 rw [qlE]; rfl
theorem qyQ {s2 s8 : Int} : ∀ (rp : List (Vector UInt8 16)) (x : Vector UInt8 16) (q : List (Vector UInt8 16)) (n m : Nat), (rp.reverse ++ x :: q).length = n → n ≤ 1000 → rp.length < m →
    ∃ j b,q0 (zY N n 0 s2 s8) some m (rp.reverse++x::q,(rp.length:Int))=some (VI rp x q,j,b)
 | _,_,_,_,0,_,_,hm=>by omega
 | [],x,q,n,m + 1,hn,hs,hm=>by
  refine ⟨((0:Nat):Int),false,?_⟩
  rw [zK (x:=(([]:List (Vector UInt8 16)).reverse++x::q,((0:Nat):Int),false)) (by unfold zY; exact w_f rfl (qD rfl)) m]
  rfl
 | y::r,x,q,n,m + 1,hn,hs,hm=>by
  have hl:(y::r).reverse.length=r.length + 1:=by simp
  have e0:(y::r).reverse++x::q=r.reverse++y::(x::q):=by rw [List.reverse_cons,List.append_assoc]; rfl
  have hrl:r.reverse.length=r.length:=List.length_reverse
  have hnl:r.length + 1 < n:=by rw [← hn,List.length_append,hl,List.length_cons]; omega
  obtain ⟨c,hc,hlt⟩:=qFr x y
  have c0:(0:Int)≤((r.length + 1:Nat):Int)∧((r.length + 1:Nat):Int) < ((n:Nat):Int):=by omega
  have c1:qy (((r.length + 1:Nat):Int) - 1):=by unfold qy; omega
  have c2:(0:Int)≤((r.length + 1:Nat):Int) - 1∧((r.length + 1:Nat):Int) - 1 < ((n:Nat):Int):=by omega
  have g1:YT ((y::r).reverse++x::q) n (((r.length + 1:Nat):Int)).toNat=some x:=by
   have:=qvQ (p:=(y::r).reverse) (x:=x) (q:=q) hn
   rw [hl] at this; exact this
  have t1:(((r.length + 1:Nat):Int) - 1).toNat=r.length:=by omega
  have g2:YT ((y::r).reverse++x::q) n (((r.length + 1:Nat):Int) - 1).toNat=some y:=by
   rw [t1,e0]
   have:=qvQ (p:=r.reverse) (x:=y) (q:=x::q) (n:=n) (by rw [← e0]; exact hn)
   rw [hrl] at this; exact this
  cases hb:lbB x y with
  | false=>
   refine ⟨((r.length + 1:Nat):Int),decide (c < 0),?_⟩
   rw [zK (x:=((y::r).reverse++x::q,((r.length + 1:Nat):Int),decide (c < 0))) (by
    unfold zY
    exact w_t (decide_eq_true (by show (0:Int) < ((r.length + 1:Nat):Int); omega)) (qY c0 (qz g1 (qY c1 (qY c2 (qz g2 (qz hc (w_f (hlt.trans hb) (qD rfl)))))))) ) m]
   unfold VI
   rw [if_neg (by rw [hb]; simp)]
  | true=>
   obtain ⟨j,b,h⟩:=qyQ r x (y::q) n m (by rw [← hn,e0]; simp) hs (by simp at hm; omega)
   refine ⟨j,b,?_⟩
   have s1:((y::r).reverse++x::q).set (((r.length + 1:Nat):Int)).toNat y=(y::r).reverse++y::q:=by
    have:=qq8 (p:=(y::r).reverse) (x:=x) (y:=y) (q:=q)
    rw [hl] at this; exact this
   have s2:((y::r).reverse++y::q).set (((r.length + 1:Nat):Int) - 1).toNat x=r.reverse++x::(y::q):=by
    rw [t1,show (y::r).reverse++y::q=r.reverse++y::(y::q) by rw [List.reverse_cons,List.append_assoc]; rfl]
    have:=qq8 (p:=r.reverse) (x:=y) (y:=x) (q:=y::q)
    rw [hrl] at this; exact this
   have v1:qfd ((y::r).reverse++x::q).length n (((r.length + 1:Nat):Int)).toNat:=⟨hn,by omega⟩
   have v2:qfd (((y::r).reverse++x::q).set (((r.length + 1:Nat):Int)).toNat y).length n (((r.length + 1:Nat):Int) - 1).toNat:=⟨by rw [List.length_set]; exact hn,by omega⟩
   rw [Ja (v':=(r.reverse++x::(y::q),(r.length:Int))) (by
    unfold zY
    refine w_t (decide_eq_true (by show (0:Int) < ((r.length + 1:Nat):Int); omega)) (qY c0 (qz g1 (qY c1 (qY c2 (qz g2 (qz hc (w_t (hlt.trans hb) (qY c1 (qY c1 (qY c2 (qz g2 (qY c0 (qz g1 (qY c0 (qY v1 (qY c2 (qY v2 (qY c1 (qD ?_)))))))))))))))))))
    show some (Sum.inl ((((y::r).reverse++x::q).set (((r.length + 1:Nat):Int)).toNat y).set (((r.length + 1:Nat):Int) - 1).toNat x,((r.length + 1:Nat):Int) - 1))=_
    rw [s1,s2,show ((r.length + 1:Nat):Int) - 1=(r.length:Int) by omega]) m]
   unfold VI
   rw [if_pos hb]
   exact h
theorem qz7 {l:List (Vector UInt8 16)} (hs:l.length≤1000) (h0:l≠[]):zH N l 0 (l.length:Int)=some (vF l):=by
 have hN:=big N
 have hpos:0 < l.length:=List.length_pos_iff.2 h0
 have key:jH N l.length 0 (l.length:Int) l 1=some (vF l,(l.length:Int),false):=by
  have h:=qhE (B:=zr N l.length 0 (l.length:Int)) (g:=some) (I:=fun v=>∃ k:Nat,1≤k∧k≤l.length∧v=(vF (l.take k)++l.drop k,(k:Int))) (Q:=fun y=>y=(vF l,(l.length:Int),false)) (fun v=>l.length - v.2.toNat) ?_ N (l,((1:Nat):Int))
   ⟨1,Nat.le_refl _,hpos,by
    cases l with
    | nil=>exact (h0 rfl).elim
    | cons x r=>rfl⟩ (by simp; omega)
  ·obtain ⟨y,e,rfl⟩:=h
   exact e
  rintro v ⟨k,h1,hk,rfl⟩
  have hlen:∀ j,j≤l.length→(vF (l.take j)).length=j:=by
   intro j hj
   have:∀ (m p:List (Vector UInt8 16)),(m.foldl (fun p x=>VI p.reverse x []) p).length=p.length + m.length:=by
    intro m
    induction m with
    | nil=>intro p; rfl
    | cons x m ih=>
     intro p
     rw [List.foldl_cons,ih,qlf.length_eq]
     simp; omega
   unfold vF
   rw [this]; simp; omega
  by_cases h:k < l.length
  ·left
   have ed:l.drop k=l.getD k (Vector.replicate 16 0)::l.drop (k + 1):=by
    rw [List.drop_eq_getElem_cons h,List.getD_eq_getElem?_getD,List.getElem?_eq_getElem h]; rfl
   have et:vF (l.take (k + 1))=VI (vF (l.take k)).reverse (l.getD k (Vector.replicate 16 0)) []:=by
    unfold vF
    rw [List.take_succ_eq_append_getElem h,List.foldl_append,List.getD_eq_getElem?_getD,List.getElem?_eq_getElem h]; rfl
   have hll:(vF (l.take k)).reverse.length=k:=by rw [List.length_reverse,hlen k hk]
   obtain ⟨j,b,e⟩:=qyQ (N:=N) (s2:=(l.length:Int)) (s8:=(k:Int)) (vF (l.take k)).reverse (l.getD k (Vector.replicate 16 0)) (l.drop (k + 1)) l.length N (by
    rw [List.reverse_reverse,← ed,List.length_append,hlen k hk,List.length_drop]; omega) hs (by omega)
   rw [List.reverse_reverse,← ed,hll] at e
   have er:VI (vF (l.take k)).reverse (l.getD k (Vector.replicate 16 0)) (l.drop (k + 1))=vF (l.take (k + 1))++l.drop (k + 1):=by
    rw [et,← qsj]; rfl
   rw [er] at e
   refine ⟨(vF (l.take (k + 1))++l.drop (k + 1),((k + 1:Nat):Int)),?_,⟨k + 1,by omega,h,rfl⟩,by simp only [Int.toNat_natCast]; omega⟩
   unfold zr
   exact w_t (dec_lt h) (qz e (qY (QU (by omega)) (qD (by rw [zw]))))
  ·right
   obtain rfl:k=l.length:=by omega
   refine ⟨(vF l,(l.length:Int),false),_,?_,rfl,rfl⟩
   unfold zr
   refine w_f (jw (Nat.lt_irrefl _)) (qD ?_)
   dsimp only
   rw [jw (Nat.lt_irrefl _),List.take_of_length_le (Nat.le_refl _),List.drop_of_length_le (Nat.le_refl _),List.append_nil]
 unfold zH jO
 exact qY (by unfold qy; omega) (qz key (qD rfl))
theorem qw5:zH N [] 0 ((([]:List (Vector UInt8 16)).length:Nat):Int)=some []:=by
 have key:jH N 0 0 ((0:Nat):Int) [] 1=some ([],1,false):=by
  obtain ⟨M,hM⟩:∃ M,N=M + 1:=⟨N - 1,by have:=big N; omega⟩
  show q0 (zr N 0 0 ((0:Nat):Int)) some N ([],1)=_
  have:∀ K,K=M + 1→q0 (zr N 0 0 ((0:Nat):Int)) some K ([],1)=some ([],1,false):=by
   rintro K rfl
   rw [zK (x:=([],1,false)) (by unfold zr; exact w_f rfl (qD rfl))]
  exact this N hM
 unfold zH jO
 exact qY (by unfold qy; omega) (qz key (qD rfl))
theorem qF8 {l:List (Vector UInt8 16)} (h:l.length≤12):JY N l=some (vF l):=by
 have e1:zH N l 0 ((l.length:Nat):Int)=some (vF l):=by
  cases l with
  | nil=>exact qw5
  | cons x r=>exact qz7 (by omega) (by simp)
 have e2:∀ z:Int,QK N l 0 ((l.length:Nat):Int) z=some (vF l):=fun z=>by
  have key:Zx N l 0 ((l.length:Nat):Int) z=some (vF l):=by
   obtain ⟨M,hM⟩:∃ M,N=M + 1:=⟨N - 1,by have:=big N; omega⟩
   show q0 (vu N l 0 ((l.length:Nat):Int) z) some N ()=_
   have:∀ K,K=M + 1→q0 (vu N l 0 ((l.length:Nat):Int) z) some K ()=some (vF l):=by
    rintro K rfl
    rw [zK (x:=vF l) (by unfold vu; exact qY (by unfold qy; omega) (w_t (decide_eq_true (by omega)) (qz ((jA rfl).trans e1) (qD rfl))))]
   exact this N hM
  unfold QK ZS
  exact qz ((jA rfl).trans key) (qD rfl)
 have e3:∃ z,Km (IntKind.u64.wrap ((l.length:Nat):Int))=some z:=by
  rw [qDV (by omega)]
  have:∀ k,k≤12→(Km ((k:Nat):Int)).isSome=true:=by decide +kernel
  exact Option.isSome_iff_exists.1 (this _ h)
 obtain ⟨z,e3⟩:=e3
 unfold JY XD
 exact qz e3 (qz ((jA rfl).trans (e2 z)) (qD rfl))
end
end Go.Rx
end
set_option maxRecDepth 100000
noncomputable section
namespace Go.Rx
open Go.Proofs
open Go.Lib (compareBytes)
section
variable {N:Nat} [Zg N]
theorem qoK (a b:Vector UInt8 32):qd7 a b=some (ltD a b):=by
 unfold qd7 qh6 ltD
 rw [qP,eqD]
 by_cases h:a=b
 ·subst h; rw [decide_eq_true rfl,Ys]; rfl
 ·rw [decide_eq_false h]; rfl
end
end Go.Rx
end
set_option maxRecDepth 100000
noncomputable section
namespace Go.Rx
open Go.Proofs
open Go.Lib (compareBytes)
section
variable {N:Nat} [Zg N]
theorem qEA {x y : Bool} {p : Prop} (h : (x = true ∧ y = false) ∨ p ∨ (y = true ∧ x = false)) (hp : p → x = false ∧ y = false) :
    ∃ n:Int,(Tree.cond x (.ret (-1:Int)) (.cond y (.ret 1) (.ret 0))).run some=some n∧(decide (n=0)=true↔p)∧(¬ p→decide (n < 0)=x):=by
 rcases h with ⟨h1,h2⟩ | h1 | ⟨h1,h2⟩
 ·subst h1; subst h2
  exact ⟨-1,rfl,⟨fun h=>by simp at h,fun h=>by have:=(hp h).1; simp at this⟩,fun _=>rfl⟩
 ·obtain ⟨h2,h3⟩:=hp h1
  subst h2; subst h3
  exact ⟨0,rfl,⟨fun _=>h1,fun _=>rfl⟩,fun h=>(h h1).elim⟩
 ·subst h1; subst h2
  exact ⟨1,rfl,⟨fun h=>by simp at h,fun h=>by have:=(hp h).2; simp at this⟩,fun _=>rfl⟩
theorem qBI (a b:qe):∃ n:Int,Xf N a b=some n∧(decide (n=0)=true↔a=b)∧(a≠b→decide (n < 0)=slB a b):=by
 obtain ⟨n,h1,h2,h3⟩:=qEA (qls a b) fun h=>by subst h; exact ⟨X7 a,X7 a⟩
 refine ⟨n,?_,h2,h3⟩
 unfold Xf Yc
 rw [run_bind,qbW,Option.bind_some,← h1,qP,qP,run_bind,qbW,Option.bind_some]
theorem qCr (a b:Vector UInt8 32):∃ n:Int,Vr a b=some n∧(decide (n=0)=true↔a=b)∧(a≠b→decide (n < 0)=ltD a b):=by
 have ht:(ltD a b=true∧ltD b a=false)∨a=b∨(ltD b a=true∧ltD a b=false):=by
  rcases qlw a.toList b.toList with h | h | h
  ·exact .inl h
  ·exact .inr (.inl (Vector.toList_inj.1 h))
  ·exact .inr (.inr h)
 obtain ⟨n,h1,h2,h3⟩:=qEA ht fun h=>by subst h; exact ⟨Ys _,Ys _⟩
 refine ⟨n,?_,h2,h3⟩
 unfold Vr Wf
 rw [run_bind,qoK,Option.bind_some,← h1,qP,qP,run_bind,qoK,Option.bind_some]
theorem qGQ (a b:List UInt8):∃ n:Int,JR a b=some n∧(decide (n=0)=true↔a=b)∧(a≠b→decide (n < 0)=ltB a b):=by
 have e:∀ x:List UInt8,V9 x=some ():=fun x=>rfl
 have g:(!(Op.bytesLess a b||decide (a=b)))=ltB b a:=by
  rw [qoL]
  rcases qlw a b with h | h | h
  ·rw [h.1,h.2]; rfl
  ·subst h; rw [decide_eq_true rfl,Ys]; rfl
  ·have:a≠b:=fun e=>by subst e; rw [Ys] at h; simp at h
   rw [h.1,h.2,decide_eq_false this]; rfl
 obtain ⟨n,h1,h2,h3⟩:=qEA (qlw a b) fun h=>by subst h; exact ⟨Ys _,Ys _⟩
 refine ⟨n,?_,h2,h3⟩
 unfold JR Xe
 refine qz (e a) (qz (e b) (w_f (by rw [decide_eq_true rfl]; rfl) (w_f (by rw [decide_eq_true rfl]; rfl) ?_)))
 rw [← h1,qP,qP,qP,qP,qoL a b,← g,qoL a b]
theorem qE3 {a b:qd} (ha:a.V.length≤50000) (hb:b.V.length≤50000):qeS N a b=some (qad a b):=by
 obtain ⟨n1,e1,z1,l1⟩:=qBI (N:=N) a.S b.S
 obtain ⟨n2,e2,z2,l2⟩:=qCr (Jz a.V) (Jz b.V)
 obtain ⟨n3,e3,z3,l3⟩:=qGQ a.V b.V
 have f1:qbG N a b=some n1:=by unfold qbG qcN; exact qz e1 (qD rfl)
 have f2:qbE N a b=some n2:=by unfold qbE qct; exact qz (qhR ha) (qz (qhR hb) (qz e2 (qD rfl)))
 have f3:qbM a b=some n3:=by unfold qbM qcy; exact qz e3 (qD rfl)
 have key:∃ M,N=M + 1:=⟨N - 1,by have:=big N; omega⟩
 obtain ⟨M,hM⟩:=key
 have z:∀ {n:Int} {p:Prop},(decide (n=0)=true↔p)→p→(!decide (n=0))=false:=fun h hp=>by rw [h.2 hp]; rfl
 have nz:∀ {n:Int} {p:Prop},(decide (n=0)=true↔p)→¬ p→(!decide (n=0))=true:=fun {n} {p} h hp=>by
  cases e:decide (n=0) with
  | false=>rfl
  | true=>exact (hp (h.1 e)).elim
 have hl:qay N a b=some (if a.S=b.S∧Jz a.V=Jz b.V∧a.V=b.V then .inr () else .inl (qad a b)):=by
  have s1:qay N a b=q0 (YG N a b) (qbz N N (a,b)) (M + 1) ():=by rw [← hM]; rfl
  rw [s1]
  by_cases h1:a.S=b.S
  ·rw [zK (x:=.inl ()) (by unfold YG; exact qY (by omega) (qz f1 (w_f (z z1 h1) (qD rfl))))]
   show q0 (QS N a b) (Z1 N N (a,b)) N ()=_
   rw [show q0 (QS N a b) (Z1 N N (a,b)) N ()=q0 (QS N a b) (Z1 N N (a,b)) (M + 1) () by rw [← hM]]
   by_cases h2:Jz a.V=Jz b.V
   ·rw [zK (x:=.inl ()) (by unfold QS; exact qY (by omega) (qz f2 (w_f (z z2 h2) (qD rfl))))]
    show q0 (QT N a b) (Z0 N N (a,b)) N ()=_
    rw [show q0 (QT N a b) (Z0 N N (a,b)) N ()=q0 (QT N a b) (Z0 N N (a,b)) (M + 1) () by rw [← hM]]
    by_cases h3:a.V=b.V
    ·rw [zK (x:=.inl ()) (by unfold QT; exact qY (by omega) (qz f3 (w_f (z z3 h3) (qD rfl))))]
     show q0 (ZX N a b) some N ()=_
     rw [show q0 (ZX N a b) some N ()=q0 (ZX N a b) some (M + 1) () by rw [← hM]]
     rw [zK (x:=.inr ()) (by unfold ZX; exact qD rfl),if_pos ⟨h1,h2,h3⟩]
    ·rw [zK (x:=.inr (.inl (decide (n3 < 0)))) (by unfold QT; exact qY (by omega) (qz f3 (w_t (nz z3 h3) (qD rfl)))),if_neg (fun h=>h3 h.2.2)]
     show some (Sum.inl (decide (n3 < 0)))=_
     rw [l3 h3]
     unfold qad
     rw [if_pos h1,if_pos h2]
   ·rw [zK (x:=.inr (.inl (decide (n2 < 0)))) (by unfold QS; exact qY (by omega) (qz f2 (w_t (nz z2 h2) (qD rfl)))),if_neg (fun h=>h2 h.2.1)]
    show some (Sum.inl (decide (n2 < 0)))=_
    rw [l2 h2]
    unfold qad
    rw [if_pos h1,if_neg h2]
  ·rw [zK (x:=.inr (.inl (decide (n1 < 0)))) (by unfold YG; exact qY (by omega) (qz f1 (w_t (nz z1 h1) (qD rfl)))),if_neg (fun h=>h1 h.1)]
   show some (Sum.inl (decide (n1 < 0)))=_
   rw [l1 h1]
   unfold qad
   rw [if_neg h1]
 unfold qeS qfE
 refine qz hl ?_
 by_cases h:a.S=b.S∧Jz a.V=Jz b.V∧a.V=b.V
 ·rw [if_pos h]
  show some false=_
  unfold qad
  rw [if_pos h.1,if_pos h.2.1,h.2.2,Ys]
 ·rw [if_neg h]; rfl
theorem qHV {a b:qd} (ha:a.V.length≤50000) (hb:b.V.length≤50000):qeU N a b=some (cJ a b):=by
 unfold qeU qfN cJ
 refine qz (qE3 ha hb) ?_
 cases qad a b<;>rfl
theorem qHx (a b:qe):qeG N a b=some (mxS a b):=by
 unfold qeG qfS mxS
 refine qz (qbW _ _) ?_
 cases slB a b<;>rfl
end
end Go.Rx
end
set_option maxRecDepth 100000
noncomputable section
namespace Go.Rx
open Go.Proofs
section
variable {N:Nat} [Zg N]
theorem qGH {l : List qb} (h8 : l.length ≤ 600) (hV : ∀ k, k < l.length → (l.getD k zF).C.V.length ≤ 200) {c : Nat} {M : List (Int × qd × Nat)} {g : Int → Option qd} (hM : ∀ no, W3 no M = g no) (hg : qc9 g) :
    ∃ c' M',Wb N l ((l.length:Nat):Int) c M 0=some (c',M',((l.length:Nat):Int),false)∧(∀ no,W3 no M'=l.foldl JS g no)∧qc9 (l.foldl JS g):=by
 have key:∃ y,q0 (Qn N l ((l.length:Nat):Int)) some N (c,M,((0:Nat):Int))=some y∧∃ c' M',y=(c',M',((l.length:Nat):Int),false)∧(∀ no,W3 no M'=l.foldl JS g no)∧qc9 (l.foldl JS g):=by
  refine qhE (I:=fun v=>∃ (k c':Nat) (M':List (Int×qd×Nat)),k≤l.length∧v=(c',M',(k:Int))∧(∀ no,W3 no M'=(l.take k).foldl JS g no)∧qc9 ((l.take k).foldl JS g)) (fun v=>l.length - v.2.2.toNat) ?_ N _ ⟨0,c,M,Nat.zero_le _,rfl,hM,hg⟩ (by have:=big N; simp; omega)
  rintro v ⟨k,c',M',hk,rfl,hi,hs⟩
  by_cases h:k < l.length
  ·left
   have et:(l.take (k + 1)).foldl JS g=JS ((l.take k).foldl JS g) (l.getD k zF):=by
    rw [List.take_succ_eq_append_getElem h,List.foldl_append,List.getD_eq_getElem?_getD,List.getElem?_eq_getElem h]; rfl
   have hs':qc9 ((l.take (k + 1)).foldl JS g):=by rw [et]; exact qzq hs (hV k h)
   have hno:=hi (l.getD k zF).No
   unfold W3 at hno
   cases e:fnd (β:=qd) (.i .i64) (l.getD k zF).No M' with
   | none=>
    rw [e] at hno
    refine ⟨((Qz (.i .i64) (qb.No (l.getD k zF)) (qb.C (l.getD k zF)) c' M').1,(Qz (.i .i64) (qb.No (l.getD k zF)) (qb.C (l.getD k zF)) c' M').2,((k + 1:Nat):Int)),?_,⟨k + 1,_,_,h,rfl,?_,hs'⟩,by simp only [Int.toNat_natCast]; omega⟩
    ·unfold Qn
     exact w_t (dec_lt h) (qz (vM (d:=zF) h) (quB e (qY (QU (by omega)) (qD (by rw [zw])))))
    ·intro no
     rw [qvy,et,qtS]
     by_cases hq:no=(l.getD k zF).No
     ·rw [if_pos hq,if_pos hq.symm,hq,← hno]; rfl
     ·rw [if_neg hq,if_neg (fun e=>hq e.symm),hi no]
   | some x=>
    rw [e] at hno
    have hx:x.1.V.length≤200:=hs _ _ hno.symm
    refine ⟨((Qz (.i .i64) (qb.No (l.getD k zF)) (cJ x.1 (qb.C (l.getD k zF))) c' M').1,(Qz (.i .i64) (qb.No (l.getD k zF)) (cJ x.1 (qb.C (l.getD k zF))) c' M').2,((k + 1:Nat):Int)),?_,⟨k + 1,_,_,h,rfl,?_,hs'⟩,by simp only [Int.toNat_natCast]; omega⟩
    ·unfold Qn
     exact w_t (dec_lt h) (qz (vM (d:=zF) h) (qqt e (qz (qHV (by omega) (by have:(l.getD k zF).C.V.length≤200:=hV k h; omega)) (qY (QU (by omega)) (qD (by rw [zw]))))))
    ·intro no
     rw [qvy,et,qtS]
     by_cases hq:no=(l.getD k zF).No
     ·rw [if_pos hq,if_pos hq.symm,hq,← hno]; rfl
     ·rw [if_neg hq,if_neg (fun e=>hq e.symm),hi no]
  ·right
   obtain rfl:k=l.length:=by omega
   refine ⟨(c',M',((l.length:Nat):Int),false),_,?_,rfl,c',M',rfl,?_⟩
   ·unfold Qn
    exact w_f (jw (Nat.lt_irrefl _)) (qD (by rw [jw (Nat.lt_irrefl _)]))
   ·rw [List.take_of_length_le (Nat.le_refl _)] at hi hs
    exact ⟨hi,hs⟩
 obtain ⟨y,e,c',M',rfl,h⟩:=key
 exact ⟨c',M',e,h⟩
theorem qx8 {r : qa} (hr : jF r = true) {c : Nat} {M : List (Int × qd × Nat)} {g : Int → Option qd} (hM : ∀ no, W3 no M = g no) (hg : qc9 g) :
    ∃ c' M',Jq N c M r=some (c',M')∧(∀ no,W3 no M'=jC (g no) (cO r.F no))∧qc9 (r.F.foldl JS g):=by
 have h8:=qbd hr
 obtain ⟨c',M',e,h,hs⟩:=qGH (N:=N) (l:=r.F) (by omega) (fun k hk=>qhW (J6.1 ((XG.1 hr).2.2 k hk)).2.2.1) (c:=c) hM hg
 refine ⟨c',M',?_,fun no=>?_,hs⟩
 ·unfold Jq W9
  exact qz e (qD rfl)
 ·rw [h,qry (quz hr)]
theorem qA7 {o : List qb} {c : Nat} {M : List (Int × qd × Nat)} {o5 : Vector UInt8 16} {o6 : qe} {o7 : Vector UInt8 16} {o8 dead : qe} :
    ZM N o [] c M o5 o6 o7 o8 dead=some (QR (fun no=>W3 no M) dead 8 0):=by
 have key:JC N o c M o5 o6 o7 o8 dead [] 0=some (Z6 (fun k s=>s++qeM dead k (W3 (k:Int) M)) 8 0 [],(8:Int),false):=by
  refine QX (σ:=List qb) (B:=Qc N o c M o5 o6 o7 o8 dead) (g:=some) (at_:=fun k s=>(s,(k:Int))) (I:=fun k s=>s.length≤k) (f:=fun k s=>s++qeM dead k (W3 (k:Int) M)) (n:=8)
   (fin:=fun s=>(s,(8:Int),false)) (fun k s hk hs=>⟨?_,?_⟩) (fun s _=>?_) N 0 [] (Nat.le_refl _) (Nat.zero_le _) (by have:=big N; omega)
  ·have d8:decide ((k:Int) < 8)=true:=decide_eq_true (by omega)
   unfold Qc
   refine w_t d8 ?_
   unfold W3
   cases e:fnd (β:=qd) (.i .i64) (k:Int) M with
   | none=>exact quB rfl (qY (QU (by omega)) (qD (by rw [zw]; show _=some (Sum.inl (s++[],_)); rw [List.append_nil])))
   | some x=>
    refine qqt rfl (qz (qbW _ _) ?_)
    have hk2:qeM dead k (Option.map (fun x=>x.1) (some x))=if slB dead x.1.S=true then [qb.mk (k:Int) x.1] else []:=rfl
    rw [hk2]
    cases hb:slB dead (qd.S x.1) with
    | false=>
     rw [if_neg (by simp),List.append_nil]
     exact w_f rfl (qY (QU (by omega)) (qD (by rw [zw])))
    | true=>
     rw [if_pos rfl]
     have er:Xk o s c M o5 o6 o7 o8 dead (qb.mk (k:Int) x.1)=some ():=by
      unfold Xk WN
      exact qY ⟨rfl,by rw [List.length_append]; unfold zh; simp; omega⟩ (qD rfl)
     exact w_t rfl (qz ((jA rfl).trans ((jA rfl).trans er)) (qY (QU (by omega)) (qD (by rw [zw]))))
  ·have:=qrV (dead:=dead) (k:=k) (c:=W3 (k:Int) M)
   rw [List.length_append]; omega
  ·unfold Qc
   exact w_f rfl (qD rfl)
 unfold ZM JI
 refine qz ((jA rfl).trans ((jA rfl).trans key)) (qD ?_)
 rw [qlc (g:=fun no=>W3 no M),List.nil_append]
theorem qH0 {a b:qa} (ha:jF a=true) (hb:jF b=true) (hid:a.ID=b.ID):qh5 N a b=some (rJ a b,true):=by
 have hN:=big N
 have h8a:=qbd ha
 have h8b:=qbd hb
 obtain ⟨c1,M1,e1,h1,s1⟩:=qx8 (N:=N) ha (c:=0) (M:=[]) (g:=fun _=>none) (fun no=>rfl) (fun no c h=>by cases h)
 obtain ⟨c2,M2,e2,h2,_⟩:=qx8 (N:=N) hb (c:=c1) (M:=M1) (g:=fun no=>cO a.F no) (fun no=>by rw [h1]; rfl) (by
  have:(a.F.foldl JS fun _=>none)=fun no=>cO a.F no:=by funext no; rw [qry (quz ha)]; rfl
  rw [← this]; exact s1)
 have ef:=qA7 (N:=N) (o:=[]) (c:=c2) (M:=M2) (o5:=Vector.replicate 16 0) (o6:=qe.mk 0 0) (o7:=a.ID) (o8:=mxS a.zq b.zq) (dead:=mxS a.zq b.zq)
 have eg:(fun no=>W3 no M2)=fun no=>jC (cO a.F no) (cO b.F no):=funext h2
 rw [eg] at ef
 unfold qh5 qhn
 exact qz (qlK (by omega) (by omega)) (w_f (by rw [ha]; rfl) (qz (qlK (by omega) (by omega)) (w_f (by rw [hb]; rfl) (w_f (by rw [qtY]; show (!decide (a.ID=b.ID))=false; rw [decide_eq_true hid]; rfl)
  (qz e1 (qz e2 (qz (qHx _ _) (qz rfl (qz ((jA rfl).trans ((jA rfl).trans ef)) (qY rfl (qD rfl)))))))))))
end
end Go.Rx
end
set_option maxRecDepth 100000
noncomputable section
namespace Go.Rx
open Go.Proofs
section n
variable {N:Nat} [Zg N]
theorem qCZ {l:List qa} {id:Vector UInt8 16} (h:l.length≤600):Z8 N id l=some (qHv (qld l id)):=by
 have key:=qe3 (B:=vl N id l ((l.length:Nat):Int)) (g:=some) (p:=fun k=>decide ((l.getD k zR).ID=id)) (n:=l.length) (hit:=fun k=>.inl (k:Int)) (fin:=.inr (((l.length:Nat):Int),false)) (fun k hk=>by
  unfold vl qfp qcn
  rw [qP,dec_lt hk,cond_true,run_bind,vM (d:=zR) hk,Option.bind_some,run_bind,qZ,Option.bind_some,qP,qtY,qZ,zE,ql (show qy ((k:Int) + 1) by unfold qy; omega),qZ,zw]
  cases decide ((l.getD k zR).ID=id)<;>rfl) (by
  unfold vl
  rw [qP,jw (Nat.lt_irrefl _),cond_false,qZ]) N 0 (Nat.zero_le _) (by have:=big N; omega)
 have e:JG N id l ((l.length:Nat):Int) 0=q0 (vl N id l ((l.length:Nat):Int)) some N ((0:Nat):Int):=rfl
 unfold Z8 J5
 rw [run_bind,e,key,Nat.sub_zero]
 unfold qld
 cases jT (fun k=>decide ((l.getD k zR).ID=id)) l.length 0<;>rfl
theorem qCU {l:List qb} {no:Int} (h:l.length≤600):Zu N no l=some (qHv (qnD l no)):=by
 have key:=qe3 (B:=jI N no l ((l.length:Nat):Int)) (g:=some) (p:=fun k=>decide ((l.getD k zF).No=no)) (n:=l.length) (hit:=fun k=>.inl (k:Int)) (fin:=.inr (((l.length:Nat):Int),false)) (fun k hk=>by
  unfold jI qhH qem
  rw [qP,dec_lt hk,cond_true,run_bind,vM (d:=zF) hk,Option.bind_some,run_bind,qZ,Option.bind_some,qP,qZ,zE,ql (show qy ((k:Int) + 1) by unfold qy; omega),qZ,zw]
  cases decide ((l.getD k zF).No=no)<;>rfl) (by
  unfold jI
  rw [qP,jw (Nat.lt_irrefl _),cond_false,qZ]) N 0 (Nat.zero_le _) (by have:=big N; omega)
 have e:Z7 N no l ((l.length:Nat):Int) 0=q0 (jI N no l ((l.length:Nat):Int)) some N ((0:Nat):Int):=rfl
 unfold Zu JA
 rw [run_bind,e,key,Nat.sub_zero]
 unfold qnD
 cases jT (fun k=>decide ((l.getD k zF).No=no)) l.length 0<;>rfl
theorem qsc {l:List qb} (h:l.length≤1000000):vZ l=some ():=by
 unfold vZ
 cases l with
 | nil=>kernel_rfl
 | cons x r=>
  show WI (x::r)=_
  unfold WI Xd
  have h2:Vc ([]:List qb).length 0 ([]++x::r).length 40:=⟨rfl,by rw [List.nil_append]; unfold zh; omega⟩
  rw [zE,ql (List.isEmpty_cons),zE,ql h2,zE,ql rfl,qZ]
theorem qvR {b:qc} (h:zM b=true) (id:Vector UInt8 16):qbO N b id=some (recAt b id):=by
 have hb:=WR.1 h
 unfold qbO qgh recAt
 rw [run_bind,qCZ (by omega),Option.bind_some]
 cases e:qld b.R id with
 | none=>rfl
 | some i=>
  have hi:=(qaE e).1
  have hn:decide (((i:Nat):Int) < 0)=false:=decide_eq_false (by omega)
  have hF:=qbd (hb.1 i hi).1
  have ho:KM (b.R.getD i zR)=some ():=by
   unfold KM qdk
   rw [run_bind,qsc (by omega),Option.bind_some,qZ]
  show (Tree.cond (decide (((i:Nat):Int) < 0)) _ (Tree.bind (zi (qc.R b) ((i:Nat):Int)) _)).run some=_
  rw [qP,hn,cond_false,run_bind,vM (d:=zR) hi,Option.bind_some,run_bind,ho,Option.bind_some,qZ]
  rfl
theorem qEZ {r:qa} (h:r.F.length≤8) (no:Int):qhY N r no=some (cellAt r no):=by
 unfold qhY qic cellAt
 rw [run_bind,qCU (by omega),Option.bind_some]
 cases e:qnD r.F no with
 | none=>rfl
 | some i=>
  have hi:=(qaE e).1
  have hn:decide (((i:Nat):Int) < 0)=false:=decide_eq_false (by omega)
  show (Tree.cond (decide (((i:Nat):Int) < 0)) _ (Tree.bind (zi (qa.F r) ((i:Nat):Int)) _)).run some=_
  rw [qP,hn,cond_false,run_bind,vM (d:=zF) hi,Option.bind_some,qZ]
end n
end Go.Rx
end
set_option maxRecDepth 100000
noncomputable section
namespace Go.Rx
open Go.Proofs
def qlQ (g:Vector UInt8 16→Option qa) (r:qa) (id:Vector UInt8 16):Option qa:=if r.ID=id then jR (g id) (some r) else g id
theorem qnz {g:Vector UInt8 16→Option qa} {r:qa} {id:Vector UInt8 16}:qlQ g r id=if r.ID=id then jR (g id) (some r) else g id:=rfl
theorem qgA {x:Option qa}:jR x none=x:=by cases x<;>rfl
theorem qrs:∀ {l:List qa} {g:Vector UInt8 16→Option qa} {id:Vector UInt8 16},qby l→l.foldl qlQ g id=jR (g id) (rO l id)
 | [],g,id,_=>by rw [qBp,qgA]; rfl
 | r::l,g,id,h=>by
  have hp:=List.pairwise_cons.1 h
  rw [List.foldl_cons,qrs hp.2,qgz,qnz]
  by_cases e:r.ID=id
  ·rw [if_pos e,if_pos e]
   have:rO l id=none:=by
    cases hc:rO l id with
    | none=>rfl
    | some x=>
     have:=hp.1 x (KS hc).1
     rw [e,(KS hc).2,qne] at this; cases this
   rw [this,qgA]
  ·rw [if_neg e,if_neg e]
def Z4 (id:Vector UInt8 16) (M:List (Vector UInt8 16×qa×Nat)):Option qa:=(fnd (β:=qa) (.ba 16) id M).map (·.1)
theorem qtX {q k:Vector UInt8 16} {p:qa} {c:Nat} {M:List (Vector UInt8 16×qa×Nat)}:Z4 q (Qz (β:=qa) (.ba 16) k p c M).2=if q=k then some p else Z4 q M:=by
 have:=@qnq (El (.ba 16)) qa (Z2 (.ba 16)) k q p c M
 rw [show Z4 q (Qz (β:=qa) (.ba 16) k p c M).2=@qnt (El (.ba 16)) qa (Z2 (.ba 16)) q (@qdx (El (.ba 16)) qa (Z2 (.ba 16)) k p c M).2 from rfl,this]
 by_cases h:q=k
 ·rw [if_pos h]; exact if_pos h
 ·rw [if_neg h]; exact if_neg h
structure qFm (l:List qa) (nm:List (Vector UInt8 16)) (M:List (Vector UInt8 16×qa×Nat)):Prop where
 nd:nm.Nodup
 val:∀ id,Z4 id M=l.foldl qlQ (fun _=>none) id
 mem:∀ id,id∈nm↔Z4 id M≠none
 ok:∀ id r,Z4 id M=some r→jF r=true∧r.ID=id
 len:nm.length≤l.length
def YW (M:List (Vector UInt8 16×qa×Nat)) (l:List (Vector UInt8 16)):List qa:=l.map fun id=>(Z4 id M).getD zR
theorem qCN {M:List (Vector UInt8 16×qa×Nat)} {id:Vector UInt8 16}:∀ {l:List (Vector UInt8 16)},(∀ i∈l,∃ r,Z4 i M=some r∧r.ID=i)→rO (YW M l) id=if id∈l then Z4 id M else none
 | [],_=>by rw [if_neg List.not_mem_nil]; rfl
 | i::l,h=>by
  obtain ⟨r,e,hr⟩:=h i (List.mem_cons_self ..)
  show rO ((Z4 i M).getD zR::YW M l) id=_
  rw [e,qgz,qCN fun j hj=>h j (List.mem_cons_of_mem _ hj)]
  by_cases c:i=id
  ·subst c
   rw [if_pos (show (Option.getD (some r) zR).ID=i from hr),if_pos (List.mem_cons_self ..),e]; rfl
  ·rw [if_neg (show ¬ (Option.getD (some r) zR).ID=id from fun h'=>c (hr.symm.trans h'))]
   by_cases m:id∈l
   ·rw [if_pos m,if_pos (List.mem_cons_of_mem _ m)]
   ·rw [if_neg m,if_neg (fun hm=>by rcases List.mem_cons.1 hm with e' | e'; exact c e'.symm; exact m e')]
section
variable {N:Nat} [Zg N]
theorem qsd {α:Type} {l:List (List α)} {k:Nat} (h:k < l.length):(l.take (k + 1)).flatten=(l.take k).flatten++l.getD k []:=by
 rw [qhi (d:=[]) h,List.flatten_append]; simp
theorem qxU {α:Type} {l:List (List α)} {k:Nat}:(l.take k).flatten.length≤l.flatten.length:=by
 have:(l.take k).flatten++(l.drop k).flatten=l.flatten:=by rw [← List.flatten_append,List.take_append_drop]
 rw [← this,List.length_append]; omega
theorem qAk {l:List (List qa)} (hl:l.length≤1000) (hf:l.flatten.length≤1000):Vt N l=some l.flatten:=by
 have hN:=big N
 have k1:Xx N l l ((l.length:Nat):Int) 0 0=some (((l.flatten.length:Nat):Int),((l.length:Nat):Int),false):=by
  refine QX (σ:=Unit) (B:=Zp N l l ((l.length:Nat):Int)) (g:=some) (at_:=fun k _=>((((l.take k).flatten.length:Nat):Int),(k:Int))) (I:=fun _ _=>True) (f:=fun _ s=>s) (n:=l.length)
   (fin:=fun _=>(((l.flatten.length:Nat):Int),((l.length:Nat):Int),false)) (fun k s hk _=>⟨?_,trivial⟩) (fun s _=>?_) N 0 () trivial (Nat.zero_le _) (by omega)
  ·have e1:(((l.take k).flatten.length:Nat):Int) + (((l.getD k []).length:Nat):Int)=(((l.take (k + 1)).flatten.length:Nat):Int):=by rw [qsd hk,List.length_append]; omega
   have h2:=qxU (l:=l) (k:=k + 1)
   unfold Zp
   refine w_t (dec_lt hk) (qz (vM (d:=[]) hk) ?_)
   dsimp only
   rw [e1]
   exact qY (by unfold qy; omega) (w_f (decide_eq_false (by omega)) (qY (QU (by omega)) (qD (by rw [zw]))))
  ·unfold Zp
   exact w_f (jw (Nat.lt_irrefl _)) (qD (by rw [jw (Nat.lt_irrefl _),List.take_of_length_le (Nat.le_refl _)]))
 have k2:ZF N l ((l.length:Nat):Int) [] 0=some (l.flatten,((l.length:Nat):Int),false):=by
  refine QX (σ:=Unit) (B:=Q1 N l ((l.length:Nat):Int)) (g:=some) (at_:=fun k _=>((l.take k).flatten,(k:Int))) (I:=fun _ _=>True) (f:=fun _ s=>s) (n:=l.length)
   (fin:=fun _=>(l.flatten,((l.length:Nat):Int),false)) (fun k s hk _=>⟨?_,trivial⟩) (fun s _=>?_) N 0 () trivial (Nat.zero_le _) (by omega)
  ·have h2:=qxU (l:=l) (k:=k + 1)
   unfold Q1
   refine w_t (dec_lt hk) (qz (vM (d:=[]) hk) ?_)
   dsimp only
   rw [← qsd hk]
   exact qY ⟨rfl,by unfold zh; omega⟩ (qY (QU (by omega)) (qD (by rw [zw])))
  ·unfold Q1
   exact w_f (jw (Nat.lt_irrefl _)) (qD (by rw [jw (Nat.lt_irrefl _),List.take_of_length_le (Nat.le_refl _)]))
 unfold Vt We
 refine qz k1 ?_
 by_cases h0:l.flatten.length=0
 ·have kg : ZH ((l.flatten.length : Nat) : Int) = some (.inr ()) := by
     unfold ZH Vs
     exact w_f (decide_eq_false (by omega)) (qY (by unfold qy; omega) (w_f (decide_eq_false (by omega)) (qD rfl)))
  exact qz kg (w_r rfl (qz ((jA rfl).trans k2) (qY rfl (qD rfl))))
 ·have kg : ZH ((l.flatten.length : Nat) : Int) = some (.inl ()) := by
     unfold ZH Vs
     exact w_f (decide_eq_false (by omega)) (qY (by unfold qy; omega) (w_t (decide_eq_true (by omega)) (qY ⟨by omega,by unfold zh; omega⟩ (qD rfl))))
  exact qz kg (w_l rfl (qz ((jA rfl).trans k2) (qY rfl (qD rfl))))
theorem qGf {r:qa} (h:jF r=true):KM r=some ():=by
 unfold KM qdk
 exact qz (qsc (by have:=qbd h; omega)) (qD rfl)
theorem qEx {L : List qa} (hl : L.length ≤ 1000) (hr : ∀ r ∈ L, jF r = true) :
    ∃ nm c M,qdE N [] L ((L.length:Nat):Int) [] 0 [] 0=some (nm,c,M,((L.length:Nat):Int),false)∧qFm L nm M:=by
 have hN:=big N
 have key:∃ y,q0 (Vu N [] L ((L.length:Nat):Int)) some N ([],0,[],((0:Nat):Int))=some y∧∃ nm c M,y=(nm,c,M,((L.length:Nat):Int),false)∧qFm L nm M:=by
  refine qhE (I:=fun v=>∃ (k:Nat) (nm:List (Vector UInt8 16)) (c:Nat) (M:List (Vector UInt8 16×qa×Nat)),k≤L.length∧v=(nm,c,M,(k:Int))∧qFm (L.take k) nm M) (fun v=>L.length - v.2.2.2.toNat) ?_ N _ ⟨0,[],0,[],Nat.zero_le _,rfl,⟨List.nodup_nil,fun _=>rfl,fun id=>⟨fun h=>absurd h List.not_mem_nil,fun h=>(h rfl).elim⟩,fun _ _ h=>(by cases h),Nat.le_refl _⟩⟩ (by simp; omega)
  rintro v ⟨k,nm,c,M,hk,rfl,hi⟩
  by_cases h:k < L.length
  ·left
   have hmem:L.getD k zR∈L:=by rw [List.getD_eq_getElem?_getD,List.getElem?_eq_getElem h]; exact List.getElem_mem h
   have hrec:=hr _ hmem
   have et:∀ id,(L.take (k + 1)).foldl qlQ (fun _=>none) id=qlQ ((L.take k).foldl qlQ fun _=>none) (L.getD k zR) id:=fun id=>by
    rw [qhi (d:=zR) h,List.foldl_append]; rfl
   have hlk:(L.take k).length=k:=by rw [List.length_take]; omega
   have hlk1:(L.take (k + 1)).length=k + 1:=by rw [List.length_take]; omega
   have hv:=hi.val (L.getD k zR).ID
   have hnl:=hi.len
   cases e:fnd (β:=qa) (.ba 16) (L.getD k zR).ID M with
   | none=>
    have hn:Z4 (L.getD k zR).ID M=none:=by unfold Z4; rw [e]; rfl
    rw [hn] at hv
    refine ⟨(nm++[(L.getD k zR).ID],(Qz (.ba 16) (qa.ID (L.getD k zR)) (L.getD k zR) c M).1,(Qz (.ba 16) (qa.ID (L.getD k zR)) (L.getD k zR) c M).2,((k + 1:Nat):Int)),?_,⟨k + 1,_,_,_,h,rfl,?_⟩,by simp only [Int.toNat_natCast]; omega⟩
    ·unfold Vu
     exact w_t (dec_lt h) (qz (vM (d:=zR) h) (quB e (qY ⟨rfl,by rw [List.length_append]; unfold zh; simp; omega⟩ (qz (qGf hrec) (qY (QU (by omega)) (qD (by rw [zw]; rfl)))))))
    ·have hpv:∀ id,Z4 id (Qz (.ba 16) (qa.ID (L.getD k zR)) (L.getD k zR) c M).2=if id=(L.getD k zR).ID then some (L.getD k zR) else Z4 id M:=fun id=>qtX
     refine ⟨?_,fun id=>?_,fun id=>?_,fun id r hr'=>?_,?_⟩
     ·refine List.nodup_append.2 ⟨hi.nd,List.nodup_cons.2 ⟨List.not_mem_nil,List.nodup_nil⟩,fun a ha b hb=>?_⟩
      obtain rfl:=List.mem_singleton.1 hb
      intro hab
      rw [hab] at ha
      exact (hi.mem _).1 ha hn
     ·rw [hpv,et,qnz]
      by_cases q:id=(L.getD k zR).ID
      ·rw [if_pos q,if_pos q.symm,q,← hv]; rfl
      ·rw [if_neg q,if_neg (fun x=>q x.symm),hi.val]
     ·rw [hpv,List.mem_append,List.mem_singleton,hi.mem]
      by_cases q:id=(L.getD k zR).ID
      ·rw [if_pos q]; exact ⟨fun _=>by simp,fun _=>.inr q⟩
      ·rw [if_neg q]; exact ⟨fun x=>x.resolve_right q,fun x=>.inl x⟩
     ·rw [hpv] at hr'
      by_cases q:id=(L.getD k zR).ID
      ·rw [if_pos q] at hr'
       obtain rfl:=Option.some.inj hr'
       exact ⟨hrec,q.symm⟩
      ·rw [if_neg q] at hr'; exact hi.ok id r hr'
     ·rw [hlk1,List.length_append]; simp; omega
   | some x=>
    have hn:Z4 (L.getD k zR).ID M=some x.1:=by unfold Z4; rw [e]; rfl
    rw [hn] at hv
    have hx:=hi.ok _ _ hn
    have ej:=qH0 (N:=N) hx.1 hrec hx.2
    refine ⟨(nm,(Qz (.ba 16) (qa.ID (L.getD k zR)) (rJ x.1 (L.getD k zR)) c M).1,(Qz (.ba 16) (qa.ID (L.getD k zR)) (rJ x.1 (L.getD k zR)) c M).2,((k + 1:Nat):Int)),?_,⟨k + 1,_,_,_,h,rfl,?_⟩,by simp only [Int.toNat_natCast]; omega⟩
    ·unfold Vu
     exact w_t (dec_lt h) (qz (vM (d:=zR) h) (qqt e (qz ej (qY (QU (by omega)) (qD (by rw [zw]))))))
    ·have hpv:∀ id,Z4 id (Qz (.ba 16) (qa.ID (L.getD k zR)) (rJ x.1 (L.getD k zR)) c M).2=if id=(L.getD k zR).ID then some (rJ x.1 (L.getD k zR)) else Z4 id M:=fun id=>qtX
     refine ⟨hi.nd,fun id=>?_,fun id=>?_,fun id r hr'=>?_,?_⟩
     ·rw [hpv,et,qnz]
      by_cases q:id=(L.getD k zR).ID
      ·rw [if_pos q,if_pos q.symm,q,← hv]; rfl
      ·rw [if_neg q,if_neg (fun x=>q x.symm),hi.val]
     ·rw [hpv,hi.mem]
      by_cases q:id=(L.getD k zR).ID
      ·rw [if_pos q,q,hn]; simp
      ·rw [if_neg q]
     ·rw [hpv] at hr'
      by_cases q:id=(L.getD k zR).ID
      ·rw [if_pos q] at hr'
       obtain rfl:=Option.some.inj hr'
       exact ⟨qvp hx.1 hrec,by rw [qHU,hx.2,q]⟩
      ·rw [if_neg q] at hr'; exact hi.ok id r hr'
     ·rw [hlk1]; omega
  ·right
   obtain rfl:k=L.length:=by omega
   rw [List.take_of_length_le (Nat.le_refl _)] at hi
   refine ⟨(nm,c,M,((L.length:Nat):Int),false),_,?_,rfl,nm,c,M,rfl,hi⟩
   unfold Vu
   exact w_f (jw (Nat.lt_irrefl _)) (qD (by rw [jw (Nat.lt_irrefl _)]))
 obtain ⟨y,e,nm,c,M,rfl,h⟩:=key
 exact ⟨nm,c,M,e,h⟩
theorem qGx {nm : List (Vector UInt8 16)} {c n : Nat} {M : List (Vector UInt8 16 × qa × Nat)} (hn : nm.length = n) (hl : n ≤ 1000) (h : ∀ i ∈ nm, ∃ r, Z4 i M = some r ∧ r.ID = i) :
    qcG N [] nm c M n ((n:Nat):Int) [] 0=some (YW M nm,((n:Nat):Int),false):=by
 subst hn
 have hN:=big N
 refine QX (σ:=Unit) (B:=Wn N [] nm c M nm.length ((nm.length:Nat):Int)) (g:=some) (at_:=fun k _=>(YW M (nm.take k),(k:Int))) (I:=fun _ _=>True) (f:=fun _ s=>s) (n:=nm.length)
  (fin:=fun _=>(YW M nm,((nm.length:Nat):Int),false)) (fun k s hk _=>⟨?_,trivial⟩) (fun s _=>?_) N 0 () trivial (Nat.zero_le _) (by omega)
 ·have hmem:nm.getD k (Vector.replicate 16 0)∈nm:=by rw [List.getD_eq_getElem?_getD,List.getElem?_eq_getElem hk]; exact List.getElem_mem hk
  obtain ⟨r,hr,_⟩:=h _ hmem
  have hf:∃ x,fnd (β:=qa) (.ba 16) (nm.getD k (Vector.replicate 16 0)) M=some x∧x.1=r:=by
   unfold Z4 at hr
   cases e:fnd (β:=qa) (.ba 16) (nm.getD k (Vector.replicate 16 0)) M with
   | none=>rw [e] at hr; cases hr
   | some x=>rw [e] at hr; exact ⟨x,rfl,Option.some.inj hr⟩
  obtain ⟨x,ex,hx⟩:=hf
  have eo:YW M (nm.take (k + 1))=YW M (nm.take k)++[x.1]:=by
   unfold YW
   rw [qhi (d:=Vector.replicate 16 0) hk,List.map_append,List.map_cons,hr,hx]; rfl
  have cav:Vc (YW M (nm.take k)).length (YW M (nm.take k)).length (YW M (nm.take k)++[x.1]).length 56:=⟨rfl,by
   rw [List.length_append]; unfold YW; rw [List.length_map,List.length_take]; unfold zh; simp; omega⟩
  unfold Wn
  exact w_t (dec_lt hk) (qY ⟨by show (0:Int)≤(k:Int); omega,by show (k:Int) < _; omega⟩ (qz (qHn rfl hk) (qqt ex (qY cav (qY (QU (by omega)) (qD (by rw [zw,eo])))))))
 ·unfold Wn
  exact w_f (jw (Nat.lt_irrefl _)) (qD (by rw [jw (Nat.lt_irrefl _),List.take_of_length_le (Nat.le_refl _)]))
theorem qlB {b:qc} (h:zM b=true):QH N b:=by
 have hN:=big N
 have hb:=WR.1 h
 exact ⟨by omega,by omega,fun k hk=>by have:=qbd (hb.1 k hk).1; exact ⟨by omega,by omega⟩⟩
def qpu (c:List qa):qc×Int:=if c.length≤10 then (qc.mk c,0) else (qc.mk [],4)
theorem qwq {a b:qc} (ha:zM a=true) (hb:zM b=true):∃ c,qoV a.R b.R c∧VZ N a b=some (qpu c):=by
 have hA:=Xy.1 ha
 have hB:=Xy.1 hb
 have hfl:[a.R,b.R].flatten=a.R++b.R:=by simp
 have hll:(a.R++b.R).length≤20:=by rw [List.length_append]; omega
 have ec:=qAk (N:=N) (l:=[a.R,b.R]) (by simp) (by rw [hfl]; omega)
 rw [hfl] at ec
 obtain ⟨nm,c,M,el,hi⟩:=qEx (N:=N) (L:=a.R++b.R) (by omega) (fun r hr=>by
  rcases List.mem_append.1 hr with h | h
  ·exact hA.1.2 r h
  ·exact hB.1.2 r h)
 have hval:∀ id,Z4 id M=jR (rO a.R id) (rO b.R id):=fun id=>by
  rw [hi.val,List.foldl_append,qrs hB.1.1,qrs hA.1.1]; rfl
 obtain ⟨hs,hp⟩:=qDE hi.nd
 have hin:∀ i∈vF nm,∃ r,Z4 i M=some r∧r.ID=i:=fun i h=>by
  have:=(hi.mem i).1 (hp.mem_iff.1 h)
  cases e:Z4 i M with
  | none=>exact (this e).elim
  | some r=>exact ⟨r,rfl,(hi.ok i r e).2⟩
 have hlen:(YW M (vF nm)).length=nm.length:=by unfold YW; rw [List.length_map,hp.length_eq]
 refine ⟨YW M (vF nm),⟨?_,fun id=>?_⟩,?_⟩
 ·unfold qby YW
  rw [List.pairwise_map]
  refine (List.Pairwise.and_mem.1 hs).imp fun {i j} h=>?_
  obtain ⟨r,e1,h1⟩:=hin i h.1
  obtain ⟨s,e2,h2⟩:=hin j h.2.1
  rw [e1,e2]
  show lbB r.ID s.ID=true
  rw [h1,h2]; exact h.2.2
 ·rw [qCN hin,← hval]
  by_cases m:id∈vF nm
  ·rw [if_pos m]
  ·rw [if_neg m]
   cases e:Z4 id M with
   | none=>rfl
   | some r=>exact (m (hp.mem_iff.2 ((hi.mem id).2 (by rw [e]; simp)))).elim
 ·have hnl:=hi.len
  unfold VZ qbJ
  refine qz (qik (qlB ha)) (w_f (by rw [ha]; rfl) (qz (qik (qlB hb)) (w_f (by rw [hb]; rfl) (qz ec (qz ((jA rfl).trans ((jA rfl).trans el)) ?_)))))
  unfold qpu
  rw [hlen]
  by_cases h10:nm.length≤10
  ·rw [if_pos h10]
   exact w_f (decide_eq_false (by show ¬ (10:Int) < ((nm.length:Nat):Int); omega)) (qz ((jA rfl).trans (qF8 (by show nm.length≤12; omega))) (qz ((jA rfl).trans ((jA rfl).trans (qGx hp.length_eq (by show nm.length≤1000; omega) hin))) (qY rfl (qD rfl))))
  ·rw [if_neg h10]
   exact w_t (decide_eq_true (by show (10:Int) < ((nm.length:Nat):Int); omega)) (qY rfl (qD rfl))
theorem qv6 {a b:qc} (fa:QH N a) (fb:QH N b) (h:¬ (zM a=true∧zM b=true)):VZ N a b=some (qc.mk [],1):=by
 unfold VZ qbJ
 refine qz (qik fa) ?_
 cases ha:zM a with
 | false=>exact w_t rfl (qY rfl (qD rfl))
 | true=>
  refine w_f rfl (qz (qik fb) ?_)
  cases hb:zM b with
  | false=>exact w_t rfl (qY rfl (qD rfl))
  | true=>exact (h ⟨ha,hb⟩).elim
end
end Go.Rx
end
set_option maxRecDepth 100000
noncomputable section
namespace Go.Rx
open Go.Proofs
def ZL (p:qa):Bool:=decide (p.zq=zSt)&&decide (p.F.length=0)
end Go.Rx
end
set_option maxRecDepth 100000
noncomputable section
namespace Go.Rx
open Go.Proofs
def jB (N:Nat) (a b:qc):qc×Int:=(VZ N a b).getD (qc.mk [],0)
def Zq (p:qa):qa:=qa.mk p.ID p.zq []
def vT (p:qa):qa:=qa.mk p.ID zSt p.F
def vI (N:Nat) (b:qc) (e:qa):qc×Int:=if ZL e=true then (b,0) else jB N b (qc.mk [e])
theorem qtV {N:Nat} {b:qc} {e:qa} (h:ZL e=true):vI N b e=(b,0):=if_pos h
theorem quD {N:Nat} {b:qc} {e:qa} (h:ZL e=false):vI N b e=jB N b (qc.mk [e]):=if_neg (by rw [h]; simp)
def qq4 (N:Nat) (b:qc) (e1 e2:qa):qc×Int:=
 if (vI N b e1).2=0 then (if (vI N (vI N b e1).1 e2).2=0 then ((vI N (vI N b e1).1 e2).1,0) else (qc.mk [],(vI N (vI N b e1).1 e2).2)) else (qc.mk [],(vI N b e1).2)
def quA (b:qc) (p:qa):Bool:=zM b&&(!ZL p&&(stB p.zq&&(decide (p.F.length=0)||jF (vT p))))
def Xi (N:Nat) (b:qc) (p:qa):qc×Int:=if quA b p=true then qq4 N b (Zq p) (vT p) else (qc.mk [],1)
section
variable {N:Nat} [Zg N]
theorem qHM {a b:qc} (fa:QH N a) (fb:QH N b):VZ N a b=some (jB N a b):=by
 unfold jB
 by_cases h:zM a=true∧zM b=true
 ·obtain ⟨c,_,e⟩:=qwq (N:=N) h.1 h.2
  rw [e]; rfl
 ·rw [qv6 fa fb h]; rfl
theorem qDb {a b:qc} (ha:zM a=true) (hb:zM b=true):∃ c,qoV a.R b.R c∧jB N a b=qpu c:=by
 obtain ⟨c,hc,e⟩:=qwq (N:=N) ha hb
 exact ⟨c,hc,by unfold jB; rw [e]; rfl⟩
theorem qHZ {a b:qc} (fa:QH N a) (fb:QH N b) (h:¬ (zM a=true∧zM b=true)):jB N a b=(qc.mk [],1):=by
 unfold jB
 rw [qv6 fa fb h]; rfl
theorem qyg {a b:qc} (fa:QH N a) (fb:QH N b) (h:(jB N a b).2=0):zM a=true∧zM b=true∧qoV a.R b.R (jB N a b).1.R∧zM (jB N a b).1=true:=by
 by_cases hab:zM a=true∧zM b=true
 ·obtain ⟨c,hc,e⟩:=qDb (N:=N) hab.1 hab.2
  rw [e] at h ⊢
  unfold qpu at h ⊢
  by_cases h10:c.length≤10
  ·rw [if_pos h10] at h ⊢
   exact ⟨hab.1,hab.2,hc,Xy.2 ⟨qCO (Xy.1 hab.1).1 (Xy.1 hab.2).1 hc,h10⟩⟩
  ·rw [if_neg h10] at h; cases h
 ·rw [qHZ fa fb hab] at h; cases h
theorem qnZ {e:qa} (h1:e.F.length < N) (h2:e.F.length≤4611686018427387904):QH N (qc.mk [e]):=by
 have:=big N
 refine ⟨by show 1 < N; omega,by show 1≤4611686018427387904; omega,fun k hk=>?_⟩
 have hk:k < 1:=hk
 obtain rfl:k=0:=by omega
 exact ⟨h1,h2⟩
theorem qBT {b:qc} {e:qa} (fb:QH N b) (h1:e.F.length < N) (h2:e.F.length≤4611686018427387904) (h:(vI N b e).2=0):QH N (vI N b e).1:=by
 unfold vI at *
 split
 ·exact fb
 ·rename_i hn
  rw [if_neg hn] at h
  exact qlB (qyg fb (qnZ h1 h2) h).2.2.2
theorem qsf {b : qc} {e : qa} {s47 : List qa} {k : Nat} (hk : k < s47.length) (hs : s47.length ≤ 10) (he : s47.getD k zR = e) (fb : QH N b) (h1 : e.F.length < N) (h2 : e.F.length ≤ 4611686018427387904) :
    (VW N [] s47 ((s47.length:Nat):Int) (b,(k:Int))).run some=some (if (vI N b e).2=0 then .inl ((vI N b e).1,((k + 1:Nat):Int)) else .inr (.inr (vI N b e).2)):=by
 unfold VW
 refine w_t (dec_lt hk) <| qz ((vM (d:=zR) hk).trans (by rw [he])) <| qz (by
  have e0:eqE qn (qa.zq e) (qe.mk 0 0)=decide (e.zq=zSt):=qkw _ _
  have e2:decide (((e.F.length:Nat):Int)=0)=decide (e.F.length=0):=decide_eq_decide.2 (by omega)
  show Xp e=some (ZL e)
  unfold Xp qaO ZL
  refine jW e0 (fun h=>qD ?_) fun h=>qD ?_
  ·rw [h]; exact congrArg some e2
  ·rw [h]; rfl) ?_
 cases hn:ZL e with
 | true=>
  rw [qtV hn]
  exact w_t rfl <| qY (QU (by omega)) <| qD (by rw [zw]; rfl)
 | false=>
  rw [quD hn]
  refine w_f rfl <| qz (qHM fb (qnZ h1 h2)) ?_
  by_cases hz:(jB N b (qc.mk [e])).2=0
  ·rw [if_pos hz]
   exact w_f (by rw [decide_eq_true hz]; rfl) <| qY (QU (by omega)) <| qD (by rw [zw])
  ·rw [if_neg hz]
   exact w_t (by rw [decide_eq_false hz]; rfl) <| qD rfl
theorem qFA {b : qc} {e1 e2 : qa} (fb : QH N b) (h1 : e1.F.length < N ∧ e1.F.length ≤ 4611686018427387904) (h2 : e2.F.length < N ∧ e2.F.length ≤ 4611686018427387904) :
    ∃ z,Vz N [] [e1,e2] ((([e1,e2]:List qa).length:Nat):Int) b 0=some z∧(match z with | .inl w=>(w.1,(0:Int)) | .inr e=>(qc.mk [],e))=qq4 N b e1 e2:=by
 obtain ⟨M,hM⟩:∃ M,N=M + 3:=⟨N - 3,by have:=big N; omega⟩
 have s0:Vz N [] [e1,e2] ((([e1,e2]:List qa).length:Nat):Int) b 0=q0 (VW N [] [e1,e2] ((([e1,e2]:List qa).length:Nat):Int)) some (M + 3) (b,((0:Nat):Int)):=by rw [← hM]; rfl
 rw [s0]
 have r1:=qsf (N:=N) (b:=b) (e:=e1) (s47:=[e1,e2]) (k:=0) (by simp) (by simp) rfl fb h1.1 h1.2
 unfold qq4
 by_cases z1:(vI N b e1).2=0
 ·rw [if_pos z1] at r1 ⊢
  rw [Ja r1]
  have r2:=qsf (N:=N) (b:=(vI N b e1).1) (e:=e2) (s47:=[e1,e2]) (k:=1) (by simp) (by simp) rfl (qBT fb h1.1 h1.2 z1) h2.1 h2.2
  by_cases z2:(vI N (vI N b e1).1 e2).2=0
  ·rw [if_pos z2] at r2 ⊢
   rw [Ja r2,zK (x:=.inl ((vI N (vI N b e1).1 e2).1,((2:Nat):Int),false)) (by
    unfold VW
    exact w_f rfl (qD rfl))]
   exact ⟨_,rfl,rfl⟩
  ·rw [if_neg z2] at r2 ⊢
   rw [zK r2]
   exact ⟨_,rfl,rfl⟩
 ·rw [if_neg z1] at r1 ⊢
  rw [zK r1]
  exact ⟨_,rfl,rfl⟩
theorem qCg {b:qc} {p:qa} (fb:QH N b) (h1:p.F.length < N) (h2:p.F.length≤4611686018427387904):V4 N b p=some (Xi N b p):=by
 have hN:=big N
 have hn:Xp p=some (ZL p):=by
  have e0:eqE qn (qa.zq p) (qe.mk 0 0)=decide (p.zq=zSt):=qkw _ _
  have e2:decide (((p.F.length:Nat):Int)=0)=decide (p.F.length=0):=decide_eq_decide.2 (by omega)
  unfold Xp qaO ZL
  refine jW e0 (fun h=>qD ?_) fun h=>qD ?_
  ·rw [h]; exact congrArg some e2
  ·rw [h]; rfl
 obtain ⟨z,ez,hz⟩:=qFA (N:=N) (b:=b) (e1:=Zq p) (e2:=vT p) fb ⟨by show 0 < N; omega,Nat.zero_le _⟩ ⟨h1,h2⟩
 have fin:(Tree.bind (jN [(([]:List qa).length,0)] (Vz N [] [Zq p,vT p] ((([Zq p,vT p]:List qa).length:Nat):Int) b 0)) fun z5=>.sum z5 (fun z6=>.ret (z6.1,(0:Int))) fun z6=>.chk (0=0) (.ret (qc.mk [],z6))).run some=some (qq4 N b (Zq p) (vT p)):=by
  refine qz ((jA rfl).trans ez) ?_
  rw [← hz]
  cases z with
  | inl w=>rfl
  | inr e=>exact w_r rfl <| qY rfl <| qD rfl
 unfold V4 qf4 Xi quA
 refine qz (qik fb) ?_
 cases hb:zM b with
 | false=>exact w_t rfl <| qY rfl <| qD rfl
 | true=>
  refine w_f rfl <| qz hn ?_
  cases hnp:ZL p with
  | true=>exact w_t rfl <| qY rfl <| qD rfl
  | false=>
   refine w_f rfl <| qz (qhm _) ?_
   have hst:stB (qa.zq p)=stB p.zq:=rfl
   rw [hst]
   cases hs:stB p.zq with
   | false=>exact w_t rfl <| qY rfl <| qD rfl
   | true=>
    refine w_f rfl ?_
    by_cases h0:p.F.length=0
    ·rw [decide_eq_true h0]
     exact w_f (decide_eq_false (by show ¬ (0:Int) < ((p.F.length:Nat):Int); omega)) fin
    ·rw [decide_eq_false h0]
     refine w_t (decide_eq_true (by show (0:Int) < ((p.F.length:Nat):Int); omega)) <| qz (qlK (r:=vT p) h1 h2) ?_
     cases hr:jF (vT p) with
     | false=>exact w_t rfl <| qY rfl <| qD rfl
     | true=>exact w_f rfl fin
end
end Go.Rx
end
set_option maxRecDepth 100000
noncomputable section
namespace Go.Rx
open Go.Proofs
end Go.Rx
end
set_option maxRecDepth 100000
noncomputable section
namespace Go.Rx
open Go.Proofs
end Go.Rx
end
set_option maxRecDepth 100000
noncomputable section
namespace Go.Rx
open Go.Proofs
def oP (e:qa) (id:Vector UInt8 16):Option qa:=if ZL e=true then none else rO [e] id
theorem qyx {p:qa} (hs:stB p.zq=true):ZL (Zq p)=true∨jF (Zq p)=true:=by
 by_cases h:p.zq=zSt
 ·left
  show (decide (p.zq=zSt)&&true)=true
  rw [decide_eq_true h]; rfl
 ·right
  exact Wv.2 ⟨hs,.inr h,List.Pairwise.nil,fun f hf=>absurd hf List.not_mem_nil⟩
section
variable {N:Nat} [Zg N]
theorem qk0 {b : qc} {e : qa} (hb : zM b = true) (h1 : e.F.length < N) (h2 : e.F.length ≤ 4611686018427387904) (h : (vI N b e).2 = 0) :
    zM (vI N b e).1=true∧∀ id,rO (vI N b e).1.R id=jR (rO b.R id) (oP e id):=by
 cases hn:ZL e with
 | true=>
  rw [qtV hn]
  refine ⟨hb,fun id=>?_⟩
  unfold oP
  rw [if_pos hn,qgA]
 | false=>
  rw [quD hn] at h ⊢
  obtain ⟨_,_,hj,hv⟩:=qyg (qlB hb) (qnZ h1 h2) h
  refine ⟨hv,fun id=>?_⟩
  rw [hj.2 id]
  unfold oP
  rw [if_neg (by rw [hn]; simp)]; rfl
theorem qsl {b:qc} {p:qa} (h:(Xi N b p).2=0):quA b p=true∧(vI N b (Zq p)).2=0∧(vI N (vI N b (Zq p)).1 (vT p)).2=0∧Xi N b p=((vI N (vI N b (Zq p)).1 (vT p)).1,0):=by
 unfold Xi qq4 at *
 split at h
 ·rename_i h1
  rw [if_pos h1]
  split at h
  ·rename_i h2
   rw [if_pos h2]
   split at h
   ·rename_i h3
    rw [if_pos h3]
    exact ⟨h1,h2,h3,rfl⟩
   ·rename_i h3
    exact (h3 h).elim
  ·rename_i h2
   exact (h2 h).elim
 ·cases h
theorem qob {b:qc} {p:qa}:quA b p=true↔zM b=true∧ZL p=false∧stB p.zq=true∧(p.F.length=0∨jF (vT p)=true):=by
 unfold quA
 rw [Bool.and_eq_true,Bool.and_eq_true,Bool.and_eq_true,Bool.or_eq_true,Bool.not_eq_true',decide_eq_true_iff]
theorem qyf {p:qa} (h:p.F.length=0∨jF (vT p)=true):ZL (vT p)=true∨jF (vT p)=true:=by
 refine h.imp (fun h0=>?_) id
 show (true&&decide (p.F.length=0))=true
 rw [decide_eq_true h0]; rfl
theorem qF9 {b : qc} {p : qa} (h1 : p.F.length < N) (h2 : p.F.length ≤ 4611686018427387904) (h : (Xi N b p).2 = 0) :
    zM b=true∧zM (Xi N b p).1=true∧(∀ id,rO (Xi N b p).1.R id=jR (jR (rO b.R id) (oP (Zq p) id)) (oP (vT p) id)):=by
 obtain ⟨ha,z1,z2,e⟩:=qsl h
 obtain ⟨hb,hn,hs,hl⟩:=qob.1 ha
 obtain ⟨v1,r1⟩:=qk0 (e:=Zq p) hb (by have:=big N; show 0 < N; omega) (Nat.zero_le _) z1
 obtain ⟨v2,r2⟩:=qk0 (e:=vT p) v1 h1 h2 z2
 rw [e]
 exact ⟨hb,v2,fun id=>by rw [r2,r1]⟩
end
end Go.Rx
end
set_option maxRecDepth 100000
noncomputable section
namespace Go.Rx
open Go.Proofs
def qHo (o:qg):qa:=qa.mk o.ID o.S []
def qao (o:qg) (v:List UInt8):qa:=qa.mk o.ID zSt [qb.mk o.No (qd.mk o.S v)]
def Xl (b:qc) (id:Vector UInt8 16) (no:Int):List UInt8×Int:=
 if (cellAt (recAt b id).1 no).2=true then ((cellAt (recAt b id).1 no).1.V,0) else ([],6)
def qcw (o:qg) (x:List UInt8×Int):List UInt8×Int:=if x.2=0 then (if Jz x.1=o.D then x else ([],7)) else x
def qni (N:Nat) (b:qc) (o:qg) (x:List UInt8×Int):qc×Int:=if x.2=0 then Xi N b (qao o x.1) else (qc.mk [],x.2)
theorem qp3 {b:qc} (h:zM b=true) (id:Vector UInt8 16):(recAt b id).1.F.length≤8:=by
 unfold recAt
 cases e:qld b.R id with
 | none=>exact Nat.zero_le _
 | some i=>exact qbd ((WR.1 h).1 i (qaE e).1).1
theorem qxw {b:qc} (h:zM b=true) (id:Vector UInt8 16) (no:Int):(cellAt (recAt b id).1 no).1.V.length≤200:=by
 unfold cellAt
 cases e:qnD (recAt b id).1.F no with
 | none=>exact Nat.zero_le _
 | some j=>
  unfold recAt at e ⊢
  cases e2:qld b.R id with
  | none=>rw [e2] at e; cases e
  | some i=>
   rw [e2] at e
   exact qhW (qpK ((WR.1 h).1 i (qaE e2).1).1 j (qaE e).1)
section
variable {N:Nat} [Zg N]
theorem qDO {b:qc} (h:zM b=true) (o:qg) (id:Vector UInt8 16) (no:Int):Vw N (qV.mk b o) id no=some (Xl b id no):=by
 unfold Vw KE Xl
 refine qz (qvR h id) <| qz (qEZ (qp3 h id) no) ?_
 cases e:(cellAt (recAt b id).1 no).2 with
 | true=>exact w_f rfl (qD rfl)
 | false=>exact w_t rfl (qD rfl)
theorem qGm (b:qc) (o:qg) {v:List UInt8} {e:Int} (h:v.length≤50000):Vn N (qV.mk b o) v e=some (qcw o (v,e)):=by
 unfold Vn Wi qcw
 refine jW rfl (fun h0=>?_) fun h0=>qD (by rw [if_neg (of_decide_eq_false h0)])
 rw [if_pos (of_decide_eq_true h0)]
 refine qz (qhR h) ?_
 have e2:eqE (.ba 32) (Jz v) (qg.D (qV.o (qV.mk b o)))=decide (Jz v=o.D):=qET _ _
 refine jW (by rw [e2]) (fun h1=>qD ?_) fun h1=>qD ?_
 ·rw [Bool.not_eq_true'] at h1
  exact congrArg some (if_neg (of_decide_eq_false h1)).symm
 ·rw [Bool.not_eq_false'] at h1
  exact congrArg some (if_pos (of_decide_eq_true h1)).symm
theorem qAY {b:qc} (h:zM b=true) (o:qg):Xv N (qV.mk b o)=some (qcw o (Xl b o.WS o.Jt)):=by
 unfold Xv Ww
 have hl:(Xl b o.WS o.Jt).1.length≤50000:=by
  unfold Xl
  split
  ·have:=qxw h o.WS o.Jt; show (cellAt (recAt b o.WS).1 o.Jt).1.V.length≤50000; omega
  ·exact Nat.zero_le _
 exact qz (qDO h o _ _) <| qz (qGm b o hl) <| qD rfl
def qDJ (b:qc) (o:qg) (m:List UInt8×Int):List UInt8×Int:=if o.Kind=1 then (o.V,0) else if o.Kind=2 then qcw o (Xl b o.WS o.Jt) else m
def doD (N:Nat) (b:qc) (o:qg) (m:List UInt8×Int):qc×Int:=
 if zM b=true∧opB o=true then (if o.Kind=0 then Xi N b (qHo o) else qni N b o (qDJ b o m)) else (qc.mk [],1)
theorem qFF {o:qg} (h:opB o=true):0≤o.Kind∧o.Kind < 4:=by
 unfold opB at h
 simp only [Bool.and_eq_true,Bool.not_eq_true',decide_eq_false_iff_not] at h
 omega
theorem qHX {b:qc} {o:qg} (fb:QH N b) (hl:(qg.P o).length < N) (hl2:(qg.P o).length≤1000000000000000) (hk:o.Kind≠3) (m:List UInt8×Int):qtQ N b o=some (doD N b o m):=by
 have hN:=big N
 have add1:∀ v,V4 N b (qao o v)=some (Xi N b (qao o v)):=fun v=>qCg fb (by show 1 < N; omega) (by show 1≤4611686018427387904; omega)
 unfold qtQ qro doD
 refine qz (qik fb) ?_
 cases hb:zM b with
 | false=>exact w_t rfl <| qY rfl <| qD (by rw [if_neg (fun h=>by cases h.1)])
 | true=>
  refine w_f rfl <| qz (quS hl hl2) ?_
  cases ho:opB o with
  | false=>exact w_t rfl <| qY rfl <| qD (by rw [if_neg (fun h=>by cases h.2)])
  | true=>
   refine w_f rfl ?_
   rw [if_pos ⟨rfl,rfl⟩]
   unfold qDJ
   refine jW rfl (fun h0=>?_) fun h0=>?_
   ·rw [if_pos (of_decide_eq_true h0)]
    exact qY (by omega) <| qz (qCg (p:=qHo o) fb (by show 0 < N; omega) (Nat.zero_le _)) <| qD rfl
   rw [if_neg (of_decide_eq_false h0)]
   refine jW rfl (fun h1=>?_) fun h1=>?_
   ·rw [if_pos (of_decide_eq_true h1)]
    exact qY (by omega) <| qz (show qcJ (qV.mk b o)=some () from rfl) <| qz (add1 o.V) <| qD rfl
   rw [if_neg (of_decide_eq_false h1)]
   refine jW rfl (fun h2=>?_) fun h2=>?_
   ·rw [if_pos (of_decide_eq_true h2)]
    refine qY (by omega) <| qz (qAY hb o) ?_
    unfold qni
    by_cases hz:(qcw o (Xl b o.WS o.Jt)).2=0
    ·rw [if_pos hz]
     exact w_f (by rw [decide_eq_true hz]; rfl) <| qz (add1 _) <| qD rfl
    ·rw [if_neg hz]
     exact w_t (by rw [decide_eq_false hz]; rfl) <| qY rfl <| qD rfl
   have:=qFF ho
   have h0:=of_decide_eq_false h0; have h1:=of_decide_eq_false h1; have h2:=of_decide_eq_false h2
   exact (hk (by omega)).elim
end
end Go.Rx
end
set_option maxRecDepth 100000
noncomputable section
namespace Go.Rx
open Go.Proofs
end Go.Rx
end
set_option maxRecDepth 100000
noncomputable section
namespace Go.Rx
open Go.Proofs
def qHr (p:qa):Prop:=(ZL (Zq p)=true∨jF (Zq p)=true)∧(ZL (vT p)=true∨jF (vT p)=true)
def jP (a:Option qa) (p:qa) (id:Vector UInt8 16):Option qa:=jR (jR a (oP (Zq p) id)) (oP (vT p) id)
section
variable {N:Nat} [Zg N]
theorem qCY {b : qc} {p : qa} (h1 : p.F.length < N) (h2 : p.F.length ≤ 4611686018427387904) (h : (Xi N b p).2 = 0) :
    zM b=true∧zM (Xi N b p).1=true∧qHr p∧∀ id,rO (Xi N b p).1.R id=jP (rO b.R id) p id:=by
 obtain ⟨hb,hc,hr⟩:=qF9 h1 h2 h
 obtain ⟨_,_,hs,hl⟩:=qob.1 (qsl h).1
 exact ⟨hb,hc,⟨qyx hs,qyf hl⟩,hr⟩
end
end Go.Rx
end
set_option maxRecDepth 100000
noncomputable section
namespace Go.Rx
open Go.Proofs
end Go.Rx
end
set_option maxRecDepth 100000
noncomputable section
namespace Go.Rx
open Go.Proofs
end Go.Rx
end
set_option maxRecDepth 100000
noncomputable section
namespace Go.Rx
open Go.Proofs
end Go.Rx
end
set_option maxRecDepth 100000
noncomputable section
namespace Go.Rx
open Go.Proofs
end Go.Rx
end
set_option maxRecDepth 100000
noncomputable section
namespace Go.Rx
open Go.Proofs
end Go.Rx
end
set_option maxRecDepth 100000
noncomputable section
namespace Go.Rx
open Go.Proofs
theorem qyk {c J:List qa} (hc:qby c) (h:∀ id,rO c id≠none→rO J id≠none):c.length≤J.length:=by
 have:=quM (l:=c.map fun r=>r.ID) (m:=J.map fun r=>r.ID) (qBc hc) fun id hid=>by
  obtain ⟨r,hr,rfl⟩:=List.mem_map.1 hid
  have hn:=h r.ID (by rw [qrT hc hr]; simp)
  cases e:rO J r.ID with
  | none=>exact (hn e).elim
  | some s=>exact List.mem_map.2 ⟨s,(KS e).1,(KS e).2⟩
 rwa [List.length_map,List.length_map] at this
section
variable {N:Nat} [Zg N]
theorem quq {c:qc} {e:qa} {J:List qa} (hJ:J.length≤10) (hc:zM c=true) (he:ZL e=true∨jF e=true) (hsub:∀ id,jR (rO c.R id) (oP e id)≠none→rO J id≠none):(vI N c e).2=0:=by
 cases hn:ZL e with
 | true=>rw [qtV hn]
 | false=>
  have hr:jF e=true:=he.resolve_left (by rw [hn]; simp)
  have hb1:zM (qc.mk [e])=true:=Xy.2 ⟨⟨List.pairwise_singleton _ _,fun r hr'=>by rw [List.mem_singleton.1 hr']; exact hr⟩,by show 1≤10; omega⟩
  obtain ⟨d,hd,ed⟩:=qDb (N:=N) hc hb1
  have hl:d.length≤J.length:=qyk hd.1 fun id hid=>hsub id (by
   rw [hd.2] at hid
   unfold oP
   rw [if_neg (by rw [hn]; simp)]; exact hid)
  rw [quD hn,ed]
  unfold qpu
  rw [if_pos (by omega)]
theorem qEz {c : qc} {p : qa} {J : List qa} (hJ : J.length ≤ 10) (hc : zM c = true) (h8 : p.F.length ≤ 8) (hn : ZL p = false) (hs : stB p.zq = true) (hl : p.F.length = 0 ∨ jF (vT p) = true)
    (hsub:∀ id,jR (jR (rO c.R id) (oP (Zq p) id)) (oP (vT p) id)≠none→rO J id≠none):(Xi N c p).2=0:=by
 have hN:=big N
 have mono:∀ {o q:Option qa},o≠none→jR o q≠none:=fun {o q} h=>by
  cases o with
  | none=>exact (h rfl).elim
  | some r=>cases q<;>simp [jR]
 have z1:(vI N c (Zq p)).2=0:=quq hJ hc (qyx hs) fun id hid=>hsub id (mono hid)
 obtain ⟨v1,r1⟩:=qk0 (e:=Zq p) hc (by show 0 < N; omega) (Nat.zero_le _) z1
 have z2:(vI N (vI N c (Zq p)).1 (vT p)).2=0:=quq hJ v1 (qyf hl) fun id hid=>hsub id (by rw [r1] at hid; exact hid)
 unfold Xi qq4
 rw [if_pos (qob.2 ⟨hc,hn,hs,hl⟩),if_pos z1,if_pos z2]
end
end Go.Rx
end
set_option maxRecDepth 100000
noncomputable section
namespace Go.Rx
open Go.Proofs
theorem qx3 {p q:Nat→Bool}:∀ (m k:Nat) (s:Bool×Bool),Z6 (fun k (s:Bool×Bool)=>(s.1||p k,s.2||q k)) m k s=(s.1||(jT p m k).isSome,s.2||(jT q m k).isSome)
 | 0,k,s=>by show s=(s.1||false,s.2||false); rw [Bool.or_false,Bool.or_false]
 | m + 1,k,s=>by
  show Z6 _ m (k + 1) (s.1||p k,s.2||q k)=_
  rw [qx3 m (k + 1)]
  have e:∀ (f:Nat→Bool) (x:Bool),((x||f k)||(jT f m (k + 1)).isSome)=(x||(jT f (m + 1) k).isSome):=fun f x=>by
   show _=(x||(if f k=true then some k else jT f m (k + 1)).isSome)
   cases h:f k with
   | true=>rw [if_pos rfl]; simp
   | false=>rw [if_neg (by simp),Bool.or_false]
  rw [e,e]
theorem qHi {r:qa} (h:jF r=true) {i j:Nat} (hi:i < r.F.length) (hj:j < r.F.length) (e:(r.F.getD i zF).No=(r.F.getD j zF).No):i=j:=by
 have hn:=List.pairwise_iff_getElem.1 (Wv.1 h).2.2.1
 have gd:∀ k (h:k < r.F.length),r.F.getD k zF=r.F[k]:=fun k h=>by rw [List.getD_eq_getElem?_getD,List.getElem?_eq_getElem h]; rfl
 rw [gd i hi,gd j hj] at e
 rcases Nat.lt_trichotomy i j with h | h | h
 ·have:=hn i j hi hj h; omega
 ·exact h
 ·have:=hn j i hj hi h; omega
section
variable {N:Nat} [Zg N]
theorem qCz {r : qa} (h8 : r.F.length ≤ 8) {d : Vector UInt8 32} {t : Nat → Bool} (hv : ∀ k, k < r.F.length → ∃ S, qaW N (qd.V (qb.C (r.F.getD k zF))) = some S ∧ eqE (.ba 32) S d = t k) (b c : qc) (no e : Int) :
    Jp N b d c r no e false false 0=some ((jT (fun k=>decide ((r.F.getD k zF).No=no)) r.F.length 0).isSome,(jT (fun k=>decide ((r.F.getD k zF).No=no)&&t k) r.F.length 0).isSome,((r.F.length:Nat):Int),false):=by
 have hN:=big N
 refine (QX (σ:=Bool×Bool) (B:=Qh N b d c r no e) (g:=some) (at_:=fun k s=>(s.1,s.2,(k:Int))) (I:=fun _ _=>True) (n:=r.F.length)
  (f:=fun k s=>(s.1||decide ((r.F.getD k zF).No=no),s.2||(decide ((r.F.getD k zF).No=no)&&t k))) (fin:=fun s=>(s.1,s.2,((r.F.length:Nat):Int),false)) (fun k s hk _=>⟨?_,trivial⟩) (fun s _=>?_) N 0 (false,false) trivial (Nat.zero_le _) (by omega)).trans ?_
 ·have g:zi (qa.F r) (k:Int)=some (r.F.getD k zF):=vM (d:=zF) hk
  obtain ⟨S,sh,eq1⟩:=hv k hk
  have c64:qy ((k:Int) + 1):=QU (by omega)
  obtain ⟨i,m⟩:=s
  unfold Qh
  refine w_t (dec_lt hk) ?_
  cases i with
  | true=>
   refine w_t rfl ?_
   cases m with
   | true=>exact w_t rfl <| qY c64 <| qD (by rw [zw]; rfl)
   | false=>
    refine w_f rfl <| qz g <| jW rfl (fun h=>?_) fun h=>?_
    ·have h':decide ((r.F.getD k zF).No=no)=true:=h
     exact qz g <| qz sh <| qY c64 <| qD (by rw [h',eq1,zw]; rfl)
    ·have h':decide ((r.F.getD k zF).No=no)=false:=h
     exact qY c64 <| qD (by rw [h',zw]; rfl)
  | false=>
   refine w_f rfl <| qz g ?_
   cases m with
   | true=>exact w_t rfl <| qY c64 <| qD (by rw [zw]; rfl)
   | false=>
    refine w_f rfl <| qz g <| jW rfl (fun h=>?_) fun h=>?_
    ·have h':decide ((r.F.getD k zF).No=no)=true:=h
     exact qz g <| qz sh <| qY c64 <| qD (by rw [h',eq1,zw]; rfl)
    ·have h':decide ((r.F.getD k zF).No=no)=false:=h
     exact qY c64 <| qD (by rw [h',zw]; rfl)
 ·unfold Qh
  exact w_f (jw (Nat.lt_irrefl _)) (qD (by rw [jw (Nat.lt_irrefl _)]))
 ·rw [qx3]; rfl
theorem qz_ {b:qc} (fb:QH N b) (frm:Vector UInt8 16) (no:Int) (s:qe) (d:Vector UInt8 32):vE N b frm no s d=some true:=by
 have hN:=big N
 obtain ⟨x,ex⟩:=qFX (N:=N) b
 generalize ho:qg.mk 2 (((Vector.replicate 16 0)).setIfInBounds 0 ((UInt8.ofNat 200))) s 0 [] [] frm no d=o
 have hP:qg.P o=[]:=by rw [← ho]; rfl
 have hl:(qg.P o).length < N:=by rw [hP]; show 0 < N; omega
 have hl2:(qg.P o).length≤1000000000000000:=by rw [hP]; show 0≤1000000000000000; omega
 unfold vE Vb
 rw [ho]
 refine qz (show quX=some true from rfl) <| qz ex <| qY (by omega) <| w_f rfl ?_
 cases x with
 | false=>rfl
 | true=>
 refine w_f rfl <| qz (qik fb) ?_
 cases hb:zM b with
 | false=>rfl
 | true=>
 refine w_f rfl <| qz (quS hl hl2) ?_
 cases hop:opB o with
 | false=>rfl
 | true=>
 refine w_f rfl <| jW rfl (fun _=>rfl) fun h10=>?_
 have h10:¬ ((b.R.length:Nat):Int)=10:=of_decide_eq_false h10
 have hB:=Xy.1 hb
 have ok2:o.Kind=2:=by rw [← ho]; rfl
 have r8:=qp3 hb frm
 have hcell:∀ k,k < (recAt b frm).1.F.length→YD ((recAt b frm).1.F.getD k zF).C=true:=by
  unfold recAt
  cases e:qld b.R frm with
  | none=>intro k hk; exact absurd hk (Nat.not_lt_zero k)
  | some i=>exact qpK ((WR.1 hb).1 i (qaE e).1).1
 have hone:∀ i j,i < (recAt b frm).1.F.length→j < (recAt b frm).1.F.length→((recAt b frm).1.F.getD i zF).No=((recAt b frm).1.F.getD j zF).No→i=j:=by
  unfold recAt
  cases e:qld b.R frm with
  | none=>intro i j hi; exact absurd hi (Nat.not_lt_zero i)
  | some i=>exact fun i' j' hi hj=>qHi ((WR.1 hb).1 i (qaE e).1).1 hi hj
 refine qz (qHX fb hl hl2 (by rw [ok2]; omega) ([],0)) <| qz (qvR hb frm) <| qz (qCz (t:=fun k=>decide (Jz ((recAt b frm).1.F.getD k zF).C.V=d)) r8 (fun k hk=>⟨_,qhR (by have:=qhW (hcell k hk); show ((recAt b frm).1.F.getD k zF).C.V.length≤50000; omega),qET _ _⟩) b _ no _) ?_
 have hdo:doD N b o ([],0)=qni N b o (qcw o (Xl b frm no)):=by
  unfold doD qDJ
  rw [if_pos ⟨hb,hop⟩,if_neg (by rw [ok2]; omega),if_neg (by rw [ok2]; omega),if_pos ok2,show o.WS=frm by rw [← ho]; rfl,show o.Jt=no by rw [← ho]; rfl]
 rw [hdo]
 generalize hi0:jT (fun k=>decide (((recAt b frm).1.F.getD k zF).No=no)) (recAt b frm).1.F.length 0=fi
 generalize hj0:jT (fun k=>decide (((recAt b frm).1.F.getD k zF).No=no)&&decide (Jz ((recAt b frm).1.F.getD k zF).C.V=d)) (recAt b frm).1.F.length 0=fj
 cases fi with
 | none=>
  have hc:Xl b frm no=([],6):=by
   unfold Xl cellAt qnD
   rw [hi0]; rfl
  have:qni N b o (qcw o (Xl b frm no))=(qc.mk [],6):=by
   rw [hc]; unfold qcw qni
   rw [if_neg (by show ¬ (6:Int)=0; omega),if_neg (by show ¬ (6:Int)=0; omega)]
  rw [this]
  exact w_t rfl <| w_t rfl <| qD rfl
 | some i=>
  obtain ⟨hi,hp⟩:=qaE hi0
  have hp:=of_decide_eq_true hp
  have hc:Xl b frm no=(((recAt b frm).1.F.getD i zF).C.V,0):=by
   unfold Xl cellAt qnD
   rw [hi0]; rfl
  refine w_f rfl ?_
  by_cases hs:Jz ((recAt b frm).1.F.getD i zF).C.V=d
  ·have hj : fj.isSome = true := by
      cases fj with
      | some j=>rfl
      | none=>
       have:=qfP hj0 i (Nat.zero_le _) (by omega)
       rw [decide_eq_true hp,decide_eq_true hs] at this; cases this
   have hz:qcw o (Xl b frm no)=(((recAt b frm).1.F.getD i zF).C.V,0):=by
    rw [hc]; unfold qcw
    rw [if_pos rfl,if_pos (by show Jz _=o.D; rw [hs,← ho]; rfl)]
   refine w_f (by show (!fj.isSome)=false; rw [hj]; rfl) ?_
   rw [hz]
   unfold qni
   rw [if_pos rfl]
   generalize hV:((recAt b frm).1.F.getD i zF).C.V=V
   have hV2:V.length≤200:=by rw [← hV]; exact qhW (hcell i hi)
   have hstz:(decide (o.S=zSt))=false∧stB o.S=true:=by
    have h:=hop
    unfold opB at h
    simp only [Bool.and_eq_true,Bool.not_eq_true'] at h
    exact ⟨h.1.1.1.1.1.2,h.1.1.1.1.2⟩
   have hlive:jF (vT (qao o V))=true:=Wv.2 ⟨rfl,.inl (fun h=>by cases h),List.pairwise_singleton _ _,fun f hf=>by
    rw [List.mem_singleton.1 (show f∈[qb.mk o.No (qd.mk o.S V)] from hf)]
    have h0:o.No=0:=by rw [← ho]; rfl
    refine ⟨by show 0≤o.No; omega,by show o.No < 8; omega,?_,qn5 hstz.2 (of_decide_eq_false hstz.1)⟩
    show (!decide (o.S=zSt)&&(stB o.S&&decide (V.length≤200)))=true
    rw [hstz.1,hstz.2,decide_eq_true hV2]; rfl⟩
   have hz2:(Xi N b (qao o V)).2=0:=qEz (J:=qao o V::b.R) (by show b.R.length + 1≤10; have:=hB.2; omega) hb (by show 1≤8; omega) rfl rfl (.inr hlive) fun id hid=>by
    rw [qgz]
    split
    ·simp
    ·rename_i hne
     have hne:¬ o.ID=id:=hne
     have h1:oP (Zq (qao o V)) id=none:=if_pos rfl
     have h2:oP (vT (qao o V)) id=none:=by
      unfold oP
      rw [if_neg (by show ¬ (true&&decide (1=0))=true; simp),qgz,if_neg (show ¬ (vT (qao o V)).ID=id from hne),qBp]
     rw [h1,h2,qgA,qgA] at hid
     exact hid
   obtain ⟨_,hc2,_,hr⟩:=qCY (N:=N) (p:=qao o V) (by show 1 < N; omega) (by show 1≤4611686018427387904; omega) hz2
   refine w_t (decide_eq_true hz2) <| qD (congrArg some (decide_eq_true ?_))
   have hlen:b.R.length≤(Xi N b (qao o V)).1.R.length:=qyk hB.1.1 fun id hid=>by
    rw [hr]
    unfold jP
    cases e:rO b.R id with
    | none=>exact (hid e).elim
    | some r=>cases oP (Zq (qao o V)) id<;>cases oP (vT (qao o V)) id<;>simp [jR]
   show ((b.R.length:Nat):Int)≤(((Xi N b (qao o V)).1.R.length:Nat):Int)
   omega
  ·have hj : fj.isSome = false := by
      cases fj with
      | none=>rfl
      | some j=>
       obtain ⟨hj1,hj2⟩:=qaE hj0
       rw [Bool.and_eq_true] at hj2
       obtain rfl:=hone i j hi hj1 (hp.trans (of_decide_eq_true hj2.1).symm)
       exact (hs (of_decide_eq_true hj2.2)).elim
   have hz:qcw o (Xl b frm no)=([],7):=by
    rw [hc]; unfold qcw
    rw [if_pos rfl,if_neg (by show ¬ Jz _=o.D; rw [show o.D=d by rw [← ho]; rfl]; exact hs)]
   rw [hz]
   unfold qni
   rw [if_neg (by show ¬ (7:Int)=0; omega)]
   exact w_t (by show (!fj.isSome)=true; rw [hj]; rfl) <| w_t rfl <| qD rfl
end
theorem qGJ (b:qc) (frm:Vector UInt8 16) (no:Int) (s:qe) (d:Vector UInt8 32) (h1:b.R.length≤4611686018427387904) (h2:∀ k,k < b.R.length→(b.R.getD k zR).F.length≤4611686018427387904):∃ N:Nat,vE N b frm no s d=some true:=by
 obtain ⟨M,hM⟩:=qHP b h1 h2
 have:Zg (100000 + M):=Zg.of (by omega)
 exact ⟨_,qz_ (hM (100000 + M) (by omega)) frm no s d⟩
end Go.Rx
end
