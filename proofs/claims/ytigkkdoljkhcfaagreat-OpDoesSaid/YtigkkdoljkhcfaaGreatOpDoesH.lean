/- A part of the proof of OpDoes: the law returns true for every input, and its arguments read as before. No condition. -/
import Derived.Test.YtigkkdoljkhcfaaGreatOpDoesG
set_option linter.unusedSimpArgs false
set_option linter.unusedVariables false
set_option linter.unusedSectionVars false
set_option maxRecDepth 100000
noncomputable section
namespace Go.Rx
open Go.Proofs
def qVe:Vector UInt32 8:=#v[1779033703,3144134277,1013904242,2773480762,1359893119,2600822924,528734635,1541459225]
def qeh:Vector UInt32 64:=#v[1116352408,1899447441,3049323471,3921009573,961987163,1508970993,2453635748,2870763221,
 3624381080,310598401,607225278,1426881987,1925078388,2162078206,2614888103,3248222580,
 3835390401,4022224774,264347078,604807628,770255983,1249150122,1555081692,1996064986,
 2554220882,2821834349,2952996808,3210313671,3336571891,3584528711,113926993,338241895,
 666307205,773529912,1294757372,1396182291,1695183700,1986661051,2177026350,2456956037,
 2730485921,2820302411,3259730800,3345764771,3516065817,3600352804,4094571909,275423344,
 430227734,506948616,659060556,883997877,958139571,1322822218,1537002063,1747873779,
 1955562222,2024104815,2227730452,2361852424,2428436474,2756734187,3204031479,3329325298]
def Zo (L:Nat):Nat:=(119 - L % 64) % 64
theorem qru (n:Int):inB (IntKind.u8.wrap n):=by
 unfold inB
 have:IntKind.u8.wrap n=n % 256:=by simp [IntKind.wrap,IntKind.bits,IntKind.signed]
 rw [this]; omega
theorem qFX (n:Nat):IntKind.u8.wrap ((n:Nat):Int)=((n % 256:Nat):Int):=by
 have:IntKind.u8.wrap ((n:Nat):Int)=((n:Nat):Int) % 256:=by simp [IntKind.wrap,IntKind.bits,IntKind.signed]
 rw [this]; omega
theorem qUq (n j:Nat):Ji ((n:Nat):Int) j=((n / 2 ^ j:Nat):Int):=by
 unfold Ji
 rw [show ((2:Int) ^ j)=((2 ^ j:Nat):Int) by push_cast; rfl,Int.fdiv_eq_ediv_of_nonneg _ (Int.natCast_nonneg _),← Int.natCast_ediv]
theorem qIq (a b:Nat):((a:Nat):Int).tmod ((b:Nat):Int)=((a % b:Nat):Int):=rfl
theorem qzb (a b:Nat):((a:Nat):Int).tdiv ((b:Nat):Int)=((a / b:Nat):Int):=rfl
theorem qxh {n k:Nat} (h:k≤2000000000):jx n n k 1:=⟨rfl,by unfold zg; omega⟩
theorem qU2 {N:Nat} {o:Vector UInt8 32} {b:List UInt8} (hb:b.length≤1000000000) (hN:64 < N):qkI N o b (b++[128])=some (b++[128]++List.replicate (Zo b.length) 0,false):=by
 have hz:Zo b.length < 64:=Nat.mod_lt _ (by omega)
 have h56:(b.length + 1 + Zo b.length) % 64=56:=by unfold Zo; omega
 have hlen:∀ k,(b++[128]++List.replicate k (0:UInt8)).length=b.length + 1 + k:=fun k=>by simp; omega
 have hne:∀ k,k < Zo b.length→(b.length + 1 + k) % 64≠56:=fun k hk=>by unfold Zo at *; omega
 have e0:qkI N o b (b++[128])=qQ (qcS N o b) some N (b++[128]++List.replicate 0 (0:UInt8)):=by rw [List.replicate_zero,List.append_nil]; rfl
 rw [e0]
 refine (jW (σ:=Unit) (B:=qcS N o b) (g:=some) (at_:=fun k _=>b++[128]++List.replicate k (0:UInt8)) (I:=fun _ _=>True) (f:=fun _ s=>s) (n:=Zo b.length)
  (fin:=fun _=>(b++[128]++List.replicate (Zo b.length) 0,false)) (fun k s hk _=>⟨?_,trivial⟩) (fun s _=>?_) N 0 () trivial (Nat.zero_le _) (by omega))
 ·unfold qcS
  have c1:(64:Int)≠0:=by omega
  have e:decide ((((b++[128]++List.replicate k (0:UInt8)).length:Nat):Int).tmod 64=56)=false:=decide_eq_false (by
   rw [hlen]
   have:=hne k hk
   show ¬ (((b.length + 1 + k) % 64:Nat):Int)=56
   omega)
  have c2:jx (b++[128]++List.replicate k (0:UInt8)).length (b++[128]++List.replicate k (0:UInt8)).length ((b++[128]++List.replicate k (0:UInt8))++[UInt8.ofNat 0]).length 1:=qxh (by rw [List.length_append,hlen]; simp; omega)
  rw [qM,qi c1,qG,e,Bool.not_false,cond_true,qM,qi c2,qS]
  rw [List.replicate_succ',← List.append_assoc]
  rfl
 ·unfold qcS
  have c1:(64:Int)≠0:=by omega
  have e:decide ((((b++[128]++List.replicate (Zo b.length) (0:UInt8)).length:Nat):Int).tmod 64=56)=true:=decide_eq_true (by
   rw [hlen]
   show (((b.length + 1 + Zo b.length) % 64:Nat):Int)=56
   omega)
  rw [qM,qi c1,qG,e,Bool.not_true,cond_false,qS]
def qy6 (L k:Nat):UInt8:=UInt8.ofNat (IntKind.u8.wrap (Ji (ql9 .u64 (IntKind.u64.wrap ((L:Nat):Int)) 8) (min ((8:Int) * ((7:Int) - (k:Int))).toNat 64))).toNat
def qiv (L k:Nat) (l:List UInt8):List UInt8:=l++[qy6 L k]
theorem qzT {L:Nat}:∀ (m k:Nat) (l:List UInt8),(zZ (qiv L) m k l).length=l.length + m
 | 0,_,_=>rfl
 | m + 1,k,l=>by
  show (zZ (qiv L) m (k + 1) (qiv L k l)).length=_
  rw [qzT m]; unfold qiv; rw [List.length_append]; simp; omega
theorem qUl {N:Nat} {o:Vector UInt8 32} {b l:List UInt8} (hl:l.length≤1500000000) (hN:64 < N):qrP N o b l 0=some (zZ (qiv b.length) 8 0 l,(8:Int),false):=by
 refine (jW (σ:=List UInt8) (B:=qgP N o b) (g:=some) (at_:=fun k s=>(s,(k:Int))) (I:=fun k s=>s.length=l.length + k) (f:=qiv b.length) (n:=8)
  (fin:=fun s=>(s,(8:Int),false)) (fun k s hk hs=>⟨?_,?_⟩) (fun s _=>?_) N 0 l rfl (Nat.zero_le _) (by omega))
 ·have d1:decide ((k:Int) < 8)=true:=decide_eq_true (by omega)
  have c1:qj ((7:Int) - (k:Int)):=by unfold qj; omega
  have c2:qj ((8:Int) * ((7:Int) - (k:Int))):=by unfold qj; omega
  have c3:(0:Int)≤(8:Int) * ((7:Int) - (k:Int)):=by omega
  have c4:qj ((k:Int) + 1):=by unfold qj; omega
  have c5:jx s.length s.length (s++[qy6 b.length k]).length 1:=qxh (by rw [List.length_append,hs]; simp; omega)
  unfold qgP
  rw [qG,d1,cond_true]
  simp only [qM,qS]
  rw [qi c1,qi c2,qi c3,qi (qru _)]
  show chk (jx s.length s.length (s++[qy6 b.length k]).length 1) _=_
  rw [qi c5,qi c4,qZ]
  rfl
 ·unfold qiv; rw [List.length_append,hs]; simp; omega
 ·unfold qgP
  rfl
def chF (K:Vector UInt32 64):Nat→Vector UInt32 8→List UInt8→Vector UInt32 8
 | 0,s,_=>s
 | m + 1,s,l=>chF K m (qrI s K (l.take 64)) (l.drop 64)
theorem qTE {N : Nat} {o : List UInt8} {o2 : Vector UInt8 32} {o3 : Vector UInt32 8} {K : Vector UInt32 64} (hN : 64 < N) : ∀ (m n : Nat) (s : Vector UInt32 8) (l : List UInt8), l.length = 64 * m → m < n →
    qQ (qaz N o o2 o3 K) some n (s,l)=some (.inr (chF K m s l,[],false))
 | 0,n + 1,s,l,hl,_=>by
  have:l=[]:=List.length_eq_zero_iff.1 (by omega)
  subst this
  exact zh (by unfold qaz; rfl) n
 | m + 1,n + 1,s,l,hl,hn=>by
  have d1:decide ((0:Int) < ((l.length:Nat):Int))=true:=decide_eq_true (by omega)
  have c1:(0:Int)≤0∧(0:Int)≤64∧(64:Int)≤((l.length:Nat):Int):=by omega
  have c2:(0:Int)≤64∧(64:Int)≤((l.length:Nat):Int):=by omega
  have ht:((l.take 64).drop 0).length=64:=by rw [List.drop_zero,List.length_take]; omega
  rw [vM (v':=(qrI s K (l.take 64),l.drop 64)) (by
   unfold qaz
   rw [qG,d1,cond_true,qM,qi c1,run_bind,qK8 hN ht,Option.bind_some,qM,qi c2,qS,List.drop_zero]) n]
  exact qTE hN m n _ _ (by rw [List.length_drop]; omega) (by omega)
 | _,0,_,_,_,hn=>by omega
theorem qNn {N m : Nat} {all : List UInt8} {o2 : Vector UInt8 32} {s : Vector UInt32 8} {K : Vector UInt32 64} (hN : 64 < N) (hm : m + 1 < N) (hl : all.length = 64 * (m + 1)) :
    qeq N all o2 s K=some (.inr (chF K (m + 1) s all,[],false)):=by
 have d1:decide ((0:Int) < ((all.length:Nat):Int))=true:=decide_eq_true (by omega)
 have c1:(0:Int)≤0∧(0:Int)≤64∧(64:Int)≤((all.length:Nat):Int):=by omega
 have c2:(0:Int)≤64∧(64:Int)≤((all.length:Nat):Int):=by omega
 have ht:((all.take 64).drop 0).length=64:=by rw [List.drop_zero,List.length_take]; omega
 have hrun:(qfq N all o2 s K ()).run some=some (.inr (.inl (qrI s K (all.take 64),all.drop 64))):=by
  unfold qfq
  rw [qG,d1,cond_true,qM,qi c1,qM,qi rfl,run_bind,qK8 hN ht,Option.bind_some,qM,qi c2,qM,qi rfl,qS,List.drop_zero]
 obtain ⟨N',rfl⟩:∃ N',N=N' + 1:=⟨N - 1,by omega⟩
 have e:qeq (N' + 1) all o2 s K=qQ (qfq (N' + 1) all o2 s K) (qjN (N' + 1) (N' + 1) (all,o2,s,K)) (N' + 1) ():=rfl
 rw [e,zh hrun]
 exact qTE (o:=all) (o2:=o2) (o3:=s) hN m (N' + 1) _ _ (by rw [List.length_drop]; omega) (by omega)
def qLu (s:Vector UInt32 8) (k:Nat):UInt8:=UInt8.ofNat (IntKind.u8.wrap (c32 (wAt s (k / 4) >>> UInt32.ofNat (24 - 8 * (k % 4))))).toNat
def qIS (s:Vector UInt32 8) (k:Nat) (o:Vector UInt8 32):Vector UInt8 32:=o.setIfInBounds k (qLu s k)
def qSM (s:Vector UInt32 8):Vector UInt8 32:=zZ (qIS s) 32 0 (Vector.replicate 32 0)
theorem qVl {N:Nat} {o:Vector UInt8 32} {s:Vector UInt32 8} (hN:64 < N):qiH N o s (Vector.replicate 32 0) 0=some (qSM s,(32:Int),false):=by
 refine (jW (σ:=Vector UInt8 32) (B:=qfw N o s) (g:=some) (at_:=fun k s=>(s,(k:Int))) (I:=fun _ _=>True) (f:=qIS s) (n:=32)
  (fin:=fun s=>(s,(32:Int),false)) (fun k x hk _=>⟨?_,trivial⟩) (fun x _=>?_) N 0 (Vector.replicate 32 0) trivial (Nat.zero_le _) (by omega))
 ·have d1:decide ((k:Int) < 32)=true:=decide_eq_true (by omega)
  have e1:(k:Int).tdiv 4=((k / 4:Nat):Int):=qzb k 4
  have e2:(k:Int).tmod 4=((k % 4:Nat):Int):=qIq k 4
  have h4:(4:Int)≠0:=by omega
  have c1:qj (((k / 4:Nat)):Int):=by unfold qj; omega
  have c2:(0:Int)≤((k / 4:Nat):Int)∧((k / 4:Nat):Int) < ((8:Nat):Int):=by omega
  have c3:k / 4 < 8:=by omega
  have c4:qj ((8:Int) * ((k % 4:Nat):Int)):=by unfold qj; omega
  have e3:(24:Int) - (8:Int) * ((k % 4:Nat):Int)=((24 - 8 * (k % 4):Nat):Int):=by omega
  have c5:qj ((24 - 8 * (k % 4):Nat):Int):=by unfold qj; omega
  have c6:(0:Int)≤((24 - 8 * (k % 4):Nat):Int):=by omega
  have c7:(0:Int)≤(k:Int)∧(k:Int) < ((32:Nat):Int):=by omega
  have c8:qj ((k:Int) + 1):=by unfold qj; omega
  unfold qfw qIS qLu
  rw [qG,d1,cond_true]
  simp only [qM,qS]
  rw [e1,e2,e3,qi h4,qi c1,qi c2,Int.toNat_natCast,qi c3,qi h4,qi c4,qi c5,qi c6,qi c7,qi (qru _),Int.toNat_natCast,qi hk,qi c8,Int.toNat_natCast,Nat.min_eq_left (show 24 - 8 * (k % 4)≤32 by omega)]
  rw [qZ]
  show some (Sum.inl (x.setIfInBounds k (UInt8.ofNat (IntKind.u8.wrap (Ji (c32 (wAt s (k / 4))) (24 - 8 * (k % 4)))).toNat),_))=_
  rw [qrV _ _ (by omega)]
 ·unfold qfw
  rfl
def qj2 (b:List UInt8):List UInt8:=zZ (qiv b.length) 8 0 (b++[128]++List.replicate (Zo b.length) 0)
def VK (b:List UInt8):Vector UInt8 32:=qSM (chF qeh ((qj2 b).length / 64) qVe (qj2 b))
theorem qLe (b:List UInt8):∃ m,(qj2 b).length=64 * (m + 1)∧m≤b.length:=by
 have h:(qj2 b).length=b.length + 1 + Zo b.length + 8:=by unfold qj2; rw [qzT]; simp; omega
 rw [h]
 refine ⟨(b.length + 1 + Zo b.length + 8) / 64 - 1,?_,?_⟩
 ·unfold Zo; omega
 ·unfold Zo; omega
theorem qR8 {l:List UInt8} (h:l.length≤1000000000):Ko l=some ():=by
 unfold Ko
 cases l with
 | nil=>kernel_rfl
 | cons x r=>
  show qo9 (x::r)=_
  unfold qo9 qjP
  have h2:jx ([]:List UInt8).length 0 ([]++x::r).length 1:=⟨rfl,by rw [List.nil_append]; unfold zg; omega⟩
  rw [qM,qi (List.isEmpty_cons),qM,qi h2,qS]
theorem qdb {Z:Type} {a:Nat} {o:Option Z}:ju [(a,a)] o=o:=(zU rfl).trans (qEk o)
theorem qQI:qwT=some ():=by kernel_rfl
theorem qSP:qvF=some ():=by kernel_rfl
theorem qVn {N:Nat} {b:List UInt8} (hb:b.length≤1000000000) (hN:b.length + 100 < N):qk8 N b=some (VK b):=by
 obtain ⟨m,hm,hmb⟩:=qLe b
 have c1:jx (([]:List UInt8)++b).length (([]:List UInt8)++b).length ((([]:List UInt8)++b)++[UInt8.ofNat 128]).length 1:=qxh (by rw [List.nil_append,List.length_append]; simp; omega)
 have hpad:=qU2 (N:=N) (o:=Vector.replicate 32 0) hb (by omega)
 have hlen:=qUl (N:=N) (o:=Vector.replicate 32 0) (b:=b) (l:=b++[128]++List.replicate (Zo b.length) 0) (by have:Zo b.length < 64:=Nat.mod_lt _ (by omega); simp; omega) (by omega)
 have hch:∀ (s:Vector UInt32 8) (K:Vector UInt32 64),qeq N (zZ (qiv b.length) 8 0 (b++[128]++List.replicate (Zo b.length) 0)) (Vector.replicate 32 0) s K=some (.inr (chF K (m + 1) s (qj2 b),[],false)):=fun s K=>qNn (by omega) (by omega) hm
 have hd:(qj2 b).length / 64=m + 1:=by rw [hm]; omega
 have e1:(([]:List UInt8)++b)++[UInt8.ofNat 128]=b++[128]:=rfl
 unfold qk8 quI VK
 rw [run_bind,qR8 hb,Option.bind_some,qM,qi c1,run_bind,e1,qdb,hpad,Option.bind_some]
 dsimp only
 rw [run_bind,qdb,hlen,Option.bind_some]
 dsimp only
 rw [run_bind,qQI,Option.bind_some,run_bind,qSP,Option.bind_some,run_bind,qdb,hch,Option.bind_some,qS_,run_bind,qVl (by omega),Option.bind_some,qS,hd]
 rfl
end Go.Rx
end
set_option maxRecDepth 100000
noncomputable section
namespace Go.Rx
open Go.Proofs
section n
variable {N:Nat} [QJ N]
def Y2 (c:qf):Bool:=!decide (c.S=zSt)&&(stB c.S&&decide (c.V.length≤200))
theorem qUr (c:qf):qfD c=some (Y2 c):=by
 unfold qfD qrO Y2
 have e:eqE qm c.S (qe.mk 0 0)=decide (c.S=zSt):=qhn _ _
 have e2:decide (((c.V.length:Nat):Int)≤200)=decide (c.V.length≤200):=decide_eq_decide.2 (by omega)
 rw [qG,e,run_bind,qr1,Option.bind_some,qG,qS,e2,qS]
 cases decide (c.S=zSt)<;>cases stB c.S<;>rfl
end n
end Go.Rx
end
set_option maxRecDepth 100000
noncomputable section
namespace Go.Rx
open Go.Proofs
abbrev zF:qg:=qg.mk 0 (qf.mk zSt [])
abbrev zR:qa:=qa.mk (Vector.replicate 16 0) zSt []
def qjG (l:List qg) (dead:qe) (k:Nat):Bool:=
 (if k=0 then decide (0≤(l.getD k zF).No) else decide ((l.getD (k - 1) zF).No < (l.getD k zF).No))&&(!decide (8≤(l.getD k zF).No)&&(Y2 (l.getD k zF).C&&slB dead (l.getD k zF).C.S))
def jT (r:qa):Bool:=stB r.qW&&(!(decide (r.F.length=0)&&decide (r.qW=zSt))&&QK (qjG r.F r.qW) r.F.length)
def qsa (l:List qa) (k:Nat):Bool:=jT (l.getD k zR)&&(decide (k=0)||lbB (l.getD (k - 1) zR).ID (l.getD k zR).ID)
def zG (b:qc):Bool:=QK (qsa b.R) b.R.length&&decide (b.R.length≤10)
section n
variable {N:Nat} [QJ N]
theorem qTp {f : qg} {dead : qe} {k : Nat} (h64 : qj ((k : Int) + 1)) :
    (Tree.cond (decide (((8:Int))≤(qg.No f))) (.ret (.inr (.inl ())))
     (Tree.bind (qfD (qg.C f)) fun r2=>Tree.cond (!r2) (.ret (.inr (.inl ())))
      (Tree.bind (J7 N dead (qf.S (qg.C f))) fun r3=>Tree.cond (!r3) (.ret (.inr (.inl ())))
       (Tree.chk (qj ((k:Int) + 1)) (.ret (.inl ((k:Int) + 1):Int⊕(Unit⊕(Int×Bool)))))))).run some =
    some (if (!decide (8≤f.No)&&(Y2 f.C&&slB dead f.C.S))=true then .inl ((k:Int) + 1) else .inr (.inl ())):=by
 rw [qG,qS,run_bind,qUr,Option.bind_some,qG,qS,run_bind,qje,Option.bind_some,qG,qS,qM,qi h64,qS]
 cases decide (8≤f.No)<;>cases Y2 f.C<;>cases slB dead f.C.S<;>rfl
theorem qT1 {r : qa} (hN : r.F.length < N) (h62 : r.F.length ≤ 4611686018427387904) :
    qkR N r r.F ((r.F.length:Nat):Int) 0=some (if QK (qjG r.F r.qW) r.F.length then .inr (((r.F.length:Nat):Int),false) else .inl ()):=by
 refine Wk (B:=qhm N r r.F ((r.F.length:Nat):Int)) (g:=some) (q:=qjG r.F r.qW) (fun k hk=>?_) ?_ hN
 ·have h64:qj ((k:Int) + 1):=by unfold qj; omega
  have ht:=qTp (N:=N) (f:=r.F.getD k zF) (dead:=r.qW) h64
  unfold qhm
  rw [qG,dec_lt hk,cond_true,run_bind,zB (d:=zF) hk,Option.bind_some,← qZ]
  unfold qjG
  by_cases h0:k=0
  ·have d0:decide ((k:Int)=0)=true:=decide_eq_true (by omega)
   rw [qG,d0,cond_true,if_pos h0,qG]
   by_cases h1:(0:Int)≤(r.F.getD k zF).No
   ·rw [decide_eq_true h1,cond_true,ht,Bool.true_and]
   ·have d1:decide ((0:Int) < (k:Int))=false:=decide_eq_false (by omega)
    rw [decide_eq_false h1,cond_false,qG,d1,cond_false,qS]
    rfl
  ·have d0:decide ((k:Int)=0)=false:=decide_eq_false (by omega)
   have d1:decide ((0:Int) < (k:Int))=true:=decide_eq_true (by omega)
   have hp:qj ((k:Int) - 1):=by unfold qj; omega
   have hk1:k - 1 < r.F.length:=by omega
   rw [qG,d0,cond_false,if_neg h0,qG,d1,cond_true,qM,qi hp,run_bind,qzt (Nat.pos_of_ne_zero h0),zB (d:=zF) hk1,Option.bind_some,qG]
   by_cases h2:(r.F.getD (k - 1) zF).No < (r.F.getD k zF).No
   ·rw [decide_eq_true h2,Bool.not_true,cond_false,ht,Bool.true_and]
   ·rw [decide_eq_false h2,Bool.not_false,cond_true,qS]
    rfl
 ·unfold qhm
  rw [qG,zo (Nat.lt_irrefl _),cond_false,qS]
theorem qxu {r:qa} (hN:r.F.length < N) (h62:r.F.length≤4611686018427387904):qiu N r=some (jT r):=by
 have e0:eqE qm r.qW (qe.mk 0 0)=decide (r.qW=zSt):=qhn _ _
 have d0:decide (((r.F.length:Nat):Int)=0)=decide (r.F.length=0):=decide_eq_decide.2 (by omega)
 unfold qiu quA jT
 rw [run_bind,qr1,Option.bind_some,qG,qS,qG,d0,qG,e0,qS,run_bind,qT1 hN h62,Option.bind_some]
 cases stB r.qW<;>cases decide (r.F.length=0)<;>cases decide (r.qW=zSt)<;>cases QK (qjG r.F r.qW) r.F.length<;>rfl
theorem qUp {b : qc} (hN : b.R.length < N) (h62 : b.R.length ≤ 4611686018427387904) (hF : ∀ k, k < b.R.length → (b.R.getD k zR).F.length < N ∧ (b.R.getD k zR).F.length ≤ 4611686018427387904) :
    qor N b b.R ((b.R.length:Nat):Int) 0=some (if QK (qsa b.R) b.R.length then .inr (((b.R.length:Nat):Int),false) else .inl ()):=by
 refine Wk (B:=qfr N b b.R ((b.R.length:Nat):Int)) (g:=some) (q:=qsa b.R) (fun k hk=>?_) ?_ hN
 ·have h64:qj ((k:Int) + 1):=by unfold qj; omega
  unfold qfr
  rw [qG,dec_lt hk,cond_true,run_bind,zB (d:=zR) hk,Option.bind_some,run_bind,qxu (hF k hk).1 (hF k hk).2,Option.bind_some,qG,qS,qG,qK5,qM,qM,qi h64,qS,qZ]
  unfold qsa
  cases jT (b.R.getD k zR) with
  | false=>rfl
  | true=>
   by_cases h0:k=0
   ·rw [decide_eq_true h0]; rfl
   ·have hp:qj ((k:Int) - 1):=by unfold qj; omega
    have hk1:k - 1 < b.R.length:=by omega
    rw [decide_eq_false h0,Bool.not_true,cond_false,Bool.not_false,cond_true,qi hp,run_bind,qzt (Nat.pos_of_ne_zero h0),zB (d:=zR) hk1,Option.bind_some,run_bind,qS5,Option.bind_some,qG,qS,qM,qi (show qj ((k + 1:Nat):Int) by rw [← qZ]; exact h64),qS]
    cases lbB (b.R.getD (k - 1) zR).ID (b.R.getD k zR).ID<;>rfl
 ·unfold qfr
  rw [qG,zo (Nat.lt_irrefl _),cond_false,qS]
theorem qUV {b:qc} (hN:b.R.length < N) (h62:b.R.length≤4611686018427387904) (hF:∀ k,k < b.R.length→(b.R.getD k zR).F.length < N∧(b.R.getD k zR).F.length≤4611686018427387904):qcy N b=some (zG b):=by
 have e2:decide (((b.R.length:Nat):Int)≤10)=decide (b.R.length≤10):=decide_eq_decide.2 (by omega)
 unfold qcy qsd zG
 rw [run_bind,qUp hN h62 hF,Option.bind_some]
 cases QK (qsa b.R) b.R.length with
 | false=>rfl
 | true=>show (Tree.run some (Tree.ret (decide (((b.R.length:Nat):Int)≤10))))=_; rw [qS,e2]; rfl
end n
theorem qae {r:qa}:jT r=true↔stB r.qW=true∧(r.F.length≠0∨r.qW≠zSt)∧∀ k,k < r.F.length→qjG r.F r.qW k=true:=by
 unfold jT
 rw [Bool.and_eq_true,Bool.and_eq_true,Zn,Bool.not_eq_true',Bool.and_eq_false_iff,decide_eq_false_iff_not,decide_eq_false_iff_not]
theorem YA {l:List qg} {dead:qe} {k:Nat}:qjG l dead k=true↔(if k=0 then 0≤(l.getD k zF).No else (l.getD (k - 1) zF).No < (l.getD k zF).No)∧(l.getD k zF).No < 8∧Y2 (l.getD k zF).C=true∧slB dead (l.getD k zF).C.S=true:=by
 unfold qjG
 rw [Bool.and_eq_true,Bool.and_eq_true,Bool.and_eq_true,Bool.not_eq_true',decide_eq_false_iff_not,Int.not_le]
 refine and_congr ?_ Iff.rfl
 split<;>exact decide_eq_true_iff
theorem qGL {r:qa} (h:jT r=true):∀ k,k < r.F.length→(k:Int)≤(r.F.getD k zF).No
 | 0,hk=>by
  have:=(YA.1 ((qae.1 h).2.2 0 hk)).1
  rw [if_pos rfl] at this; exact this
 | k + 1,hk=>by
  have:=(YA.1 ((qae.1 h).2.2 (k + 1) hk)).1
  rw [if_neg (by omega)] at this
  have ih:=qGL h k (by omega)
  rw [show k + 1 - 1=k by omega] at this
  omega
theorem qa_ {r:qa} (h:jT r=true):r.F.length≤8:=by
 by_cases e:r.F.length=0
 ·omega
 ·have h1:=qGL h (r.F.length - 1) (by omega)
  have h2:=(YA.1 ((qae.1 h).2.2 (r.F.length - 1) (by omega))).2.1
  omega
theorem qi1 {b:qc}:zG b=true↔(∀ k,k < b.R.length→jT (b.R.getD k zR)=true∧(k=0∨lbB (b.R.getD (k - 1) zR).ID (b.R.getD k zR).ID=true))∧b.R.length≤10:=by
 unfold zG
 rw [Bool.and_eq_true,decide_eq_true_iff,Zn]
 refine and_congr (forall_congr' fun k=>imp_congr_right fun _=>?_) Iff.rfl
 show (jT (b.R.getD k zR)&&(decide (k=0)||lbB (b.R.getD (k - 1) zR).ID (b.R.getD k zR).ID))=true↔_
 rw [Bool.and_eq_true,Bool.or_eq_true,decide_eq_true_iff]
theorem qza {c:qf} (h:Y2 c=true):c.V.length≤200:=by
 unfold Y2 at h
 simp only [Bool.and_eq_true,decide_eq_true_iff] at h
 exact h.2.2
end Go.Rx
end
set_option maxRecDepth 100000
noncomputable section
namespace Go.Rx
open Go.Proofs
section n
variable {N:Nat} [QJ N]
def jL (N:Nat) (b:qc):Prop:=b.R.length < N∧b.R.length≤4611686018427387904∧∀ k,k < b.R.length→(b.R.getD k zR).F.length < N∧(b.R.getD k zR).F.length≤4611686018427387904
theorem qrc {b:qc} (h:jL N b):qcy N b=some (zG b):=qUV h.1 h.2.1 h.2.2
theorem qzM {l:List UInt8} (h:l.length≤50000):qqd N l=some (VK l):=by
 unfold qqd qAo
 rw [qM,qi (show qkZ l.length by unfold qkZ; omega),run_bind,qVn (by omega) (by have:=big N; omega),Option.bind_some,qS]
end n
end Go.Rx
end
set_option maxRecDepth 100000
noncomputable section
namespace Go.Rx
open Go.Proofs
open Go.Lib (compareBytes)
theorem qKn:∀ l:List UInt8,compareBytes l l=0
 | []=>rfl
 | x::l=>by
  unfold compareBytes
  rw [if_neg (UInt8.lt_irrefl x),if_neg (UInt8.lt_irrefl x)]
  exact qKn l
theorem qH3:∀ a b c:List UInt8,compareBytes a b < 0→compareBytes b c < 0→compareBytes a c < 0
 | [],[],_,h,_=>by simp [compareBytes] at h
 | [],_::_,[],_,h=>by simp [compareBytes] at h
 | [],_::_,_::_,_,_=>by simp [compareBytes]
 | _::_,[],_,h,_=>by simp [compareBytes] at h
 | _::_,_::_,[],_,h=>by simp [compareBytes] at h
 | x::a,y::b,z::c,h1,h2=>by
  unfold compareBytes at h1 h2 ⊢
  simp only [UInt8.lt_iff_toNat_lt] at h1 h2 ⊢
  by_cases hxy:x.toNat < y.toNat
  ·by_cases hyz:y.toNat < z.toNat
   ·rw [if_pos (by omega)]; decide
   ·rw [if_neg hyz] at h2
    by_cases hzy:z.toNat < y.toNat
    ·rw [if_pos hzy] at h2; simp at h2
    ·rw [if_pos (by omega)]; decide
  ·rw [if_neg hxy] at h1
   by_cases hyx:y.toNat < x.toNat
   ·rw [if_pos hyx] at h1; simp at h1
   ·rw [if_neg hyx] at h1
    by_cases hyz:y.toNat < z.toNat
    ·rw [if_pos (by omega)]; decide
    ·rw [if_neg hyz] at h2
     by_cases hzy:z.toNat < y.toNat
     ·rw [if_pos hzy] at h2; simp at h2
     ·rw [if_neg hzy] at h2
      rw [if_neg (by omega),if_neg (by omega)]
      exact qH3 a b c h1 h2
theorem qPj:∀ a b:List UInt8,(compareBytes a b < 0∧compareBytes b a > 0)∨a=b∨(compareBytes b a < 0∧compareBytes a b > 0)
 | [],[]=>.inr (.inl rfl)
 | [],_::_=>.inl ⟨by simp [compareBytes],by simp [compareBytes]⟩
 | _::_,[]=>.inr (.inr ⟨by simp [compareBytes],by simp [compareBytes]⟩)
 | x::a,y::b=>by
  unfold compareBytes
  by_cases h:x < y
  ·have h':¬ y < x:=fun h'=>by rw [UInt8.lt_iff_toNat_lt] at h h'; omega
   rw [if_pos h,if_neg h',if_pos h]
   exact .inl ⟨by omega,by omega⟩
  ·by_cases h':y < x
   ·rw [if_neg h,if_pos h',if_pos h']
    exact .inr (.inr ⟨by omega,by omega⟩)
   ·rw [if_neg h,if_neg h',if_neg h',if_neg h]
    have e:x=y:=by
     apply UInt8.toNat_inj.1
     rw [UInt8.lt_iff_toNat_lt] at h h'; omega
    subst e
    rcases qPj a b with h1 | h1 | h1
    ·exact .inl h1
    ·exact .inr (.inl (by rw [h1]))
    ·exact .inr (.inr h1)
theorem qR3 {n:Nat} (h:n < 18446744073709551616):IntKind.u64.wrap ((n:Nat):Int)=((n:Nat):Int):=by
 have:IntKind.u64.wrap (n:Int)=(n:Int) % 18446744073709551616:=by simp [IntKind.wrap,IntKind.bits,IntKind.signed]
 rw [this]; omega
def ltB (a b:List UInt8):Bool:=decide (compareBytes a b < 0)
theorem qdJ (a:List UInt8):ltB a a=false:=by unfold ltB; rw [qKn]; rfl
theorem qQa {a b c:List UInt8} (h1:ltB a b=true) (h2:ltB b c=true):ltB a c=true:=decide_eq_true (qH3 a b c (of_decide_eq_true h1) (of_decide_eq_true h2))
theorem qxb (a b:List UInt8):(ltB a b=true∧ltB b a=false)∨a=b∨(ltB b a=true∧ltB a b=false):=by
 rcases qPj a b with h | h | h
 ·exact .inl ⟨decide_eq_true h.1,decide_eq_false (by omega)⟩
 ·exact .inr (.inl h)
 ·exact .inr (.inr ⟨decide_eq_true h.1,decide_eq_false (by omega)⟩)
theorem qCl:∀ a b:List UInt8,Op.bytesLess a b=ltB a b
 | [],[]=>rfl
 | [],_::_=>rfl
 | _::_,[]=>rfl
 | x::a,y::b=>by
  have ih:=qCl a b
  unfold Op.bytesLess
  rw [ih]
  unfold ltB
  rw [show compareBytes (x::a) (y::b)=if x < y then -1 else if y < x then 1 else compareBytes a b from rfl]
  by_cases h:x < y
  ·rw [if_pos h,decide_eq_true h]; rfl
  ·rw [if_neg h,decide_eq_false h,Bool.false_or]
   by_cases h':y < x
   ·rw [if_pos h']
    have:(x == y)=false:=by
     rw [beq_eq_false_iff_ne]
     intro e; subst e; exact h h'
    rw [this]; rfl
   ·have e : x = y := by
       apply UInt8.toNat_inj.1
       rw [UInt8.lt_iff_toNat_lt] at h h'; omega
    subst e
    rw [if_neg h]
    simp
theorem qxe (a b:Vector UInt8 16):lbB a b=ltB a.toList b.toList:=by
 unfold lbB
 by_cases h:a=b
 ·subst h; rw [decide_eq_true rfl,qdJ]; rfl
 ·rw [decide_eq_false h]; rfl
def ltD (a b:Vector UInt8 32):Bool:=ltB a.toList b.toList
theorem eqD (a b:Vector UInt8 32):eqE (.ba 32) a b=decide (a=b):=Bool.eq_iff_iff.2 ((Xz (.ba 32) a b).trans (decide_eq_true_iff (p:=(a:Vector UInt8 32)=b)).symm)
def qb1 (a b:qf):Bool:=if a.S=b.S then (if VK a.V=VK b.V then ltB a.V b.V else ltD (VK a.V) (VK b.V)) else slB a.S b.S
def cJ (a b:qf):qf:=if qb1 a b=true then b else a
def mxS (a b:qe):qe:=if slB a b=true then b else a
theorem qxw (a b:qe):(slB a b=true∧slB b a=false)∨a=b∨(slB b a=true∧slB a b=false):=by
 obtain ⟨a1,a2⟩:=a
 obtain ⟨b1,b2⟩:=b
 unfold slB
 simp only [decide_eq_true_iff,decide_eq_false_iff_not,Prod.mk.injEq]
 omega
theorem qa6 (a:qe):slB a a=false:=by
 unfold slB
 exact decide_eq_false (by omega)
theorem qD3 {a b c:qe} (h1:slB a b=true) (h2:slB b c=true):slB a c=true:=by
 unfold slB at *
 rw [decide_eq_true_iff] at *
 omega
end Go.Rx
end
set_option maxRecDepth 100000
noncomputable section
namespace Go.Rx
open Go.Proofs
section n
variable {N:Nat} [QJ N]
def qVL:Option Nat→Int
 | some i=>(i:Int)
 | none=>-1
theorem qwc {p:Nat→Bool} {n i:Nat} (h:Jz p n 0=some i):i < n∧p i=true:=by
 obtain ⟨h1,_,h2,_⟩:=qpg h
 exact ⟨by omega,h1⟩
end n
end Go.Rx
end
set_option maxRecDepth 100000
noncomputable section
namespace Go.Rx
open Go.Proofs
section n
variable {N:Nat} [QJ N]
theorem qTK (r:qa):∃ b,Jj N r=some b:=by
 unfold Jj qcX
 by_cases h:r.F.length≤12
 ·have d:decide ((12:Int) < ((r.F.length:Nat):Int))=false:=decide_eq_false (by omega)
  have key:qbA N r 0=some (if QK (fun k=>decide ((r.F.getD k zF).C.V.length≤300)) r.F.length then .inr (((r.F.length:Nat):Int),false) else .inl ()):=by
   refine Wk (B:=Xv N r) (g:=some) (q:=fun k=>decide ((r.F.getD k zF).C.V.length≤300)) (fun k hk=>?_) ?_ (by have:=big N; omega)
   ·unfold Xv
    have e:decide ((300:Int) < (((r.F.getD k zF).C.V.length:Nat):Int))=!decide ((r.F.getD k zF).C.V.length≤300):=qSw (c:=300)
    rw [qG,dec_lt hk,cond_true,run_bind,zB (d:=zF) hk,Option.bind_some,qG,qS,e,qM,qi (show qj ((k:Int) + 1) by unfold qj; omega),qS,qZ]
    cases decide ((r.F.getD k zF).C.V.length≤300)<;>rfl
   ·unfold Xv
    rw [qG,zo (Nat.lt_irrefl _),cond_false,qS]
  rw [qG,d,cond_false,run_bind,key,Option.bind_some]
  cases QK (fun k=>decide ((r.F.getD k zF).C.V.length≤300)) r.F.length
  ·exact ⟨_,rfl⟩
  ·exact ⟨_,rfl⟩
 ·have d:decide ((12:Int) < ((r.F.length:Nat):Int))=true:=decide_eq_true (by omega)
  exact ⟨false,by rw [qG,d,cond_true,qS]⟩
theorem qTM (b:qc):∃ x,qaE N b=some x:=by
 unfold qaE qcY
 by_cases h:b.R.length≤14
 ·have d:decide ((14:Int) < ((b.R.length:Nat):Int))=false:=decide_eq_false (by omega)
  have key:qbL N b 0=some (if QK (fun k=>(Jj N (b.R.getD k zR)).getD false) b.R.length then .inr (((b.R.length:Nat):Int),false) else .inl ()):=by
   refine Wk (B:=XC N b) (g:=some) (q:=fun k=>(Jj N (b.R.getD k zR)).getD false) (fun k hk=>?_) ?_ (by have:=big N; omega)
   ·obtain ⟨x,e⟩:=qTK (N:=N) (b.R.getD k zR)
    unfold XC
    rw [qG,dec_lt hk,cond_true,run_bind,zB (d:=zR) hk,Option.bind_some,run_bind,e,Option.bind_some,qG,qS,qM,qi (show qj ((k:Int) + 1) by unfold qj; omega),qS,qZ]
    cases x<;>rfl
   ·unfold XC
    rw [qG,zo (Nat.lt_irrefl _),cond_false,qS]
  rw [qG,d,cond_false,run_bind,key,Option.bind_some]
  cases QK (fun k=>(Jj N (b.R.getD k zR)).getD false) b.R.length
  ·exact ⟨_,rfl⟩
  ·exact ⟨_,rfl⟩
 ·have d:decide ((14:Int) < ((b.R.length:Nat):Int))=true:=decide_eq_true (by omega)
  exact ⟨false,by rw [qG,d,cond_true,qS]⟩
end n
theorem qEB:∀ l:List qa,∃ M:Nat,∀ k,k < l.length→(l.getD k zR).F.length≤M
 | []=>⟨0,fun k hk=>by simp at hk⟩
 | r::l=>by
  obtain ⟨M,h⟩:=qEB l
  refine ⟨r.F.length + M,fun k hk=>?_⟩
  cases k with
  | zero=>simp
  | succ k=>
   have:=h k (by simpa using hk)
   simp only [List.getD_cons_succ]; omega
theorem qV2 (b:qc) (h1:b.R.length≤4611686018427387904) (h2:∀ k,k < b.R.length→(b.R.getD k zR).F.length≤4611686018427387904):∃ M:Nat,∀ N,M≤N→jL N b:=by
 obtain ⟨M,h⟩:=qEB b.R
 refine ⟨M + b.R.length + 1,fun N hN=>⟨by omega,h1,fun k hk=>⟨by have:=h k hk; omega,h2 k hk⟩⟩⟩
end Go.Rx
end
set_option maxRecDepth 100000
noncomputable section
namespace Go.Rx
open Go.Proofs
def qyV (l:List qa) (id:Vector UInt8 16):Option Nat:=Jz (fun k=>decide ((l.getD k zR).ID=id)) l.length 0
def qoo (l:List qg) (no:Int):Option Nat:=Jz (fun k=>decide ((l.getD k zF).No=no)) l.length 0
def recAt (b:qc) (id:Vector UInt8 16):qa×Bool:=match qyV b.R id with
 | some i=>(b.R.getD i zR,true)
 | none=>(zR,false)
def cellAt (r:qa) (no:Int):qf×Bool:=match qoo r.F no with
 | some i=>((r.F.getD i zF).C,true)
 | none=>(qf.mk zSt [],false)
end Go.Rx
end
set_option maxRecDepth 100000
noncomputable section
namespace Go.Rx
open Go.Proofs
theorem qv2 {α:Type} {d:α} {l:List α} {k:Nat} (h:k < l.length):l.drop k=l.getD k d::l.drop (k + 1):=by
 rw [List.drop_eq_getElem_cons h,List.getD_eq_getElem?_getD,List.getElem?_eq_getElem h]; rfl
theorem qAI {α:Type} {p:α→Bool} {d:α} {l:List α}:∀ {m k:Nat},k + m=l.length→(Jz (fun j=>p (l.getD j d)) m k).map (fun i=>l.getD i d)=(l.drop k).find? p
 | 0,k,h=>by rw [List.drop_of_length_le (by omega)]; rfl
 | m + 1,k,h=>by
  rw [qv2 (d:=d) (by omega),List.find?_cons]
  unfold Jz
  cases hp:p (l.getD k d) with
  | true=>rw [if_pos rfl]; rfl
  | false=>rw [if_neg (by simp)]; exact qAI (by omega)
def cO (l:List qg) (no:Int):Option qf:=(l.find? fun f=>decide (f.No=no)).map fun f=>f.C
theorem qHO {l:List qg} {no:Int}:(qoo l no).map (fun i=>(l.getD i zF).C)=cO l no:=by
 unfold qoo cO
 have:=qAI (p:=fun f:qg=>decide (f.No=no)) (d:=zF) (l:=l) (m:=l.length) (k:=0) (by omega)
 rw [List.drop_zero] at this
 rw [← this,Option.map_map]; rfl
theorem qCj {no:Int}:cO [] no=none:=rfl
theorem qw1 {f:qg} {l:List qg} {no:Int}:cO (f::l) no=if f.No=no then some f.C else cO l no:=by
 unfold cO
 rw [List.find?_cons]
 by_cases h:f.No=no
 ·rw [decide_eq_true h,if_pos h]; rfl
 ·rw [decide_eq_false h,if_neg h]
theorem qpw {l:List qg} {no:Int} {c:qf} (h:cO l no=some c):∃ f,f∈l∧f.No=no∧f.C=c:=by
 unfold cO at h
 obtain ⟨f,h1,h2⟩:=Option.map_eq_some_iff.1 h
 exact ⟨f,List.mem_of_find?_eq_some h1,of_decide_eq_true (List.find?_some (p:=fun f:qg=>decide (f.No=no)) h1),h2⟩
def jC:Option qf→Option qf→Option qf
 | some x,some y=>some (cJ x y)
 | some x,none=>some x
 | none,y=>y
def Yv (g:Int→Option qf) (f:qg) (no:Int):Option qf:=if f.No=no then jC (g no) (some f.C) else g no
theorem qHe {g:Int→Option qf} {f:qg} {no:Int}:Yv g f no=if f.No=no then jC (g no) (some f.C) else g no:=rfl
theorem qCZ:∀ {l:List qg} {g:Int→Option qf} {no:Int},(l.map fun f=>f.No).Nodup→l.foldl Yv g no=jC (g no) (cO l no)
 | [],g,no,_=>by rw [qCj]; show g no=_; cases g no<;>rfl
 | f::l,g,no,h=>by
  rw [List.map_cons,List.nodup_cons] at h
  rw [List.foldl_cons,qCZ h.2,qw1]
  unfold Yv
  by_cases e:f.No=no
  ·rw [if_pos e,if_pos e]
   have:cO l no=none:=by
    cases hc:cO l no with
    | none=>rfl
    | some c=>
     obtain ⟨x,hx,hx2,_⟩:=qpw hc
     exact (h.1 (List.mem_map.2 ⟨x,hx,by rw [hx2,e]⟩)).elim
   rw [this]
   cases g no<;>rfl
  ·rw [if_neg e,if_neg e]
def qcO (no:Int) (M:List (Int×qf×Nat)):Option qf:=(fnd (β:=qf) (.i .i64) no M).map (·.1)
theorem qGg {q k:Int} {p:qf} {c:Nat} {M:List (Int×qf×Nat)}:qcO q (JV (β:=qf) (.i .i64) k p c M).2=if q=k then some p else qcO q M:=by
 have:=@qzU (El (.i .i64)) qf (Wj (.i .i64)) k q p c M
 rw [show qcO q (JV (β:=qf) (.i .i64) k p c M).2=@qz6 (El (.i .i64)) qf (Wj (.i .i64)) q (@ql4 (El (.i .i64)) qf (Wj (.i .i64)) k p c M).2 from rfl,this]
 by_cases h:q=k
 ·rw [if_pos h]; exact if_pos h
 ·rw [if_neg h]; exact if_neg h
def qbZ (dead:qe) (k:Nat):Option qf→List qg
 | some c=>if slB dead c.S=true then [qg.mk (k:Int) c] else []
 | none=>[]
def Ve (g:Int→Option qf) (dead:qe):Nat→Nat→List qg
 | 0,_=>[]
 | m + 1,k=>qbZ dead k (g (k:Int))++Ve g dead m (k + 1)
theorem qlr {g:Int→Option qf} {dead:qe}:∀ {m k:Nat} {s:List qg},zZ (fun k s=>s++qbZ dead k (g (k:Int))) m k s=s++Ve g dead m k
 | 0,_,s=>by unfold zZ Ve; rw [List.append_nil]
 | m + 1,k,s=>by
  unfold zZ Ve
  rw [qlr,List.append_assoc]
theorem qu_ {dead:qe} {k:Nat} {c:Option qf}:(qbZ dead k c).length≤1:=by
 cases c with
 | none=>exact Nat.zero_le _
 | some c=>
  show (if slB dead c.S=true then [qg.mk (k:Int) c] else []).length≤1
  by_cases h:slB dead c.S=true
  ·rw [if_pos h]; exact Nat.le_refl _
  ·rw [if_neg h]; exact Nat.zero_le _
def rJ (a b:qa):qa:=qa.mk a.ID (mxS a.qW b.qW) (Ve (fun no=>jC (cO a.F no) (cO b.F no)) (mxS a.qW b.qW) 8 0)
theorem qGU {r:qa} (h:jT r=true):(r.F.map fun f=>f.No).Nodup:=by
 have hlt:∀ (d a:Nat),a + d + 1 < r.F.length→(r.F.getD a zF).No < (r.F.getD (a + d + 1) zF).No:=by
  intro d
  induction d with
  | zero=>
   intro a ha
   have:=(YA.1 ((qae.1 h).2.2 (a + 0 + 1) ha)).1
   rw [if_neg (by omega),show a + 0 + 1 - 1=a by omega] at this
   exact this
  | succ d ih=>
   intro a ha
   have h1:=ih a (by omega)
   have:=(YA.1 ((qae.1 h).2.2 (a + (d + 1) + 1) ha)).1
   rw [if_neg (by omega),show a + (d + 1) + 1 - 1=a + d + 1 by omega] at this
   omega
 rw [List.nodup_iff_pairwise_ne,List.pairwise_iff_getElem]
 intro i j hi hj hij
 rw [List.length_map] at hi hj
 have:=hlt (j - i - 1) i (by omega)
 rw [show i + (j - i - 1) + 1=j by omega,List.getD_eq_getElem?_getD,List.getD_eq_getElem?_getD,List.getElem?_eq_getElem hi,List.getElem?_eq_getElem hj] at this
 rw [List.getElem_map,List.getElem_map]
 show r.F[i].No≠r.F[j].No
 have:r.F[i].No < r.F[j].No:=this
 omega
theorem qAL {r:qa} (h:jT r=true):∀ k,k < r.F.length→Y2 (r.F.getD k zF).C=true:=fun j hj=>(YA.1 ((qae.1 h).2.2 j hj)).2.2.1
def qkY (g:Int→Option qf):Prop:=∀ no c,g no=some c→c.V.length≤200
theorem qTG (a b:qf):cJ a b=a∨cJ a b=b:=by
 unfold cJ
 split
 ·exact .inr rfl
 ·exact .inl rfl
theorem qMX {g:Int→Option qf} {f:qg} (hg:qkY g) (hf:f.C.V.length≤200):qkY (Yv g f):=by
 intro no c h
 unfold Yv at h
 split at h
 ·cases e:g no with
  | none=>rw [e] at h; obtain rfl:=Option.some.inj h; exact hf
  | some x=>
   rw [e] at h
   obtain rfl:=Option.some.inj h
   rcases qTG x f.C with h1 | h1
   ·rw [h1]; exact hg no x e
   ·rw [h1]; exact hf
 ·exact hg no c h
end Go.Rx
end
set_option maxRecDepth 100000
noncomputable section
namespace Go.Rx
open Go.Proofs
open Go.Lib (compareBytes)
theorem qgk {a b c:Vector UInt8 16} (h1:lbB a b=true) (h2:lbB b c=true):lbB a c=true:=by
 rw [qxe] at *; exact qQa h1 h2
theorem qKN (a b:Vector UInt8 16):(lbB a b=true∧lbB b a=false)∨a=b∨(lbB b a=true∧lbB a b=false):=by
 rw [qxe,qxe]
 rcases qxb a.toList b.toList with h | h | h
 ·exact .inl h
 ·exact .inr (.inl (Vector.toList_inj.1 h))
 ·exact .inr (.inr h)
end Go.Rx
end
set_option maxRecDepth 100000
noncomputable section
namespace Go.Rx
open Go.Proofs
theorem qli {α:Type} {l:List α} {d:α} {P:α→Prop}:(∀ k,k < l.length→P (l.getD k d))↔∀ x∈l,P x:=by
 constructor
 ·intro h x hx
  obtain ⟨i,hi,rfl⟩:=List.getElem_of_mem hx
  have:=h i hi
  rw [List.getD_eq_getElem?_getD,List.getElem?_eq_getElem hi] at this
  exact this
 ·intro h k hk
  rw [List.getD_eq_getElem?_getD,List.getElem?_eq_getElem hk]
  exact h _ (List.getElem_mem hk)
theorem qnf {α:Type} {R:α→α→Prop} (ht:∀ a b c,R a b→R b c→R a c) {d:α} {l:List α}:(∀ k,k + 1 < l.length→R (l.getD k d) (l.getD (k + 1) d))↔l.Pairwise R:=by
 have gd:∀ k (h:k < l.length),l.getD k d=l[k]:=fun k h=>by rw [List.getD_eq_getElem?_getD,List.getElem?_eq_getElem h]; rfl
 rw [List.pairwise_iff_getElem]
 constructor
 ·intro h i j hi hj hij
  have key:∀ m,∀ hm:i + m + 1 < l.length,R l[i] l[i + m + 1]:=by
   intro m
   induction m with
   | zero=>
    intro hm
    have:=h i hm
    rw [gd i hi,gd (i + 1) hm] at this; exact this
   | succ m ih=>
    intro hm
    have h1:=ih (by omega)
    have h2:=h (i + m + 1) hm
    rw [gd (i + m + 1) (by omega),gd (i + m + 1 + 1) hm] at h2
    exact ht _ _ _ h1 h2
  have:=key (j - i - 1) (by omega)
  have e:i + (j - i - 1) + 1=j:=by omega
  simp only [e] at this
  exact this
 ·intro h k hk
  rw [gd k (by omega),gd (k + 1) hk]
  exact h k (k + 1) (by omega) hk (by omega)
abbrev qCL (l:List qg):Prop:=l.Pairwise fun f g=>f.No < g.No
theorem qji {r:qa}:jT r=true↔stB r.qW=true∧(r.F≠[]∨r.qW≠zSt)∧qCL r.F∧∀ f∈r.F,0≤f.No∧f.No < 8∧Y2 f.C=true∧slB r.qW f.C.S=true:=by
 have hne:r.F.length≠0↔r.F≠[]:=by
  rw [Ne,Ne,List.length_eq_zero_iff]
 constructor
 ·intro h
  have hr:=qae.1 h
  refine ⟨hr.1,hr.2.1.imp hne.1 id,(qnf (R:=fun f g:qg=>f.No < g.No) (fun a b c h1 h2=>Int.lt_trans h1 h2) (d:=zF)).1 fun k hk=>?_,(qli (d:=zF)).1 fun k hk=>?_⟩
  ·have:=(YA.1 (hr.2.2 (k + 1) hk)).1
   rw [if_neg (by omega)] at this
   exact this
  ·have h1:=YA.1 (hr.2.2 k hk)
   have h2:=qGL h k hk
   exact ⟨by omega,h1.2.1,h1.2.2.1,h1.2.2.2⟩
 ·rintro ⟨h1,h2,h3,h4⟩
  refine qae.2 ⟨h1,h2.imp hne.2 id,fun k hk=>YA.2 ⟨?_,?_⟩⟩
  ·by_cases h0:k=0
   ·rw [if_pos h0]; exact ((qli (d:=zF)).2 h4 k hk).1
   ·rw [if_neg h0]
    have:=(qnf (R:=fun f g:qg=>f.No < g.No) (fun a b c h1 h2=>Int.lt_trans h1 h2) (d:=zF)).2 h3 (k - 1) (by omega)
    rw [show k - 1 + 1=k by omega] at this
    exact this
  ·have:=(qli (d:=zF)).2 h4 k hk
   exact this.2
theorem qg5 {g:Int→Option qf} {dead:qe}:∀ {m k:Nat} {f:qg},f∈Ve g dead m k→(k:Int)≤f.No∧f.No < ((k + m:Nat):Int)∧g f.No=some f.C∧slB dead f.C.S=true
 | 0,_,_,h=>absurd h List.not_mem_nil
 | m + 1,k,f,h=>by
  unfold Ve at h
  rcases List.mem_append.1 h with h | h
  ·cases e:g (k:Int) with
   | none=>rw [e] at h; exact absurd h List.not_mem_nil
   | some c=>
    rw [e] at h
    have h:f∈(if slB dead c.S=true then [qg.mk (k:Int) c] else []):=h
    split at h
    ·rename_i hs
     obtain rfl:=List.mem_singleton.1 h
     exact ⟨Int.le_refl _,by show (k:Int) < _; omega,e,hs⟩
    ·exact absurd h List.not_mem_nil
  ·have:=qg5 h
   exact ⟨by omega,by omega,this.2.2⟩
theorem qsV {g:Int→Option qf} {dead:qe}:∀ {m k:Nat},qCL (Ve g dead m k)
 | 0,_=>List.Pairwise.nil
 | m + 1,k=>by
  unfold Ve
  refine List.pairwise_append.2 ⟨?_,qsV,fun a ha b hb=>?_⟩
  ·have:=qu_ (dead:=dead) (k:=k) (c:=g (k:Int))
   match hk:qbZ dead k (g (k:Int)),this with
   | [],_=>exact List.Pairwise.nil
   | [x],_=>exact List.pairwise_singleton _ _
  ·have h1:=qg5 hb
   cases e:g (k:Int) with
   | none=>rw [e] at ha; exact absurd ha List.not_mem_nil
   | some c=>
    rw [e] at ha
    have ha:a∈(if slB dead c.S=true then [qg.mk (k:Int) c] else []):=ha
    split at ha
    ·obtain rfl:=List.mem_singleton.1 ha
     show (k:Int) < b.No
     omega
    ·exact absurd ha List.not_mem_nil
theorem qQj {l:List qg} (h:qCL l) {f:qg} (hf:f∈l):cO l f.No=some f.C:=by
 induction l with
 | nil=>exact absurd hf List.not_mem_nil
 | cons x l ih=>
  rw [qw1]
  have hp:=List.pairwise_cons.1 h
  rcases List.mem_cons.1 hf with rfl | hf
  ·rw [if_pos rfl]
  ·have:=hp.1 f hf
   rw [if_neg (by omega),ih hp.2 hf]
theorem qy1 {r:qa} (h:jT r=true) {no:Int} {c:qf} (hc:cO r.F no=some c):0≤no∧no < 8∧Y2 c=true∧slB r.qW c.S=true:=by
 obtain ⟨f,hf,rfl,rfl⟩:=qpw hc
 exact (qji.1 h).2.2.2 f hf
theorem qOj {g:Int→Option qf} {dead:qe} {no:Int} (h0:0≤no) (h8:no < 8):cO (Ve g dead 8 0) no=(g no).filter fun c=>slB dead c.S:=by
 have key:∀ (m k:Nat),(k:Int)≤no→no < ((k + m:Nat):Int)→cO (Ve g dead m k) no=(g no).filter fun c=>slB dead c.S:=by
  intro m
  induction m with
  | zero=>intro k h1 h2; omega
  | succ m ih=>
   intro k h1 h2
   unfold Ve
   have app:∀ (a b:List qg),cO (a++b) no=(cO a no).or (cO b no):=by
    intro a b
    unfold cO
    rw [List.find?_append]
    cases List.find? (fun f:qg=>decide (f.No=no)) a<;>rfl
   rw [app]
   by_cases e:no=(k:Int)
   ·subst e
    have hn:cO (Ve g dead m (k + 1)) (k:Int)=none:=by
     cases hc:cO (Ve g dead m (k + 1)) (k:Int) with
     | none=>rfl
     | some c=>
      obtain ⟨f,hf,h3,_⟩:=qpw hc
      have:=(qg5 hf).1
      omega
    rw [hn]
    cases hg:g (k:Int) with
    | none=>rfl
    | some c=>
     show (cO (if slB dead c.S=true then [qg.mk (k:Int) c] else []) (k:Int)).or none=_
     rw [Option.or_none]
     by_cases hs:slB dead c.S=true
     ·rw [if_pos hs,qw1,if_pos (show (qg.mk (k:Int) c).No=(k:Int) from rfl),Option.filter_some,if_pos hs]; rfl
     ·rw [if_neg hs,qCj,Option.filter_some,if_neg hs]
   ·have hn : cO (qbZ dead k (g (k : Int))) no = none := by
       cases hg:g (k:Int) with
       | none=>rfl
       | some c=>
        show cO (if slB dead c.S=true then [qg.mk (k:Int) c] else []) no=none
        by_cases hs:slB dead c.S=true
        ·rw [if_pos hs,qw1,if_neg (fun h=>e h.symm),qCj]
        ·rw [if_neg hs,qCj]
    rw [hn,Option.none_or,ih (k + 1) (by omega) (by omega)]
 exact key 8 0 (by omega) (by omega)
theorem qVq (a b:qe):mxS a b=a∨mxS a b=b:=by
 unfold mxS
 split
 ·exact .inr rfl
 ·exact .inl rfl
theorem qGQ {s:qe} (h:stB s=true) (hz:s≠zSt):slB zSt s=true:=by
 unfold stB at h
 rw [decide_eq_false hz] at h
 simp only [Bool.false_or,Bool.and_eq_true,decide_eq_true_iff] at h
 unfold slB
 exact decide_eq_true (.inl h.1.1.1)
theorem qV7 {x y:qf}:slB (cJ x y).S x.S=false∧slB (cJ x y).S y.S=false:=by
 unfold cJ
 by_cases h:qb1 x y=true
 ·rw [if_pos h]
  unfold qb1 at h
  by_cases e:x.S=y.S
  ·rw [e]; exact ⟨qa6 _,qa6 _⟩
  ·rw [if_neg e] at h
   rcases qxw x.S y.S with h1 | h1 | h1
   ·exact ⟨h1.2,qa6 _⟩
   ·exact (e h1).elim
   ·rw [h] at h1; simp at h1
 ·rw [if_neg h]
  unfold qb1 at h
  by_cases e:x.S=y.S
  ·rw [e]; exact ⟨qa6 _,qa6 _⟩
  ·rw [if_neg e] at h
   rcases qxw x.S y.S with h1 | h1 | h1
   ·exact (h h1.1).elim
   ·exact (e h1).elim
   ·exact ⟨qa6 _,h1.2⟩
theorem qVF {a b c:qe} (h1:slB b a=false) (h2:slB c a=true):slB c b=true:=by
 rcases qxw a b with h | h | h
 ·exact qD3 h2 h.1
 ·subst h; exact h2
 ·rw [h1] at h; simp at h
theorem qGw {a b:qa} (ha:jT a=true) (hb:jT b=true) {no:Int} {c:qf} (h:jC (cO a.F no) (cO b.F no)=some c):0≤no∧no < 8∧Y2 c=true:=by
 cases ea:cO a.F no with
 | none=>
  rw [ea] at h
  cases eb:cO b.F no with
  | none=>rw [eb] at h; cases h
  | some y=>
   rw [eb] at h
   obtain rfl:=Option.some.inj h
   have:=qy1 hb eb; exact ⟨this.1,this.2.1,this.2.2.1⟩
 | some x=>
  have hx:=qy1 ha ea
  rw [ea] at h
  cases eb:cO b.F no with
  | none=>
   rw [eb] at h
   obtain rfl:=Option.some.inj h
   exact ⟨hx.1,hx.2.1,hx.2.2.1⟩
  | some y=>
   have hy:=qy1 hb eb
   rw [eb] at h
   obtain rfl:=Option.some.inj h
   refine ⟨hx.1,hx.2.1,?_⟩
   rcases qTG x y with e | e
   ·rw [e]; exact hx.2.2.1
   ·rw [e]; exact hy.2.2.1
theorem qLl (a b:qa):(rJ a b).F=Ve (fun no=>jC (cO a.F no) (cO b.F no)) (mxS a.qW b.qW) 8 0:=rfl
theorem qVU {a b:qa} (ha:jT a=true) (hb:jT b=true) (no:Int):cO (rJ a b).F no=(jC (cO a.F no) (cO b.F no)).filter fun c=>slB (mxS a.qW b.qW) c.S:=by
 by_cases h:0≤no∧no < 8
 ·rw [qLl,qOj h.1 h.2]
 ·have e1 : jC (cO a.F no) (cO b.F no) = none := by
     cases e:jC (cO a.F no) (cO b.F no) with
     | none=>rfl
     | some c=>have:=qGw ha hb e; exact (h ⟨this.1,this.2.1⟩).elim
  rw [e1]
  cases e:cO (rJ a b).F no with
  | none=>rfl
  | some c=>
   obtain ⟨f,hf,h3,_⟩:=qpw e
   rw [qLl] at hf
   have:=qg5 (m:=8) (k:=0) hf
   exact (h ⟨by omega,by omega⟩).elim
theorem qTA (a b:qa):(rJ a b).ID=a.ID:=rfl
theorem qKh (a b:qa):(rJ a b).qW=mxS a.qW b.qW:=rfl
theorem qTk {a b:qe} (ha:stB a=true) (hb:stB b=true) (h:mxS a b=zSt):a=zSt∧b=zSt:=by
 by_cases e:b=zSt
 ·subst e
  unfold mxS at h
  by_cases hs:slB a zSt=true
  ·exfalso
   by_cases ea:a=zSt
   ·subst ea; rw [qa6] at hs; simp at hs
   ·have:=qD3 (qGQ ha ea) hs
    rw [qa6] at this; simp at this
  ·rw [if_neg hs] at h; exact ⟨h,rfl⟩
 ·exfalso
  unfold mxS at h
  by_cases hs:slB a b=true
  ·rw [if_pos hs] at h; exact e h
  ·rw [if_neg hs] at h
   subst h
   exact hs (qGQ hb e)
theorem qzG {a b:qa} (ha:jT a=true) (hb:jT b=true):jT (rJ a b)=true:=by
 have hA:=qji.1 ha
 have hB:=qji.1 hb
 refine qji.2 ⟨?_,?_,by rw [qLl]; exact qsV,fun f hf=>?_⟩
 ·rw [qKh]
  rcases qVq a.qW b.qW with e | e
  ·rw [e]; exact hA.1
  ·rw [e]; exact hB.1
 ·by_cases hz:(rJ a b).qW=zSt
  ·left
   intro hF
   obtain ⟨za,zb⟩:=qTk hA.1 hB.1 hz
   have hne:a.F≠[]:=hA.2.1.resolve_right (fun h=>h za)
   obtain ⟨f,l,e⟩:=List.exists_cons_of_ne_nil hne
   have hf:f∈a.F:=by rw [e]; exact List.mem_cons_self ..
   have hca:=qQj hA.2.2.1 hf
   have hfl:=(hA.2.2.2 f hf).2.2.2
   have hn:cO (rJ a b).F f.No=none:=by rw [hF]; rfl
   rw [qVU ha hb,hca] at hn
   rw [qKh] at hz
   rw [hz] at hn
   rw [za] at hfl
   cases hcb:cO b.F f.No with
   | none=>
    rw [hcb] at hn
    have hn:(some f.C).filter (fun c=>slB zSt c.S)=none:=hn
    rw [Option.filter_some,if_pos hfl] at hn; cases hn
   | some y=>
    rw [hcb] at hn
    have hn:(some (cJ f.C y)).filter (fun c=>slB zSt c.S)=none:=hn
    rw [Option.filter_some,if_pos (qVF qV7.1 hfl)] at hn; cases hn
  ·exact .inr hz
 ·rw [qLl] at hf
  have h1:=qg5 (m:=8) (k:=0) hf
  have h2:=qGw ha hb h1.2.2.1
  exact ⟨h2.1,h2.2.1,h2.2.2,h1.2.2.2⟩
def rO (l:List qa) (id:Vector UInt8 16):Option qa:=l.find? fun r=>decide (r.ID=id)
theorem qA4 {id:Vector UInt8 16}:rO [] id=none:=rfl
theorem VD {r:qa} {l:List qa} {id:Vector UInt8 16}:rO (r::l) id=if r.ID=id then some r else rO l id:=by
 unfold rO
 rw [List.find?_cons]
 by_cases h:r.ID=id
 ·rw [decide_eq_true h,if_pos h]
 ·rw [decide_eq_false h,if_neg h]
theorem Wq {l:List qa} {id:Vector UInt8 16} {r:qa} (h:rO l id=some r):r∈l∧r.ID=id:=
 ⟨List.mem_of_find?_eq_some h,of_decide_eq_true (List.find?_some (p:=fun r:qa=>decide (r.ID=id)) h)⟩
abbrev Yb (l:List qa):Prop:=l.Pairwise fun a b=>lbB a.ID b.ID=true
def Yh (l:List qa):Prop:=Yb l∧∀ r∈l,jT r=true
theorem VU {b:qc}:zG b=true↔Yh b.R∧b.R.length≤10:=by
 rw [qi1]
 refine and_congr ?_ Iff.rfl
 have ht:∀ a b c:qa,lbB a.ID b.ID=true→lbB b.ID c.ID=true→lbB a.ID c.ID=true:=fun _ _ _ h1 h2=>qgk h1 h2
 constructor
 ·intro h
  refine ⟨(qnf (R:=fun a b:qa=>lbB a.ID b.ID=true) ht (d:=zR)).1 fun k hk=>?_,(qli (d:=zR)).1 fun k hk=>(h k hk).1⟩
  rcases (h (k + 1) hk).2 with e | e
  ·omega
  ·exact e
 ·rintro ⟨h1,h2⟩ k hk
  refine ⟨(qli (d:=zR)).2 h2 k hk,?_⟩
  by_cases h0:k=0
  ·exact .inl h0
  ·have:=(qnf (R:=fun a b:qa=>lbB a.ID b.ID=true) ht (d:=zR)).2 h1 (k - 1) (by omega)
   rw [show k - 1 + 1=k by omega] at this
   exact .inr this
theorem qNU {l:List qa} (h:Yb l) {r:qa} (hr:r∈l):rO l r.ID=some r:=by
 induction l with
 | nil=>exact absurd hr List.not_mem_nil
 | cons x l ih=>
  rw [VD]
  have hp:=List.pairwise_cons.1 h
  rcases List.mem_cons.1 hr with rfl | hr
  ·rw [if_pos rfl]
  ·have:=hp.1 r hr
   rw [if_neg (fun e=>by rw [e,YP] at this; cases this),ih hp.2 hr]
theorem qGu:∀ {l l':List qa},Yb l→Yb l'→(∀ id,rO l id=rO l' id)→l=l'
 | [],[],_,_,_=>rfl
 | [],y::l',_,h',h=>by
  have:=h y.ID
  rw [qA4,VD,if_pos rfl] at this; cases this
 | x::l,[],hl,_,h=>by
  have:=h x.ID
  rw [qA4,VD,if_pos rfl] at this; cases this
 | x::l,y::l',hl,hl',h=>by
  have pl:=List.pairwise_cons.1 hl
  have pl':=List.pairwise_cons.1 hl'
  have h1:=h x.ID
  rw [VD,if_pos rfl] at h1
  have h2:=h y.ID
  rw [VD (r:=y),if_pos rfl] at h2
  have hxy:x=y:=by
   rcases List.mem_cons.1 (Wq h1.symm).1 with e | hf
   ·exact e
   ·rcases List.mem_cons.1 (Wq h2).1 with e | hg
    ·exact e.symm
    ·have a1:=pl'.1 x hf
     have a2:=pl.1 y hg
     have:=qgk a1 a2
     rw [YP] at this; cases this
  subst hxy
  rw [qGu pl.2 pl'.2 fun id=>?_]
  by_cases e:x.ID=id
  ·have n1 : rO l id = none := by
      cases hc:rO l id with
      | none=>rfl
      | some c=>
       have:=pl.1 c (Wq hc).1
       rw [e,(Wq hc).2,YP] at this; cases this
   have n2:rO l' id=none:=by
    cases hc:rO l' id with
    | none=>rfl
    | some c=>
     have:=pl'.1 c (Wq hc).1
     rw [e,(Wq hc).2,YP] at this; cases this
   rw [n1,n2]
  ·have:=h id
   rw [VD,VD,if_neg e,if_neg e] at this; exact this
def jR:Option qa→Option qa→Option qa
 | some x,some y=>some (rJ x y)
 | some x,none=>some x
 | none,y=>y
def qlH (a b c:List qa):Prop:=Yb c∧∀ id,rO c id=jR (rO a id) (rO b id)
theorem qMV {a b c d:List qa} (h:qlH a b c) (h':qlH a b d):c=d:=qGu h.1 h'.1 fun id=>(h.2 id).trans (h'.2 id).symm
theorem qNO {a b c:List qa} (ha:Yh a) (hb:Yh b) (h:qlH a b c):Yh c:=by
 refine ⟨h.1,fun r hr=>?_⟩
 have e:=h.2 r.ID
 rw [qNU h.1 hr] at e
 cases ea:rO a r.ID with
 | none=>
  rw [ea] at e
  have e:some r=rO b r.ID:=e
  exact hb.2 r (Wq e.symm).1
 | some x=>
  rw [ea] at e
  cases eb:rO b r.ID with
  | none=>
   rw [eb] at e
   obtain rfl:=Option.some.inj e
   exact ha.2 r (Wq ea).1
  | some y=>
   rw [eb] at e
   obtain rfl:=Option.some.inj e
   exact qzG (ha.2 x (Wq ea).1) (hb.2 y (Wq eb).1)
end Go.Rx
end
set_option maxRecDepth 100000
noncomputable section
namespace Go.Rx
open Go.Proofs
abbrev fl (d:qe) (o:Option qf):Option qf:=o.filter fun c=>slB d c.S
end Go.Rx
end
set_option maxRecDepth 100000
noncomputable section
namespace Go.Rx
open Go.Proofs
open Go.Lib (compareBytes)
section g
variable {α:Type}
theorem qGS {p q:List α} {x:α} {n:Nat} (h:(p++x::q).length=n):jM (p++x::q) n p.length=some x:=by
 unfold jM
 rw [if_pos h,List.getElem?_append_right (Nat.le_refl _),Nat.sub_self]; rfl
theorem qDB {x y:α} {q:List α}:∀ {p:List α},(p++x::q).set p.length y=p++y::q
 | []=>rfl
 | z::p=>by
  show z::(p++x::q).set p.length y=_
  rw [qDB]; rfl
end g
def KL (rp:List (Vector UInt8 16)) (x:Vector UInt8 16) (q:List (Vector UInt8 16)):List (Vector UInt8 16):=match rp with
 | []=>x::q
 | y::r=>if lbB x y=true then KL r x (y::q) else (y::r).reverse++x::q
def Q4 (l:List (Vector UInt8 16)):List (Vector UInt8 16):=l.foldl (fun p x=>KL p.reverse x []) []
theorem qvG {x:Vector UInt8 16}:∀ {rp q:List (Vector UInt8 16)},(KL rp x q).Perm (x::(rp++q))
 | [],q=>List.Perm.refl _
 | y::r,q=>by
  unfold KL
  split
  ·exact qvG.trans (List.Perm.cons _ List.perm_middle)
  ·exact List.perm_middle.trans (List.Perm.cons _ ((List.reverse_perm _).append_right _))
theorem qD6 {x:Vector UInt8 16} {s:List (Vector UInt8 16)}:∀ {rp q:List (Vector UInt8 16)},KL rp x (q++s)=KL rp x q++s
 | [],q=>rfl
 | y::r,q=>by
  unfold KL
  split
  ·exact qD6 (q:=y::q)
  ·rw [List.append_assoc]; rfl
abbrev qk4 (l:List (Vector UInt8 16)):Prop:=l.Pairwise fun a b=>lbB a b=true
theorem qyp {x:Vector UInt8 16}:∀ {rp q:List (Vector UInt8 16)},qk4 (rp.reverse++q)→(∀ y∈q,lbB x y=true)→x∉rp→qk4 (KL rp x q)
 | [],q,h,hq,_=>List.pairwise_cons.2 ⟨hq,h⟩
 | y::r,q,h,hq,hx=>by
  rw [List.mem_cons,not_or] at hx
  unfold KL
  split
  ·rename_i hlt
   refine qyp (rp:=r) (q:=y::q) ?_ (fun z hz=>?_) hx.2
   ·rw [List.reverse_cons,List.append_assoc] at h; exact h
   ·rcases List.mem_cons.1 hz with rfl | hz
    ·exact hlt
    ·exact hq z hz
  ·rename_i hlt
   have hyx:lbB y x=true:=by
    rcases qKN x y with h1 | h1 | h1
    ·exact (hlt h1.1).elim
    ·exact (hx.1 h1).elim
    ·exact h1.1
   obtain ⟨h1,h2,h3⟩:=List.pairwise_append.1 h
   refine List.pairwise_append.2 ⟨h1,List.pairwise_cons.2 ⟨hq,h2⟩,fun a ha b hb=>?_⟩
   have hay:lbB a x=true:=by
    rw [List.reverse_cons,List.mem_append,List.mem_singleton] at ha
    rcases ha with ha | rfl
    ·rw [List.reverse_cons] at h1
     exact qgk ((List.pairwise_append.1 h1).2.2 a ha y (List.mem_singleton.2 rfl)) hyx
    ·exact hyx
   rcases List.mem_cons.1 hb with rfl | hb
   ·exact hay
   ·exact h3 a ha b hb
theorem qD9:∀ {l p:List (Vector UInt8 16)},qk4 p→(p++l).Nodup→qk4 (l.foldl (fun p x=>KL p.reverse x []) p)∧(l.foldl (fun p x=>KL p.reverse x []) p).Perm (p++l)
 | [],p,h,_=>⟨h,by rw [List.append_nil]; exact List.Perm.refl _⟩
 | x::l,p,h,hn=>by
  have hp:(KL p.reverse x []).Perm (x::p):=qvG.trans (List.Perm.cons _ (by rw [List.append_nil]; exact List.reverse_perm _))
  have hx:x∉p:=fun hx=>by
   have:=(List.nodup_append.1 hn).2.2 x hx x (List.mem_cons_self ..)
   exact this rfl
  have hs:qk4 (KL p.reverse x []):=qyp (by rw [List.reverse_reverse,List.append_nil]; exact h) (fun y hy=>absurd hy (List.not_mem_nil)) (by rw [List.mem_reverse]; exact hx)
  have hpl:(KL p.reverse x []++l).Perm (p++x::l):=(hp.append_right l).trans List.perm_middle.symm
  obtain ⟨h1,h2⟩:=qD9 (l:=l) hs (hpl.nodup_iff.2 hn)
  exact ⟨h1,h2.trans hpl⟩
theorem qRv {l:List (Vector UInt8 16)} (h:l.Nodup):qk4 (Q4 l)∧(Q4 l).Perm l:=by
 have:=qD9 (l:=l) (p:=[]) List.Pairwise.nil (by simpa using h)
 rw [List.nil_append] at this
 exact this
section
variable {N:Nat} [QJ N]
theorem qRY (a b:Vector UInt8 16):∃ n:Int,qlz a b=some n∧decide (n < 0)=lbB a b:=by
 refine ⟨compareBytes a.toList b.toList,rfl,?_⟩
 rw [qxe]; rfl
theorem qKT {s2 s8 : Int} : ∀ (rp : List (Vector UInt8 16)) (x : Vector UInt8 16) (q : List (Vector UInt8 16)) (n m : Nat), (rp.reverse ++ x :: q).length = n → n ≤ 1000 → rp.length < m →
    ∃ j b,qQ (jI N n 0 s2 s8) some m (rp.reverse++x::q,(rp.length:Int))=some (KL rp x q,j,b)
 | _,_,_,_,0,_,_,hm=>by omega
 | [],x,q,n,m + 1,hn,hs,hm=>by
  refine ⟨((0:Nat):Int),false,?_⟩
  rw [zh (x:=(([]:List (Vector UInt8 16)).reverse++x::q,((0:Nat):Int),false)) (by unfold jI; exact w_f rfl (qp rfl)) m]
  rfl
 | y::r,x,q,n,m + 1,hn,hs,hm=>by
  have hl:(y::r).reverse.length=r.length + 1:=by simp
  have e0:(y::r).reverse++x::q=r.reverse++y::(x::q):=by rw [List.reverse_cons,List.append_assoc]; rfl
  have hrl:r.reverse.length=r.length:=List.length_reverse
  have hnl:r.length + 1 < n:=by rw [← hn,List.length_append,hl,List.length_cons]; omega
  obtain ⟨c,hc,hlt⟩:=qRY x y
  have c0:(0:Int)≤((r.length + 1:Nat):Int)∧((r.length + 1:Nat):Int) < ((n:Nat):Int):=by omega
  have c1:qj (((r.length + 1:Nat):Int) - 1):=by unfold qj; omega
  have c2:(0:Int)≤((r.length + 1:Nat):Int) - 1∧((r.length + 1:Nat):Int) - 1 < ((n:Nat):Int):=by omega
  have g1:jM ((y::r).reverse++x::q) n (((r.length + 1:Nat):Int)).toNat=some x:=by
   have:=qGS (p:=(y::r).reverse) (x:=x) (q:=q) hn
   rw [hl] at this; exact this
  have t1:(((r.length + 1:Nat):Int) - 1).toNat=r.length:=by omega
  have g2:jM ((y::r).reverse++x::q) n (((r.length + 1:Nat):Int) - 1).toNat=some y:=by
   rw [t1,e0]
   have:=qGS (p:=r.reverse) (x:=y) (q:=x::q) (n:=n) (by rw [← e0]; exact hn)
   rw [hrl] at this; exact this
  cases hb:lbB x y with
  | false=>
   refine ⟨((r.length + 1:Nat):Int),decide (c < 0),?_⟩
   rw [zh (x:=((y::r).reverse++x::q,((r.length + 1:Nat):Int),decide (c < 0))) (by
    unfold jI
    exact w_t (decide_eq_true (by show (0:Int) < ((r.length + 1:Nat):Int); omega)) (qF c0 (ql g1 (qF c1 (qF c2 (ql g2 (ql hc (w_f (hlt.trans hb) (qp rfl)))))))) ) m]
   unfold KL
   rw [if_neg (by rw [hb]; simp)]
  | true=>
   obtain ⟨j,b,h⟩:=qKT r x (y::q) n m (by rw [← hn,e0]; simp) hs (by simp at hm; omega)
   refine ⟨j,b,?_⟩
   have s1:((y::r).reverse++x::q).set (((r.length + 1:Nat):Int)).toNat y=(y::r).reverse++y::q:=by
    have:=qDB (p:=(y::r).reverse) (x:=x) (y:=y) (q:=q)
    rw [hl] at this; exact this
   have s2:((y::r).reverse++y::q).set (((r.length + 1:Nat):Int) - 1).toNat x=r.reverse++x::(y::q):=by
    rw [t1,show (y::r).reverse++y::q=r.reverse++y::(y::q) by rw [List.reverse_cons,List.append_assoc]; rfl]
    have:=qDB (p:=r.reverse) (x:=y) (y:=x) (q:=y::q)
    rw [hrl] at this; exact this
   have v1:qiI ((y::r).reverse++x::q).length n (((r.length + 1:Nat):Int)).toNat:=⟨hn,by omega⟩
   have v2:qiI (((y::r).reverse++x::q).set (((r.length + 1:Nat):Int)).toNat y).length n (((r.length + 1:Nat):Int) - 1).toNat:=⟨by rw [List.length_set]; exact hn,by omega⟩
   rw [vM (v':=(r.reverse++x::(y::q),(r.length:Int))) (by
    unfold jI
    refine w_t (decide_eq_true (by show (0:Int) < ((r.length + 1:Nat):Int); omega)) (qF c0 (ql g1 (qF c1 (qF c2 (ql g2 (ql hc (w_t (hlt.trans hb) (qF c1 (qF c1 (qF c2 (ql g2 (qF c0 (ql g1 (qF c0 (qF v1 (qF c2 (qF v2 (qF c1 (qp ?_)))))))))))))))))))
    show some (Sum.inl ((((y::r).reverse++x::q).set (((r.length + 1:Nat):Int)).toNat y).set (((r.length + 1:Nat):Int) - 1).toNat x,((r.length + 1:Nat):Int) - 1))=_
    rw [s1,s2,show ((r.length + 1:Nat):Int) - 1=(r.length:Int) by omega]) m]
   unfold KL
   rw [if_pos hb]
   exact h
theorem qLL {l:List (Vector UInt8 16)} (hs:l.length≤1000) (h0:l≠[]):jd N l 0 (l.length:Int)=some (Q4 l):=by
 have hN:=big N
 have hpos:0 < l.length:=List.length_pos_iff.2 h0
 have key:vJ N l.length 0 (l.length:Int) l 1=some (Q4 l,(l.length:Int),false):=by
  have h:=qly (B:=zM N l.length 0 (l.length:Int)) (g:=some) (I:=fun v=>∃ k:Nat,1≤k∧k≤l.length∧v=(Q4 (l.take k)++l.drop k,(k:Int))) (Q:=fun y=>y=(Q4 l,(l.length:Int),false)) (fun v=>l.length - v.2.toNat) ?_ N (l,((1:Nat):Int))
   ⟨1,Nat.le_refl _,hpos,by
    cases l with
    | nil=>exact (h0 rfl).elim
    | cons x r=>rfl⟩ (by simp; omega)
  ·obtain ⟨y,e,rfl⟩:=h
   exact e
  rintro v ⟨k,h1,hk,rfl⟩
  have hlen:∀ j,j≤l.length→(Q4 (l.take j)).length=j:=by
   intro j hj
   have:∀ (m p:List (Vector UInt8 16)),(m.foldl (fun p x=>KL p.reverse x []) p).length=p.length + m.length:=by
    intro m
    induction m with
    | nil=>intro p; rfl
    | cons x m ih=>
     intro p
     rw [List.foldl_cons,ih,qvG.length_eq]
     simp; omega
   unfold Q4
   rw [this]; simp; omega
  by_cases h:k < l.length
  ·left
   have ed:l.drop k=l.getD k (Vector.replicate 16 0)::l.drop (k + 1):=by
    rw [List.drop_eq_getElem_cons h,List.getD_eq_getElem?_getD,List.getElem?_eq_getElem h]; rfl
   have et:Q4 (l.take (k + 1))=KL (Q4 (l.take k)).reverse (l.getD k (Vector.replicate 16 0)) []:=by
    unfold Q4
    rw [List.take_succ_eq_append_getElem h,List.foldl_append,List.getD_eq_getElem?_getD,List.getElem?_eq_getElem h]; rfl
   have hll:(Q4 (l.take k)).reverse.length=k:=by rw [List.length_reverse,hlen k hk]
   obtain ⟨j,b,e⟩:=qKT (N:=N) (s2:=(l.length:Int)) (s8:=(k:Int)) (Q4 (l.take k)).reverse (l.getD k (Vector.replicate 16 0)) (l.drop (k + 1)) l.length N (by
    rw [List.reverse_reverse,← ed,List.length_append,hlen k hk,List.length_drop]; omega) hs (by omega)
   rw [List.reverse_reverse,← ed,hll] at e
   have er:KL (Q4 (l.take k)).reverse (l.getD k (Vector.replicate 16 0)) (l.drop (k + 1))=Q4 (l.take (k + 1))++l.drop (k + 1):=by
    rw [et,← qD6]; rfl
   rw [er] at e
   refine ⟨(Q4 (l.take (k + 1))++l.drop (k + 1),((k + 1:Nat):Int)),?_,⟨k + 1,by omega,h,rfl⟩,by simp only [Int.toNat_natCast]; omega⟩
   unfold zM
   exact w_t (dec_lt h) (ql e (qF (zT (by omega)) (qp (by rw [qZ]))))
  ·right
   obtain rfl:k=l.length:=by omega
   refine ⟨(Q4 l,(l.length:Int),false),_,?_,rfl,rfl⟩
   unfold zM
   refine w_f (zo (Nat.lt_irrefl _)) (qp ?_)
   dsimp only
   rw [zo (Nat.lt_irrefl _),List.take_of_length_le (Nat.le_refl _),List.drop_of_length_le (Nat.le_refl _),List.append_nil]
 unfold jd vX
 exact qF (by unfold qj; omega) (ql key (qp rfl))
theorem qJu:jd N [] 0 ((([]:List (Vector UInt8 16)).length:Nat):Int)=some []:=by
 have key:vJ N 0 0 ((0:Nat):Int) [] 1=some ([],1,false):=by
  obtain ⟨M,hM⟩:∃ M,N=M + 1:=⟨N - 1,by have:=big N; omega⟩
  show qQ (zM N 0 0 ((0:Nat):Int)) some N ([],1)=_
  have:∀ K,K=M + 1→qQ (zM N 0 0 ((0:Nat):Int)) some K ([],1)=some ([],1,false):=by
   rintro K rfl
   rw [zh (x:=([],1,false)) (by unfold zM; exact w_f rfl (qp rfl))]
  exact this N hM
 unfold jd vX
 exact qF (by unfold qj; omega) (ql key (qp rfl))
theorem qUE {l:List (Vector UInt8 16)} (h:l.length≤12):Yz N l=some (Q4 l):=by
 have e1:jd N l 0 ((l.length:Nat):Int)=some (Q4 l):=by
  cases l with
  | nil=>exact qJu
  | cons x r=>exact qLL (by omega) (by simp)
 have e2:∀ z:Int,JY N l 0 ((l.length:Nat):Int) z=some (Q4 l):=fun z=>by
  have key:Xo N l 0 ((l.length:Nat):Int) z=some (Q4 l):=by
   obtain ⟨M,hM⟩:∃ M,N=M + 1:=⟨N - 1,by have:=big N; omega⟩
   show qQ (QW N l 0 ((l.length:Nat):Int) z) some N ()=_
   have:∀ K,K=M + 1→qQ (QW N l 0 ((l.length:Nat):Int) z) some K ()=some (Q4 l):=by
    rintro K rfl
    rw [zh (x:=Q4 l) (by unfold QW; exact qF (by unfold qj; omega) (w_t (decide_eq_true (by omega)) (ql ((zU rfl).trans e1) (qp rfl))))]
   exact this N hM
  unfold JY XZ
  exact ql ((zU rfl).trans key) (qp rfl)
 have e3:∃ z,qfv (IntKind.u64.wrap ((l.length:Nat):Int))=some z:=by
  rw [qR3 (by omega)]
  have:∀ k,k≤12→(qfv ((k:Nat):Int)).isSome=true:=by decide +kernel
  exact Option.isSome_iff_exists.1 (this _ h)
 obtain ⟨z,e3⟩:=e3
 unfold Yz qaA
 exact ql e3 (ql ((zU rfl).trans (e2 z)) (qp rfl))
end
end Go.Rx
end
set_option maxRecDepth 100000
noncomputable section
namespace Go.Rx
open Go.Proofs
open Go.Lib (compareBytes)
section
variable {N:Nat} [QJ N]
theorem qCr (a b:Vector UInt8 32):qlS a b=some (ltD a b):=by
 unfold qlS qrt ltD
 rw [qG,eqD]
 by_cases h:a=b
 ·subst h; rw [decide_eq_true rfl,qdJ]; rfl
 ·rw [decide_eq_false h]; rfl
end
end Go.Rx
end
set_option maxRecDepth 100000
noncomputable section
namespace Go.Rx
open Go.Proofs
open Go.Lib (compareBytes)
section
variable {N:Nat} [QJ N]
theorem qTd {x y : Bool} {p : Prop} (h : (x = true ∧ y = false) ∨ p ∨ (y = true ∧ x = false)) (hp : p → x = false ∧ y = false) :
    ∃ n:Int,(Tree.cond x (.ret (-1:Int)) (.cond y (.ret 1) (.ret 0))).run some=some n∧(decide (n=0)=true↔p)∧(¬ p→decide (n < 0)=x):=by
 rcases h with ⟨h1,h2⟩ | h1 | ⟨h1,h2⟩
 ·subst h1; subst h2
  exact ⟨-1,rfl,⟨fun h=>by simp at h,fun h=>by have:=(hp h).1; simp at this⟩,fun _=>rfl⟩
 ·obtain ⟨h2,h3⟩:=hp h1
  subst h2; subst h3
  exact ⟨0,rfl,⟨fun _=>h1,fun _=>rfl⟩,fun h=>(h h1).elim⟩
 ·subst h1; subst h2
  exact ⟨1,rfl,⟨fun h=>by simp at h,fun h=>by have:=(hp h).2; simp at this⟩,fun _=>rfl⟩
theorem qOY (a b:qe):∃ n:Int,qax N a b=some n∧(decide (n=0)=true↔a=b)∧(a≠b→decide (n < 0)=slB a b):=by
 obtain ⟨n,h1,h2,h3⟩:=qTd (qxw a b) fun h=>by subst h; exact ⟨qa6 a,qa6 a⟩
 refine ⟨n,?_,h2,h3⟩
 unfold qax qcM
 rw [run_bind,qje,Option.bind_some,← h1,qG,qG,run_bind,qje,Option.bind_some]
theorem qNz (a b:Vector UInt8 32):∃ n:Int,Y9 a b=some n∧(decide (n=0)=true↔a=b)∧(a≠b→decide (n < 0)=ltD a b):=by
 have ht:(ltD a b=true∧ltD b a=false)∨a=b∨(ltD b a=true∧ltD a b=false):=by
  rcases qxb a.toList b.toList with h | h | h
  ·exact .inl h
  ·exact .inr (.inl (Vector.toList_inj.1 h))
  ·exact .inr (.inr h)
 obtain ⟨n,h1,h2,h3⟩:=qTd ht fun h=>by subst h; exact ⟨qdJ _,qdJ _⟩
 refine ⟨n,?_,h2,h3⟩
 unfold Y9 qbd
 rw [run_bind,qCr,Option.bind_some,← h1,qG,qG,run_bind,qCr,Option.bind_some]
theorem qT6 (a b:List UInt8):∃ n:Int,Yc a b=some n∧(decide (n=0)=true↔a=b)∧(a≠b→decide (n < 0)=ltB a b):=by
 have e:∀ x:List UInt8,qam x=some ():=fun x=>rfl
 have g:(!(Op.bytesLess a b||decide (a=b)))=ltB b a:=by
  rw [qCl]
  rcases qxb a b with h | h | h
  ·rw [h.1,h.2]; rfl
  ·subst h; rw [decide_eq_true rfl,qdJ]; rfl
  ·have:a≠b:=fun e=>by subst e; rw [qdJ] at h; simp at h
   rw [h.1,h.2,decide_eq_false this]; rfl
 obtain ⟨n,h1,h2,h3⟩:=qTd (qxb a b) fun h=>by subst h; exact ⟨qdJ _,qdJ _⟩
 refine ⟨n,?_,h2,h3⟩
 unfold Yc qai
 refine ql (e a) (ql (e b) (w_f (by rw [decide_eq_true rfl]; rfl) (w_f (by rw [decide_eq_true rfl]; rfl) ?_)))
 rw [← h1,qG,qG,qG,qG,qCl a b,← g,qCl a b]
theorem qS3 {a b:qf} (ha:a.V.length≤50000) (hb:b.V.length≤50000):qmS N a b=some (qb1 a b):=by
 obtain ⟨n1,e1,z1,l1⟩:=qOY (N:=N) a.S b.S
 obtain ⟨n2,e2,z2,l2⟩:=qNz (VK a.V) (VK b.V)
 obtain ⟨n3,e3,z3,l3⟩:=qT6 a.V b.V
 have f1:qiP N a b=some n1:=by unfold qiP qj_; exact ql e1 (qp rfl)
 have f2:qiR N a b=some n2:=by unfold qiR qj0; exact ql (qzM ha) (ql (qzM hb) (ql e2 (qp rfl)))
 have f3:qiL a b=some n3:=by unfold qiL qj3; exact ql e3 (qp rfl)
 have key:∃ M,N=M + 1:=⟨N - 1,by have:=big N; omega⟩
 obtain ⟨M,hM⟩:=key
 have z:∀ {n:Int} {p:Prop},(decide (n=0)=true↔p)→p→(!decide (n=0))=false:=fun h hp=>by rw [h.2 hp]; rfl
 have nz:∀ {n:Int} {p:Prop},(decide (n=0)=true↔p)→¬ p→(!decide (n=0))=true:=fun {n} {p} h hp=>by
  cases e:decide (n=0) with
  | false=>rfl
  | true=>exact (hp (h.1 e)).elim
 have hl:qgV N a b=some (if a.S=b.S∧VK a.V=VK b.V∧a.V=b.V then .inr () else .inl (qb1 a b)):=by
  have s1:qgV N a b=qQ (qdm N a b) (qio N N (a,b)) (M + 1) ():=by rw [← hM]; rfl
  rw [s1]
  by_cases h1:a.S=b.S
  ·rw [zh (x:=.inl ()) (by unfold qdm; exact qF (by omega) (ql f1 (w_f (z z1 h1) (qp rfl))))]
   show qQ (Va N a b) (X9 N N (a,b)) N ()=_
   rw [show qQ (Va N a b) (X9 N N (a,b)) N ()=qQ (Va N a b) (X9 N N (a,b)) (M + 1) () by rw [← hM]]
   by_cases h2:VK a.V=VK b.V
   ·rw [zh (x:=.inl ()) (by unfold Va; exact qF (by omega) (ql f2 (w_f (z z2 h2) (qp rfl))))]
    show qQ (Vf N a b) (X7 N N (a,b)) N ()=_
    rw [show qQ (Vf N a b) (X7 N N (a,b)) N ()=qQ (Vf N a b) (X7 N N (a,b)) (M + 1) () by rw [← hM]]
    by_cases h3:a.V=b.V
    ·rw [zh (x:=.inl ()) (by unfold Vf; exact qF (by omega) (ql f3 (w_f (z z3 h3) (qp rfl))))]
     show qQ (X5 N a b) some N ()=_
     rw [show qQ (X5 N a b) some N ()=qQ (X5 N a b) some (M + 1) () by rw [← hM]]
     rw [zh (x:=.inr ()) (by unfold X5; exact qp rfl),if_pos ⟨h1,h2,h3⟩]
    ·rw [zh (x:=.inr (.inl (decide (n3 < 0)))) (by unfold Vf; exact qF (by omega) (ql f3 (w_t (nz z3 h3) (qp rfl)))),if_neg (fun h=>h3 h.2.2)]
     show some (Sum.inl (decide (n3 < 0)))=_
     rw [l3 h3]
     unfold qb1
     rw [if_pos h1,if_pos h2]
   ·rw [zh (x:=.inr (.inl (decide (n2 < 0)))) (by unfold Va; exact qF (by omega) (ql f2 (w_t (nz z2 h2) (qp rfl)))),if_neg (fun h=>h2 h.2.1)]
    show some (Sum.inl (decide (n2 < 0)))=_
    rw [l2 h2]
    unfold qb1
    rw [if_pos h1,if_neg h2]
  ·rw [zh (x:=.inr (.inl (decide (n1 < 0)))) (by unfold qdm; exact qF (by omega) (ql f1 (w_t (nz z1 h1) (qp rfl)))),if_neg (fun h=>h1 h.1)]
   show some (Sum.inl (decide (n1 < 0)))=_
   rw [l1 h1]
   unfold qb1
   rw [if_neg h1]
 unfold qmS qnJ
 refine ql hl ?_
 by_cases h:a.S=b.S∧VK a.V=VK b.V∧a.V=b.V
 ·rw [if_pos h]
  show some false=_
  unfold qb1
  rw [if_pos h.1,if_pos h.2.1,h.2.2,qdJ]
 ·rw [if_neg h]; rfl
theorem qVQ {a b:qf} (ha:a.V.length≤50000) (hb:b.V.length≤50000):qm_ N a b=some (cJ a b):=by
 unfold qm_ qpf cJ
 refine ql (qS3 ha hb) ?_
 cases qb1 a b<;>rfl
theorem qVb (a b:qe):qng N a b=some (mxS a b):=by
 unfold qng qoq mxS
 refine ql (qje _ _) ?_
 cases slB a b<;>rfl
end
end Go.Rx
end
set_option maxRecDepth 100000
noncomputable section
namespace Go.Rx
open Go.Proofs
section
variable {N:Nat} [QJ N]
theorem qUi {l : List qg} (h8 : l.length ≤ 600) (hV : ∀ k, k < l.length → (l.getD k zF).C.V.length ≤ 200) {c : Nat} {M : List (Int × qf × Nat)} {g : Int → Option qf} (hM : ∀ no, qcO no M = g no) (hg : qkY g) :
    ∃ c' M',qbJ N l ((l.length:Nat):Int) c M 0=some (c',M',((l.length:Nat):Int),false)∧(∀ no,qcO no M'=l.foldl Yv g no)∧qkY (l.foldl Yv g):=by
 have key:∃ y,qQ (JE N l ((l.length:Nat):Int)) some N (c,M,((0:Nat):Int))=some y∧∃ c' M',y=(c',M',((l.length:Nat):Int),false)∧(∀ no,qcO no M'=l.foldl Yv g no)∧qkY (l.foldl Yv g):=by
  refine qly (I:=fun v=>∃ (k c':Nat) (M':List (Int×qf×Nat)),k≤l.length∧v=(c',M',(k:Int))∧(∀ no,qcO no M'=(l.take k).foldl Yv g no)∧qkY ((l.take k).foldl Yv g)) (fun v=>l.length - v.2.2.toNat) ?_ N _ ⟨0,c,M,Nat.zero_le _,rfl,hM,hg⟩ (by have:=big N; simp; omega)
  rintro v ⟨k,c',M',hk,rfl,hi,hs⟩
  by_cases h:k < l.length
  ·left
   have et:(l.take (k + 1)).foldl Yv g=Yv ((l.take k).foldl Yv g) (l.getD k zF):=by
    rw [List.take_succ_eq_append_getElem h,List.foldl_append,List.getD_eq_getElem?_getD,List.getElem?_eq_getElem h]; rfl
   have hs':qkY ((l.take (k + 1)).foldl Yv g):=by rw [et]; exact qMX hs (hV k h)
   have hno:=hi (l.getD k zF).No
   unfold qcO at hno
   cases e:fnd (β:=qf) (.i .i64) (l.getD k zF).No M' with
   | none=>
    rw [e] at hno
    refine ⟨((JV (.i .i64) (qg.No (l.getD k zF)) (qg.C (l.getD k zF)) c' M').1,(JV (.i .i64) (qg.No (l.getD k zF)) (qg.C (l.getD k zF)) c' M').2,((k + 1:Nat):Int)),?_,⟨k + 1,_,_,h,rfl,?_,hs'⟩,by simp only [Int.toNat_natCast]; omega⟩
    ·unfold JE
     exact w_t (dec_lt h) (ql (zB (d:=zF) h) (qHc e (qF (zT (by omega)) (qp (by rw [qZ])))))
    ·intro no
     rw [qGg,et,qHe]
     by_cases hq:no=(l.getD k zF).No
     ·rw [if_pos hq,if_pos hq.symm,hq,← hno]; rfl
     ·rw [if_neg hq,if_neg (fun e=>hq e.symm),hi no]
   | some x=>
    rw [e] at hno
    have hx:x.1.V.length≤200:=hs _ _ hno.symm
    refine ⟨((JV (.i .i64) (qg.No (l.getD k zF)) (cJ x.1 (qg.C (l.getD k zF))) c' M').1,(JV (.i .i64) (qg.No (l.getD k zF)) (cJ x.1 (qg.C (l.getD k zF))) c' M').2,((k + 1:Nat):Int)),?_,⟨k + 1,_,_,h,rfl,?_,hs'⟩,by simp only [Int.toNat_natCast]; omega⟩
    ·unfold JE
     exact w_t (dec_lt h) (ql (zB (d:=zF) h) (qAU e (ql (qVQ (by omega) (by have:(l.getD k zF).C.V.length≤200:=hV k h; omega)) (qF (zT (by omega)) (qp (by rw [qZ]))))))
    ·intro no
     rw [qGg,et,qHe]
     by_cases hq:no=(l.getD k zF).No
     ·rw [if_pos hq,if_pos hq.symm,hq,← hno]; rfl
     ·rw [if_neg hq,if_neg (fun e=>hq e.symm),hi no]
  ·right
   obtain rfl:k=l.length:=by omega
   refine ⟨(c',M',((l.length:Nat):Int),false),_,?_,rfl,c',M',rfl,?_⟩
   ·unfold JE
    exact w_f (zo (Nat.lt_irrefl _)) (qp (by rw [zo (Nat.lt_irrefl _)]))
   ·rw [List.take_of_length_le (Nat.le_refl _)] at hi hs
    exact ⟨hi,hs⟩
 obtain ⟨y,e,c',M',rfl,h⟩:=key
 exact ⟨c',M',e,h⟩
theorem qKK {r : qa} (hr : jT r = true) {c : Nat} {M : List (Int × qf × Nat)} {g : Int → Option qf} (hM : ∀ no, qcO no M = g no) (hg : qkY g) :
    ∃ c' M',WC N c M r=some (c',M')∧(∀ no,qcO no M'=jC (g no) (cO r.F no))∧qkY (r.F.foldl Yv g):=by
 have h8:=qa_ hr
 obtain ⟨c',M',e,h,hs⟩:=qUi (N:=N) (l:=r.F) (by omega) (fun k hk=>qza (YA.1 ((qae.1 hr).2.2 k hk)).2.2.1) (c:=c) hM hg
 refine ⟨c',M',?_,fun no=>?_,hs⟩
 ·unfold WC qcv
  exact ql e (qp rfl)
 ·rw [h,qCZ (qGU hr)]
theorem qO0 {o : List qg} {c : Nat} {M : List (Int × qf × Nat)} {o5 : Vector UInt8 16} {o6 : qe} {o7 : Vector UInt8 16} {o8 dead : qe} :
    XU N o [] c M o5 o6 o7 o8 dead=some (Ve (fun no=>qcO no M) dead 8 0):=by
 have key:WM N o c M o5 o6 o7 o8 dead [] 0=some (zZ (fun k s=>s++qbZ dead k (qcO (k:Int) M)) 8 0 [],(8:Int),false):=by
  refine jW (σ:=List qg) (B:=Jd N o c M o5 o6 o7 o8 dead) (g:=some) (at_:=fun k s=>(s,(k:Int))) (I:=fun k s=>s.length≤k) (f:=fun k s=>s++qbZ dead k (qcO (k:Int) M)) (n:=8)
   (fin:=fun s=>(s,(8:Int),false)) (fun k s hk hs=>⟨?_,?_⟩) (fun s _=>?_) N 0 [] (Nat.le_refl _) (Nat.zero_le _) (by have:=big N; omega)
  ·have d8:decide ((k:Int) < 8)=true:=decide_eq_true (by omega)
   unfold Jd
   refine w_t d8 ?_
   unfold qcO
   cases e:fnd (β:=qf) (.i .i64) (k:Int) M with
   | none=>exact qHc rfl (qF (zT (by omega)) (qp (by rw [qZ]; show _=some (Sum.inl (s++[],_)); rw [List.append_nil])))
   | some x=>
    refine qAU rfl (ql (qje _ _) ?_)
    have hk2:qbZ dead k (Option.map (fun x=>x.1) (some x))=if slB dead x.1.S=true then [qg.mk (k:Int) x.1] else []:=rfl
    rw [hk2]
    cases hb:slB dead (qf.S x.1) with
    | false=>
     rw [if_neg (by simp),List.append_nil]
     exact w_f rfl (qF (zT (by omega)) (qp (by rw [qZ])))
    | true=>
     rw [if_pos rfl]
     have er:K4 o s c M o5 o6 o7 o8 dead (qg.mk (k:Int) x.1)=some ():=by
      unfold K4 qcN
      exact qF ⟨rfl,by rw [List.length_append]; unfold zg; simp; omega⟩ (qp rfl)
     exact w_t rfl (ql ((zU rfl).trans ((zU rfl).trans er)) (qF (zT (by omega)) (qp (by rw [qZ]))))
  ·have:=qu_ (dead:=dead) (k:=k) (c:=qcO (k:Int) M)
   rw [List.length_append]; omega
  ·unfold Jd
   exact w_f rfl (qp rfl)
 unfold XU W5
 refine ql ((zU rfl).trans ((zU rfl).trans key)) (qp ?_)
 rw [qlr (g:=fun no=>qcO no M),List.nil_append]
theorem qVS {a b:qa} (ha:jT a=true) (hb:jT b=true) (hid:a.ID=b.ID):qrd N a b=some (rJ a b,true):=by
 have hN:=big N
 have h8a:=qa_ ha
 have h8b:=qa_ hb
 obtain ⟨c1,M1,e1,h1,s1⟩:=qKK (N:=N) ha (c:=0) (M:=[]) (g:=fun _=>none) (fun no=>rfl) (fun no c h=>by cases h)
 obtain ⟨c2,M2,e2,h2,_⟩:=qKK (N:=N) hb (c:=c1) (M:=M1) (g:=fun no=>cO a.F no) (fun no=>by rw [h1]; rfl) (by
  have:(a.F.foldl Yv fun _=>none)=fun no=>cO a.F no:=by funext no; rw [qCZ (qGU ha)]; rfl
  rw [← this]; exact s1)
 have ef:=qO0 (N:=N) (o:=[]) (c:=c2) (M:=M2) (o5:=Vector.replicate 16 0) (o6:=qe.mk 0 0) (o7:=a.ID) (o8:=mxS a.qW b.qW) (dead:=mxS a.qW b.qW)
 have eg:(fun no=>qcO no M2)=fun no=>jC (cO a.F no) (cO b.F no):=funext h2
 rw [eg] at ef
 unfold qrd qrg
 exact ql (qxu (by omega) (by omega)) (w_f (by rw [ha]; rfl) (ql (qxu (by omega) (by omega)) (w_f (by rw [hb]; rfl) (w_f (by rw [qhl]; show (!decide (a.ID=b.ID))=false; rw [decide_eq_true hid]; rfl)
  (ql e1 (ql e2 (ql (qVb _ _) (ql rfl (ql ((zU rfl).trans ((zU rfl).trans ef)) (qF rfl (qp rfl)))))))))))
end
end Go.Rx
end
set_option maxRecDepth 100000
noncomputable section
namespace Go.Rx
open Go.Proofs
section n
variable {N:Nat} [QJ N]
theorem qNC {l:List qa} {id:Vector UInt8 16} (h:l.length≤600):Wa N id l=some (qVL (qyV l id)):=by
 have key:=qfY (B:=QD N id l ((l.length:Nat):Int)) (g:=some) (p:=fun k=>decide ((l.getD k zR).ID=id)) (n:=l.length) (hit:=fun k=>.inl (k:Int)) (fin:=.inr (((l.length:Nat):Int),false)) (fun k hk=>by
  unfold QD qot qj5
  rw [qG,dec_lt hk,cond_true,run_bind,zB (d:=zR) hk,Option.bind_some,run_bind,qS,Option.bind_some,qG,qhl,qS,qM,qi (show qj ((k:Int) + 1) by unfold qj; omega),qS,qZ]
  cases decide ((l.getD k zR).ID=id)<;>rfl) (by
  unfold QD
  rw [qG,zo (Nat.lt_irrefl _),cond_false,qS]) N 0 (Nat.zero_le _) (by have:=big N; omega)
 have e:WZ N id l ((l.length:Nat):Int) 0=qQ (QD N id l ((l.length:Nat):Int)) some N ((0:Nat):Int):=rfl
 unfold Wa YH
 rw [run_bind,e,key,Nat.sub_zero]
 unfold qyV
 cases Jz (fun k=>decide ((l.getD k zR).ID=id)) l.length 0<;>rfl
theorem qPA {l:List qg} {no:Int} (h:l.length≤600):VZ N no l=some (qVL (qoo l no)):=by
 have key:=qfY (B:=vN N no l ((l.length:Nat):Int)) (g:=some) (p:=fun k=>decide ((l.getD k zF).No=no)) (n:=l.length) (hit:=fun k=>.inl (k:Int)) (fin:=.inr (((l.length:Nat):Int),false)) (fun k hk=>by
  unfold vN qri ql2
  rw [qG,dec_lt hk,cond_true,run_bind,zB (d:=zF) hk,Option.bind_some,run_bind,qS,Option.bind_some,qG,qS,qM,qi (show qj ((k:Int) + 1) by unfold qj; omega),qS,qZ]
  cases decide ((l.getD k zF).No=no)<;>rfl) (by
  unfold vN
  rw [qG,zo (Nat.lt_irrefl _),cond_false,qS]) N 0 (Nat.zero_le _) (by have:=big N; omega)
 have e:Wc N no l ((l.length:Nat):Int) 0=qQ (vN N no l ((l.length:Nat):Int)) some N ((0:Nat):Int):=rfl
 unfold VZ WD
 rw [run_bind,e,key,Nat.sub_zero]
 unfold qoo
 cases Jz (fun k=>decide ((l.getD k zF).No=no)) l.length 0<;>rfl
theorem qEw {l:List qg} (h:l.length≤1000000):Zx l=some ():=by
 unfold Zx
 cases l with
 | nil=>kernel_rfl
 | cons x r=>
  show qcL (x::r)=_
  unfold qcL qao
  have h2:jx ([]:List qg).length 0 ([]++x::r).length 40:=⟨rfl,by rw [List.nil_append]; unfold zg; omega⟩
  rw [qM,qi (List.isEmpty_cons),qM,qi h2,qM,qi rfl,qS]
theorem qQ_ {b:qc} (h:zG b=true) (id:Vector UInt8 16):qnn N b id=some (recAt b id):=by
 have hb:=qi1.1 h
 unfold qnn qoA recAt
 rw [run_bind,qNC (by omega),Option.bind_some]
 cases e:qyV b.R id with
 | none=>rfl
 | some i=>
  have hi:=(qwc e).1
  have hn:decide (((i:Nat):Int) < 0)=false:=decide_eq_false (by omega)
  have hF:=qa_ (hb.1 i hi).1
  have ho:qfI (b.R.getD i zR)=some ():=by
   unfold qfI qk0
   rw [run_bind,qEw (by omega),Option.bind_some,qS]
  show (Tree.cond (decide (((i:Nat):Int) < 0)) _ (Tree.bind (qP (qc.R b) ((i:Nat):Int)) _)).run some=_
  rw [qG,hn,cond_false,run_bind,zB (d:=zR) hi,Option.bind_some,run_bind,ho,Option.bind_some,qS]
  rfl
theorem qRf {r:qa} (h:r.F.length≤8) (no:Int):qr_ N r no=some (cellAt r no):=by
 unfold qr_ qq2 cellAt
 rw [run_bind,qPA (by omega),Option.bind_some]
 cases e:qoo r.F no with
 | none=>rfl
 | some i=>
  have hi:=(qwc e).1
  have hn:decide (((i:Nat):Int) < 0)=false:=decide_eq_false (by omega)
  show (Tree.cond (decide (((i:Nat):Int) < 0)) _ (Tree.bind (qP (qa.F r) ((i:Nat):Int)) _)).run some=_
  rw [qG,hn,cond_false,run_bind,zB (d:=zF) hi,Option.bind_some,qS]
end n
end Go.Rx
end
set_option maxRecDepth 100000
noncomputable section
namespace Go.Rx
open Go.Proofs
def qgK (g:Vector UInt8 16→Option qa) (r:qa) (id:Vector UInt8 16):Option qa:=if r.ID=id then jR (g id) (some r) else g id
theorem qis {g:Vector UInt8 16→Option qa} {r:qa} {id:Vector UInt8 16}:qgK g r id=if r.ID=id then jR (g id) (some r) else g id:=rfl
theorem qCN {x:Option qa}:jR x none=x:=by cases x<;>rfl
theorem qpS:∀ {l:List qa} {g:Vector UInt8 16→Option qa} {id:Vector UInt8 16},Yb l→l.foldl qgK g id=jR (g id) (rO l id)
 | [],g,id,_=>by rw [qA4,qCN]; rfl
 | r::l,g,id,h=>by
  have hp:=List.pairwise_cons.1 h
  rw [List.foldl_cons,qpS hp.2,VD,qis]
  by_cases e:r.ID=id
  ·rw [if_pos e,if_pos e]
   have:rO l id=none:=by
    cases hc:rO l id with
    | none=>rfl
    | some x=>
     have:=hp.1 x (Wq hc).1
     rw [e,(Wq hc).2,YP] at this; cases this
   rw [this,qCN]
  ·rw [if_neg e,if_neg e]
def X_ (id:Vector UInt8 16) (M:List (Vector UInt8 16×qa×Nat)):Option qa:=(fnd (β:=qa) (.ba 16) id M).map (·.1)
theorem qHI {q k:Vector UInt8 16} {p:qa} {c:Nat} {M:List (Vector UInt8 16×qa×Nat)}:X_ q (JV (β:=qa) (.ba 16) k p c M).2=if q=k then some p else X_ q M:=by
 have:=@qzU (El (.ba 16)) qa (Wj (.ba 16)) k q p c M
 rw [show X_ q (JV (β:=qa) (.ba 16) k p c M).2=@qz6 (El (.ba 16)) qa (Wj (.ba 16)) q (@ql4 (El (.ba 16)) qa (Wj (.ba 16)) k p c M).2 from rfl,this]
 by_cases h:q=k
 ·rw [if_pos h]; exact if_pos h
 ·rw [if_neg h]; exact if_neg h
structure qQU (l:List qa) (nm:List (Vector UInt8 16)) (M:List (Vector UInt8 16×qa×Nat)):Prop where
 nd:nm.Nodup
 val:∀ id,X_ id M=l.foldl qgK (fun _=>none) id
 mem:∀ id,id∈nm↔X_ id M≠none
 ok:∀ id r,X_ id M=some r→jT r=true∧r.ID=id
 len:nm.length≤l.length
def qee (M:List (Vector UInt8 16×qa×Nat)) (l:List (Vector UInt8 16)):List qa:=l.map fun id=>(X_ id M).getD zR
theorem qPX {M:List (Vector UInt8 16×qa×Nat)} {id:Vector UInt8 16}:∀ {l:List (Vector UInt8 16)},(∀ i∈l,∃ r,X_ i M=some r∧r.ID=i)→rO (qee M l) id=if id∈l then X_ id M else none
 | [],_=>by rw [if_neg List.not_mem_nil]; rfl
 | i::l,h=>by
  obtain ⟨r,e,hr⟩:=h i (List.mem_cons_self ..)
  show rO ((X_ i M).getD zR::qee M l) id=_
  rw [e,VD,qPX fun j hj=>h j (List.mem_cons_of_mem _ hj)]
  by_cases c:i=id
  ·subst c
   rw [if_pos (show (Option.getD (some r) zR).ID=i from hr),if_pos (List.mem_cons_self ..),e]; rfl
  ·rw [if_neg (show ¬ (Option.getD (some r) zR).ID=id from fun h'=>c (hr.symm.trans h'))]
   by_cases m:id∈l
   ·rw [if_pos m,if_pos (List.mem_cons_of_mem _ m)]
   ·rw [if_neg m,if_neg (fun hm=>by rcases List.mem_cons.1 hm with e' | e'; exact c e'.symm; exact m e')]
section
variable {N:Nat} [QJ N]
theorem qED {α:Type} {l:List (List α)} {k:Nat} (h:k < l.length):(l.take (k + 1)).flatten=(l.take k).flatten++l.getD k []:=by
 rw [qry (d:=[]) h,List.flatten_append]; simp
theorem qKQ {α:Type} {l:List (List α)} {k:Nat}:(l.take k).flatten.length≤l.flatten.length:=by
 have:(l.take k).flatten++(l.drop k).flatten=l.flatten:=by rw [← List.flatten_append,List.take_append_drop]
 rw [← this,List.length_append]; omega
theorem qLR {l:List (List qa)} (hl:l.length≤1000) (hf:l.flatten.length≤1000):Y_ N l=some l.flatten:=by
 have hN:=big N
 have k1:KS N l l ((l.length:Nat):Int) 0 0=some (((l.flatten.length:Nat):Int),((l.length:Nat):Int),false):=by
  refine jW (σ:=Unit) (B:=Xj N l l ((l.length:Nat):Int)) (g:=some) (at_:=fun k _=>((((l.take k).flatten.length:Nat):Int),(k:Int))) (I:=fun _ _=>True) (f:=fun _ s=>s) (n:=l.length)
   (fin:=fun _=>(((l.flatten.length:Nat):Int),((l.length:Nat):Int),false)) (fun k s hk _=>⟨?_,trivial⟩) (fun s _=>?_) N 0 () trivial (Nat.zero_le _) (by omega)
  ·have e1:(((l.take k).flatten.length:Nat):Int) + (((l.getD k []).length:Nat):Int)=(((l.take (k + 1)).flatten.length:Nat):Int):=by rw [qED hk,List.length_append]; omega
   have h2:=qKQ (l:=l) (k:=k + 1)
   unfold Xj
   refine w_t (dec_lt hk) (ql (zB (d:=[]) hk) ?_)
   dsimp only
   rw [e1]
   exact qF (by unfold qj; omega) (w_f (decide_eq_false (by omega)) (qF (zT (by omega)) (qp (by rw [qZ]))))
  ·unfold Xj
   exact w_f (zo (Nat.lt_irrefl _)) (qp (by rw [zo (Nat.lt_irrefl _),List.take_of_length_le (Nat.le_refl _)]))
 have k2:XS N l ((l.length:Nat):Int) [] 0=some (l.flatten,((l.length:Nat):Int),false):=by
  refine jW (σ:=Unit) (B:=Vr N l ((l.length:Nat):Int)) (g:=some) (at_:=fun k _=>((l.take k).flatten,(k:Int))) (I:=fun _ _=>True) (f:=fun _ s=>s) (n:=l.length)
   (fin:=fun _=>(l.flatten,((l.length:Nat):Int),false)) (fun k s hk _=>⟨?_,trivial⟩) (fun s _=>?_) N 0 () trivial (Nat.zero_le _) (by omega)
  ·have h2:=qKQ (l:=l) (k:=k + 1)
   unfold Vr
   refine w_t (dec_lt hk) (ql (zB (d:=[]) hk) ?_)
   dsimp only
   rw [← qED hk]
   exact qF ⟨rfl,by unfold zg; omega⟩ (qF (zT (by omega)) (qp (by rw [qZ])))
  ·unfold Vr
   exact w_f (zo (Nat.lt_irrefl _)) (qp (by rw [zo (Nat.lt_irrefl _),List.take_of_length_le (Nat.le_refl _)]))
 unfold Y_ qbD
 refine ql k1 ?_
 by_cases h0:l.flatten.length=0
 ·have kg : XG ((l.flatten.length : Nat) : Int) = some (.inr ()) := by
     unfold XG Y1
     exact w_f (decide_eq_false (by omega)) (qF (by unfold qj; omega) (w_f (decide_eq_false (by omega)) (qp rfl)))
  exact ql kg (w_r rfl (ql ((zU rfl).trans k2) (qF rfl (qp rfl))))
 ·have kg : XG ((l.flatten.length : Nat) : Int) = some (.inl ()) := by
     unfold XG Y1
     exact w_f (decide_eq_false (by omega)) (qF (by unfold qj; omega) (w_t (decide_eq_true (by omega)) (qF ⟨by omega,by unfold zg; omega⟩ (qp rfl))))
  exact ql kg (w_l rfl (ql ((zU rfl).trans k2) (qF rfl (qp rfl))))
theorem qTZ {r:qa} (h:jT r=true):qfI r=some ():=by
 unfold qfI qk0
 exact ql (qEw (by have:=qa_ h; omega)) (qp rfl)
theorem qTh {L : List qa} (hl : L.length ≤ 1000) (hr : ∀ r ∈ L, jT r = true) :
    ∃ nm c M,qlg N [] L ((L.length:Nat):Int) [] 0 [] 0=some (nm,c,M,((L.length:Nat):Int),false)∧qQU L nm M:=by
 have hN:=big N
 have key:∃ y,qQ (Ku N [] L ((L.length:Nat):Int)) some N ([],0,[],((0:Nat):Int))=some y∧∃ nm c M,y=(nm,c,M,((L.length:Nat):Int),false)∧qQU L nm M:=by
  refine qly (I:=fun v=>∃ (k:Nat) (nm:List (Vector UInt8 16)) (c:Nat) (M:List (Vector UInt8 16×qa×Nat)),k≤L.length∧v=(nm,c,M,(k:Int))∧qQU (L.take k) nm M) (fun v=>L.length - v.2.2.2.toNat) ?_ N _ ⟨0,[],0,[],Nat.zero_le _,rfl,⟨List.nodup_nil,fun _=>rfl,fun id=>⟨fun h=>absurd h List.not_mem_nil,fun h=>(h rfl).elim⟩,fun _ _ h=>(by cases h),Nat.le_refl _⟩⟩ (by simp; omega)
  rintro v ⟨k,nm,c,M,hk,rfl,hi⟩
  by_cases h:k < L.length
  ·left
   have hmem:L.getD k zR∈L:=by rw [List.getD_eq_getElem?_getD,List.getElem?_eq_getElem h]; exact List.getElem_mem h
   have hrec:=hr _ hmem
   have et:∀ id,(L.take (k + 1)).foldl qgK (fun _=>none) id=qgK ((L.take k).foldl qgK fun _=>none) (L.getD k zR) id:=fun id=>by
    rw [qry (d:=zR) h,List.foldl_append]; rfl
   have hlk:(L.take k).length=k:=by rw [List.length_take]; omega
   have hlk1:(L.take (k + 1)).length=k + 1:=by rw [List.length_take]; omega
   have hv:=hi.val (L.getD k zR).ID
   have hnl:=hi.len
   cases e:fnd (β:=qa) (.ba 16) (L.getD k zR).ID M with
   | none=>
    have hn:X_ (L.getD k zR).ID M=none:=by unfold X_; rw [e]; rfl
    rw [hn] at hv
    refine ⟨(nm++[(L.getD k zR).ID],(JV (.ba 16) (qa.ID (L.getD k zR)) (L.getD k zR) c M).1,(JV (.ba 16) (qa.ID (L.getD k zR)) (L.getD k zR) c M).2,((k + 1:Nat):Int)),?_,⟨k + 1,_,_,_,h,rfl,?_⟩,by simp only [Int.toNat_natCast]; omega⟩
    ·unfold Ku
     exact w_t (dec_lt h) (ql (zB (d:=zR) h) (qHc e (qF ⟨rfl,by rw [List.length_append]; unfold zg; simp; omega⟩ (ql (qTZ hrec) (qF (zT (by omega)) (qp (by rw [qZ]; rfl)))))))
    ·have hpv:∀ id,X_ id (JV (.ba 16) (qa.ID (L.getD k zR)) (L.getD k zR) c M).2=if id=(L.getD k zR).ID then some (L.getD k zR) else X_ id M:=fun id=>qHI
     refine ⟨?_,fun id=>?_,fun id=>?_,fun id r hr'=>?_,?_⟩
     ·refine List.nodup_append.2 ⟨hi.nd,List.nodup_cons.2 ⟨List.not_mem_nil,List.nodup_nil⟩,fun a ha b hb=>?_⟩
      obtain rfl:=List.mem_singleton.1 hb
      intro hab
      rw [hab] at ha
      exact (hi.mem _).1 ha hn
     ·rw [hpv,et,qis]
      by_cases q:id=(L.getD k zR).ID
      ·rw [if_pos q,if_pos q.symm,q,← hv]; rfl
      ·rw [if_neg q,if_neg (fun x=>q x.symm),hi.val]
     ·rw [hpv,List.mem_append,List.mem_singleton,hi.mem]
      by_cases q:id=(L.getD k zR).ID
      ·rw [if_pos q]; exact ⟨fun _=>by simp,fun _=>.inr q⟩
      ·rw [if_neg q]; exact ⟨fun x=>x.resolve_right q,fun x=>.inl x⟩
     ·rw [hpv] at hr'
      by_cases q:id=(L.getD k zR).ID
      ·rw [if_pos q] at hr'
       obtain rfl:=Option.some.inj hr'
       exact ⟨hrec,q.symm⟩
      ·rw [if_neg q] at hr'; exact hi.ok id r hr'
     ·rw [hlk1,List.length_append]; simp; omega
   | some x=>
    have hn:X_ (L.getD k zR).ID M=some x.1:=by unfold X_; rw [e]; rfl
    rw [hn] at hv
    have hx:=hi.ok _ _ hn
    have ej:=qVS (N:=N) hx.1 hrec hx.2
    refine ⟨(nm,(JV (.ba 16) (qa.ID (L.getD k zR)) (rJ x.1 (L.getD k zR)) c M).1,(JV (.ba 16) (qa.ID (L.getD k zR)) (rJ x.1 (L.getD k zR)) c M).2,((k + 1:Nat):Int)),?_,⟨k + 1,_,_,_,h,rfl,?_⟩,by simp only [Int.toNat_natCast]; omega⟩
    ·unfold Ku
     exact w_t (dec_lt h) (ql (zB (d:=zR) h) (qAU e (ql ej (qF (zT (by omega)) (qp (by rw [qZ]))))))
    ·have hpv:∀ id,X_ id (JV (.ba 16) (qa.ID (L.getD k zR)) (rJ x.1 (L.getD k zR)) c M).2=if id=(L.getD k zR).ID then some (rJ x.1 (L.getD k zR)) else X_ id M:=fun id=>qHI
     refine ⟨hi.nd,fun id=>?_,fun id=>?_,fun id r hr'=>?_,?_⟩
     ·rw [hpv,et,qis]
      by_cases q:id=(L.getD k zR).ID
      ·rw [if_pos q,if_pos q.symm,q,← hv]; rfl
      ·rw [if_neg q,if_neg (fun x=>q x.symm),hi.val]
     ·rw [hpv,hi.mem]
      by_cases q:id=(L.getD k zR).ID
      ·rw [if_pos q,q,hn]; simp
      ·rw [if_neg q]
     ·rw [hpv] at hr'
      by_cases q:id=(L.getD k zR).ID
      ·rw [if_pos q] at hr'
       obtain rfl:=Option.some.inj hr'
       exact ⟨qzG hx.1 hrec,by rw [qTA,hx.2,q]⟩
      ·rw [if_neg q] at hr'; exact hi.ok id r hr'
     ·rw [hlk1]; omega
  ·right
   obtain rfl:k=L.length:=by omega
   rw [List.take_of_length_le (Nat.le_refl _)] at hi
   refine ⟨(nm,c,M,((L.length:Nat):Int),false),_,?_,rfl,nm,c,M,rfl,hi⟩
   unfold Ku
   exact w_f (zo (Nat.lt_irrefl _)) (qp (by rw [zo (Nat.lt_irrefl _)]))
 obtain ⟨y,e,nm,c,M,rfl,h⟩:=key
 exact ⟨nm,c,M,e,h⟩
theorem qT7 {nm : List (Vector UInt8 16)} {c n : Nat} {M : List (Vector UInt8 16 × qa × Nat)} (hn : nm.length = n) (hl : n ≤ 1000) (h : ∀ i ∈ nm, ∃ r, X_ i M = some r ∧ r.ID = i) :
    qjQ N [] nm c M n ((n:Nat):Int) [] 0=some (qee M nm,((n:Nat):Int),false):=by
 subst hn
 have hN:=big N
 refine jW (σ:=Unit) (B:=qbY N [] nm c M nm.length ((nm.length:Nat):Int)) (g:=some) (at_:=fun k _=>(qee M (nm.take k),(k:Int))) (I:=fun _ _=>True) (f:=fun _ s=>s) (n:=nm.length)
  (fin:=fun _=>(qee M nm,((nm.length:Nat):Int),false)) (fun k s hk _=>⟨?_,trivial⟩) (fun s _=>?_) N 0 () trivial (Nat.zero_le _) (by omega)
 ·have hmem:nm.getD k (Vector.replicate 16 0)∈nm:=by rw [List.getD_eq_getElem?_getD,List.getElem?_eq_getElem hk]; exact List.getElem_mem hk
  obtain ⟨r,hr,_⟩:=h _ hmem
  have hf:∃ x,fnd (β:=qa) (.ba 16) (nm.getD k (Vector.replicate 16 0)) M=some x∧x.1=r:=by
   unfold X_ at hr
   cases e:fnd (β:=qa) (.ba 16) (nm.getD k (Vector.replicate 16 0)) M with
   | none=>rw [e] at hr; cases hr
   | some x=>rw [e] at hr; exact ⟨x,rfl,Option.some.inj hr⟩
  obtain ⟨x,ex,hx⟩:=hf
  have eo:qee M (nm.take (k + 1))=qee M (nm.take k)++[x.1]:=by
   unfold qee
   rw [qry (d:=Vector.replicate 16 0) hk,List.map_append,List.map_cons,hr,hx]; rfl
  have cav:jx (qee M (nm.take k)).length (qee M (nm.take k)).length (qee M (nm.take k)++[x.1]).length 56:=⟨rfl,by
   rw [List.length_append]; unfold qee; rw [List.length_map,List.length_take]; unfold zg; simp; omega⟩
  unfold qbY
  exact w_t (dec_lt hk) (qF ⟨by show (0:Int)≤(k:Int); omega,by show (k:Int) < _; omega⟩ (ql (qVC rfl hk) (qAU ex (qF cav (qF (zT (by omega)) (qp (by rw [qZ,eo])))))))
 ·unfold qbY
  exact w_f (zo (Nat.lt_irrefl _)) (qp (by rw [zo (Nat.lt_irrefl _),List.take_of_length_le (Nat.le_refl _)]))
theorem qgf {b:qc} (h:zG b=true):jL N b:=by
 have hN:=big N
 have hb:=qi1.1 h
 exact ⟨by omega,by omega,fun k hk=>by have:=qa_ (hb.1 k hk).1; exact ⟨by omega,by omega⟩⟩
def qrj (c:List qa):qc×Int:=if c.length≤10 then (qc.mk c,0) else (qc.mk [],4)
theorem qzf {a b:qc} (ha:zG a=true) (hb:zG b=true):∃ c,qlH a.R b.R c∧Yo N a b=some (qrj c):=by
 have hA:=VU.1 ha
 have hB:=VU.1 hb
 have hfl:[a.R,b.R].flatten=a.R++b.R:=by simp
 have hll:(a.R++b.R).length≤20:=by rw [List.length_append]; omega
 have ec:=qLR (N:=N) (l:=[a.R,b.R]) (by simp) (by rw [hfl]; omega)
 rw [hfl] at ec
 obtain ⟨nm,c,M,el,hi⟩:=qTh (N:=N) (L:=a.R++b.R) (by omega) (fun r hr=>by
  rcases List.mem_append.1 hr with h | h
  ·exact hA.1.2 r h
  ·exact hB.1.2 r h)
 have hval:∀ id,X_ id M=jR (rO a.R id) (rO b.R id):=fun id=>by
  rw [hi.val,List.foldl_append,qpS hB.1.1,qpS hA.1.1]; rfl
 obtain ⟨hs,hp⟩:=qRv hi.nd
 have hin:∀ i∈Q4 nm,∃ r,X_ i M=some r∧r.ID=i:=fun i h=>by
  have:=(hi.mem i).1 (hp.mem_iff.1 h)
  cases e:X_ i M with
  | none=>exact (this e).elim
  | some r=>exact ⟨r,rfl,(hi.ok i r e).2⟩
 have hlen:(qee M (Q4 nm)).length=nm.length:=by unfold qee; rw [List.length_map,hp.length_eq]
 refine ⟨qee M (Q4 nm),⟨?_,fun id=>?_⟩,?_⟩
 ·unfold Yb qee
  rw [List.pairwise_map]
  refine (List.Pairwise.and_mem.1 hs).imp fun {i j} h=>?_
  obtain ⟨r,e1,h1⟩:=hin i h.1
  obtain ⟨s,e2,h2⟩:=hin j h.2.1
  rw [e1,e2]
  show lbB r.ID s.ID=true
  rw [h1,h2]; exact h.2.2
 ·rw [qPX hin,← hval]
  by_cases m:id∈Q4 nm
  ·rw [if_pos m]
  ·rw [if_neg m]
   cases e:X_ id M with
   | none=>rfl
   | some r=>exact (m (hp.mem_iff.2 ((hi.mem id).2 (by rw [e]; simp)))).elim
 ·have hnl:=hi.len
  unfold Yo qiG
  refine ql (qrc (qgf ha)) (w_f (by rw [ha]; rfl) (ql (qrc (qgf hb)) (w_f (by rw [hb]; rfl) (ql ec (ql ((zU rfl).trans ((zU rfl).trans el)) ?_)))))
  unfold qrj
  rw [hlen]
  by_cases h10:nm.length≤10
  ·rw [if_pos h10]
   exact w_f (decide_eq_false (by show ¬ (10:Int) < ((nm.length:Nat):Int); omega)) (ql ((zU rfl).trans (qUE (by show nm.length≤12; omega))) (ql ((zU rfl).trans ((zU rfl).trans (qT7 hp.length_eq (by show nm.length≤1000; omega) hin))) (qF rfl (qp rfl))))
  ·rw [if_neg h10]
   exact w_t (decide_eq_true (by show (10:Int) < ((nm.length:Nat):Int); omega)) (qF rfl (qp rfl))
theorem qzR {a b:qc} (fa:jL N a) (fb:jL N b) (h:¬ (zG a=true∧zG b=true)):Yo N a b=some (qc.mk [],1):=by
 unfold Yo qiG
 refine ql (qrc fa) ?_
 cases ha:zG a with
 | false=>exact w_t rfl (qF rfl (qp rfl))
 | true=>
  refine w_f rfl (ql (qrc fb) ?_)
  cases hb:zG b with
  | false=>exact w_t rfl (qF rfl (qp rfl))
  | true=>exact (h ⟨ha,hb⟩).elim
end
end Go.Rx
end
set_option maxRecDepth 100000
noncomputable section
namespace Go.Rx
open Go.Proofs
def Q5 (p:qa):Bool:=decide (p.qW=zSt)&&decide (p.F.length=0)
end Go.Rx
end
set_option maxRecDepth 100000
noncomputable section
namespace Go.Rx
open Go.Proofs
def jB (N:Nat) (a b:qc):qc×Int:=(Yo N a b).getD (qc.mk [],0)
def QG (p:qa):qa:=qa.mk p.ID p.qW []
def vC (p:qa):qa:=qa.mk p.ID zSt p.F
def QX (N:Nat) (b:qc) (e:qa):qc×Int:=if Q5 e=true then (b,0) else jB N b (qc.mk [e])
theorem qCy {N:Nat} {b:qc} {e:qa} (h:Q5 e=true):QX N b e=(b,0):=if_pos h
theorem qvD {N:Nat} {b:qc} {e:qa} (h:Q5 e=false):QX N b e=jB N b (qc.mk [e]):=if_neg (by rw [h]; simp)
def qAg (N:Nat) (b:qc) (e1 e2:qa):qc×Int:=
 if (QX N b e1).2=0 then (if (QX N (QX N b e1).1 e2).2=0 then ((QX N (QX N b e1).1 e2).1,0) else (qc.mk [],(QX N (QX N b e1).1 e2).2)) else (qc.mk [],(QX N b e1).2)
def qDN (b:qc) (p:qa):Bool:=zG b&&(!Q5 p&&(stB p.qW&&(decide (p.F.length=0)||jT (vC p))))
def Ka (N:Nat) (b:qc) (p:qa):qc×Int:=if qDN b p=true then qAg N b (QG p) (vC p) else (qc.mk [],1)
section
variable {N:Nat} [QJ N]
theorem qTC {a b:qc} (fa:jL N a) (fb:jL N b):Yo N a b=some (jB N a b):=by
 unfold jB
 by_cases h:zG a=true∧zG b=true
 ·obtain ⟨c,_,e⟩:=qzf (N:=N) h.1 h.2
  rw [e]; rfl
 ·rw [qzR fa fb h]; rfl
theorem qVa {a b:qc} (ha:zG a=true) (hb:zG b=true):∃ c,qlH a.R b.R c∧jB N a b=qrj c:=by
 obtain ⟨c,hc,e⟩:=qzf (N:=N) ha hb
 exact ⟨c,hc,by unfold jB; rw [e]; rfl⟩
theorem qV3 {a b:qc} (fa:jL N a) (fb:jL N b) (h:¬ (zG a=true∧zG b=true)):jB N a b=(qc.mk [],1):=by
 unfold jB
 rw [qzR fa fb h]; rfl
theorem qDx {a b:qc} (fa:jL N a) (fb:jL N b) (h:(jB N a b).2=0):zG a=true∧zG b=true∧qlH a.R b.R (jB N a b).1.R∧zG (jB N a b).1=true:=by
 by_cases hab:zG a=true∧zG b=true
 ·obtain ⟨c,hc,e⟩:=qVa (N:=N) hab.1 hab.2
  rw [e] at h ⊢
  unfold qrj at h ⊢
  by_cases h10:c.length≤10
  ·rw [if_pos h10] at h ⊢
   exact ⟨hab.1,hab.2,hc,VU.2 ⟨qNO (VU.1 hab.1).1 (VU.1 hab.2).1 hc,h10⟩⟩
  ·rw [if_neg h10] at h; cases h
 ·rw [qV3 fa fb hab] at h; cases h
theorem qlh {e:qa} (h1:e.F.length < N) (h2:e.F.length≤4611686018427387904):jL N (qc.mk [e]):=by
 have:=big N
 refine ⟨by show 1 < N; omega,by show 1≤4611686018427387904; omega,fun k hk=>?_⟩
 have hk:k < 1:=hk
 obtain rfl:k=0:=by omega
 exact ⟨h1,h2⟩
theorem qOr {b:qc} {e:qa} (fb:jL N b) (h1:e.F.length < N) (h2:e.F.length≤4611686018427387904) (h:(QX N b e).2=0):jL N (QX N b e).1:=by
 unfold QX at *
 split
 ·exact fb
 ·rename_i hn
  rw [if_neg hn] at h
  exact qgf (qDx fb (qlh h1 h2) h).2.2.2
theorem qEf {b : qc} {e : qa} {s47 : List qa} {k : Nat} (hk : k < s47.length) (hs : s47.length ≤ 10) (he : s47.getD k zR = e) (fb : jL N b) (h1 : e.F.length < N) (h2 : e.F.length ≤ 4611686018427387904) :
    (Ke N [] s47 ((s47.length:Nat):Int) (b,(k:Int))).run some=some (if (QX N b e).2=0 then .inl ((QX N b e).1,((k + 1:Nat):Int)) else .inr (.inr (QX N b e).2)):=by
 unfold Ke
 refine w_t (dec_lt hk) <| ql ((zB (d:=zR) hk).trans (by rw [he])) <| ql (by
  have e0:eqE qm (qa.qW e) (qe.mk 0 0)=decide (e.qW=zSt):=qhn _ _
  have e2:decide (((e.F.length:Nat):Int)=0)=decide (e.F.length=0):=decide_eq_decide.2 (by omega)
  show K0 e=some (Q5 e)
  unfold K0 qhe Q5
  refine jb e0 (fun h=>qp ?_) fun h=>qp ?_
  ·rw [h]; exact congrArg some e2
  ·rw [h]; rfl) ?_
 cases hn:Q5 e with
 | true=>
  rw [qCy hn]
  exact w_t rfl <| qF (zT (by omega)) <| qp (by rw [qZ]; rfl)
 | false=>
  rw [qvD hn]
  refine w_f rfl <| ql (qTC fb (qlh h1 h2)) ?_
  by_cases hz:(jB N b (qc.mk [e])).2=0
  ·rw [if_pos hz]
   exact w_f (by rw [decide_eq_true hz]; rfl) <| qF (zT (by omega)) <| qp (by rw [qZ])
  ·rw [if_neg hz]
   exact w_t (by rw [decide_eq_false hz]; rfl) <| qp rfl
theorem qQ3 {b : qc} {e1 e2 : qa} (fb : jL N b) (h1 : e1.F.length < N ∧ e1.F.length ≤ 4611686018427387904) (h2 : e2.F.length < N ∧ e2.F.length ≤ 4611686018427387904) :
    ∃ z,KD N [] [e1,e2] ((([e1,e2]:List qa).length:Nat):Int) b 0=some z∧(match z with | .inl w=>(w.1,(0:Int)) | .inr e=>(qc.mk [],e))=qAg N b e1 e2:=by
 obtain ⟨M,hM⟩:∃ M,N=M + 3:=⟨N - 3,by have:=big N; omega⟩
 have s0:KD N [] [e1,e2] ((([e1,e2]:List qa).length:Nat):Int) b 0=qQ (Ke N [] [e1,e2] ((([e1,e2]:List qa).length:Nat):Int)) some (M + 3) (b,((0:Nat):Int)):=by rw [← hM]; rfl
 rw [s0]
 have r1:=qEf (N:=N) (b:=b) (e:=e1) (s47:=[e1,e2]) (k:=0) (by simp) (by simp) rfl fb h1.1 h1.2
 unfold qAg
 by_cases z1:(QX N b e1).2=0
 ·rw [if_pos z1] at r1 ⊢
  rw [vM r1]
  have r2:=qEf (N:=N) (b:=(QX N b e1).1) (e:=e2) (s47:=[e1,e2]) (k:=1) (by simp) (by simp) rfl (qOr fb h1.1 h1.2 z1) h2.1 h2.2
  by_cases z2:(QX N (QX N b e1).1 e2).2=0
  ·rw [if_pos z2] at r2 ⊢
   rw [vM r2,zh (x:=.inl ((QX N (QX N b e1).1 e2).1,((2:Nat):Int),false)) (by
    unfold Ke
    exact w_f rfl (qp rfl))]
   exact ⟨_,rfl,rfl⟩
  ·rw [if_neg z2] at r2 ⊢
   rw [zh r2]
   exact ⟨_,rfl,rfl⟩
 ·rw [if_neg z1] at r1 ⊢
  rw [zh r1]
  exact ⟨_,rfl,rfl⟩
theorem qGm {b:qc} {p:qa} (fb:jL N b) (h1:p.F.length < N) (h2:p.F.length≤4611686018427387904):KO N b p=some (Ka N b p):=by
 have hN:=big N
 have hn:K0 p=some (Q5 p):=by
  have e0:eqE qm (qa.qW p) (qe.mk 0 0)=decide (p.qW=zSt):=qhn _ _
  have e2:decide (((p.F.length:Nat):Int)=0)=decide (p.F.length=0):=decide_eq_decide.2 (by omega)
  unfold K0 qhe Q5
  refine jb e0 (fun h=>qp ?_) fun h=>qp ?_
  ·rw [h]; exact congrArg some e2
  ·rw [h]; rfl
 obtain ⟨z,ez,hz⟩:=qQ3 (N:=N) (b:=b) (e1:=QG p) (e2:=vC p) fb ⟨by show 0 < N; omega,Nat.zero_le _⟩ ⟨h1,h2⟩
 have fin:(Tree.bind (ju [(([]:List qa).length,0)] (KD N [] [QG p,vC p] ((([QG p,vC p]:List qa).length:Nat):Int) b 0)) fun z5=>.sum z5 (fun z6=>.ret (z6.1,(0:Int))) fun z6=>.chk (0=0) (.ret (qc.mk [],z6))).run some=some (qAg N b (QG p) (vC p)):=by
  refine ql ((zU rfl).trans ez) ?_
  rw [← hz]
  cases z with
  | inl w=>rfl
  | inr e=>exact w_r rfl <| qF rfl <| qp rfl
 unfold KO qo4 Ka qDN
 refine ql (qrc fb) ?_
 cases hb:zG b with
 | false=>exact w_t rfl <| qF rfl <| qp rfl
 | true=>
  refine w_f rfl <| ql hn ?_
  cases hnp:Q5 p with
  | true=>exact w_t rfl <| qF rfl <| qp rfl
  | false=>
   refine w_f rfl <| ql (qr1 _) ?_
   have hst:stB (qa.qW p)=stB p.qW:=rfl
   rw [hst]
   cases hs:stB p.qW with
   | false=>exact w_t rfl <| qF rfl <| qp rfl
   | true=>
    refine w_f rfl ?_
    by_cases h0:p.F.length=0
    ·rw [decide_eq_true h0]
     exact w_f (decide_eq_false (by show ¬ (0:Int) < ((p.F.length:Nat):Int); omega)) fin
    ·rw [decide_eq_false h0]
     refine w_t (decide_eq_true (by show (0:Int) < ((p.F.length:Nat):Int); omega)) <| ql (qxu (r:=vC p) h1 h2) ?_
     cases hr:jT (vC p) with
     | false=>exact w_t rfl <| qF rfl <| qp rfl
     | true=>exact w_f rfl fin
end
end Go.Rx
end
set_option maxRecDepth 100000
noncomputable section
namespace Go.Rx
open Go.Proofs
end Go.Rx
end
set_option maxRecDepth 100000
noncomputable section
namespace Go.Rx
open Go.Proofs
end Go.Rx
end
set_option maxRecDepth 100000
noncomputable section
namespace Go.Rx
open Go.Proofs
def oP (e:qa) (id:Vector UInt8 16):Option qa:=if Q5 e=true then none else rO [e] id
theorem qUt {p:qa} (hs:stB p.qW=true):Q5 (QG p)=true∨jT (QG p)=true:=by
 by_cases h:p.qW=zSt
 ·left
  show (decide (p.qW=zSt)&&true)=true
  rw [decide_eq_true h]; rfl
 ·right
  exact qji.2 ⟨hs,.inr h,List.Pairwise.nil,fun f hf=>absurd hf List.not_mem_nil⟩
section
variable {N:Nat} [QJ N]
theorem qD1 {b : qc} {e : qa} (hb : zG b = true) (h1 : e.F.length < N) (h2 : e.F.length ≤ 4611686018427387904) (h : (QX N b e).2 = 0) :
    zG (QX N b e).1=true∧∀ id,rO (QX N b e).1.R id=jR (rO b.R id) (oP e id):=by
 cases hn:Q5 e with
 | true=>
  rw [qCy hn]
  refine ⟨hb,fun id=>?_⟩
  unfold oP
  rw [if_pos hn,qCN]
 | false=>
  rw [qvD hn] at h ⊢
  obtain ⟨_,_,hj,hv⟩:=qDx (qgf hb) (qlh h1 h2) h
  refine ⟨hv,fun id=>?_⟩
  rw [hj.2 id]
  unfold oP
  rw [if_neg (by rw [hn]; simp)]; rfl
theorem qG0 {b:qc} {p:qa} (h:(Ka N b p).2≠0):(Ka N b p).1=qc.mk []:=by
 unfold Ka qAg at *
 split at h
 ·rename_i h1
  rw [if_pos h1]
  split at h
  ·rename_i h2
   rw [if_pos h2]
   split at h
   ·exact (h rfl).elim
   ·rename_i h3
    rw [if_neg h3]
  ·rename_i h2
   rw [if_neg h2]
 ·rename_i h1
  rw [if_neg h1]
theorem qEI {b:qc} {p:qa} (h:(Ka N b p).2=0):qDN b p=true∧(QX N b (QG p)).2=0∧(QX N (QX N b (QG p)).1 (vC p)).2=0∧Ka N b p=((QX N (QX N b (QG p)).1 (vC p)).1,0):=by
 unfold Ka qAg at *
 split at h
 ·rename_i h1
  rw [if_pos h1]
  split at h
  ·rename_i h2
   rw [if_pos h2]
   split at h
   ·rename_i h3
    rw [if_pos h3]
    exact ⟨h1,h2,h3,rfl⟩
   ·rename_i h3
    exact (h3 h).elim
  ·rename_i h2
   exact (h2 h).elim
 ·cases h
theorem qHh {b:qc} {p:qa}:qDN b p=true↔zG b=true∧Q5 p=false∧stB p.qW=true∧(p.F.length=0∨jT (vC p)=true):=by
 unfold qDN
 rw [Bool.and_eq_true,Bool.and_eq_true,Bool.and_eq_true,Bool.or_eq_true,Bool.not_eq_true',decide_eq_true_iff]
theorem qUT {p:qa} (h:p.F.length=0∨jT (vC p)=true):Q5 (vC p)=true∨jT (vC p)=true:=by
 refine h.imp (fun h0=>?_) id
 show (true&&decide (p.F.length=0))=true
 rw [decide_eq_true h0]; rfl
theorem qTQ {b : qc} {p : qa} (h1 : p.F.length < N) (h2 : p.F.length ≤ 4611686018427387904) (h : (Ka N b p).2 = 0) :
    zG b=true∧zG (Ka N b p).1=true∧(∀ id,rO (Ka N b p).1.R id=jR (jR (rO b.R id) (oP (QG p) id)) (oP (vC p) id)):=by
 obtain ⟨ha,z1,z2,e⟩:=qEI h
 obtain ⟨hb,hn,hs,hl⟩:=qHh.1 ha
 obtain ⟨v1,r1⟩:=qD1 (e:=QG p) hb (by have:=big N; show 0 < N; omega) (Nat.zero_le _) z1
 obtain ⟨v2,r2⟩:=qD1 (e:=vC p) v1 h1 h2 z2
 rw [e]
 exact ⟨hb,v2,fun id=>by rw [r2,r1]⟩
end
end Go.Rx
end
set_option maxRecDepth 100000
noncomputable section
namespace Go.Rx
open Go.Proofs
def qH4 (o:qd):qa:=qa.mk o.ID o.S []
def qAe (o:qd) (v:List UInt8):qa:=qa.mk o.ID zSt [qg.mk o.No (qf.mk o.S v)]
def Ye (b:qc) (id:Vector UInt8 16) (no:Int):List UInt8×Int:=
 if (cellAt (recAt b id).1 no).2=true then ((cellAt (recAt b id).1 no).1.V,0) else ([],6)
def qlY (o:qd) (x:List UInt8×Int):List UInt8×Int:=if x.2=0 then (if VK x.1=o.D then x else ([],7)) else x
def qCH (N:Nat) (b:qc) (o:qd) (x:List UInt8×Int):qc×Int:=if x.2=0 then Ka N b (qAe o x.1) else (qc.mk [],x.2)
theorem qq7 {b:qc} (h:zG b=true) (id:Vector UInt8 16):(recAt b id).1.F.length≤8:=by
 unfold recAt
 cases e:qyV b.R id with
 | none=>exact Nat.zero_le _
 | some i=>exact qa_ ((qi1.1 h).1 i (qwc e).1).1
theorem qiO {b:qc} (h:zG b=true) (id:Vector UInt8 16) (no:Int):(cellAt (recAt b id).1 no).1.V.length≤200:=by
 unfold cellAt
 cases e:qoo (recAt b id).1.F no with
 | none=>exact Nat.zero_le _
 | some j=>
  unfold recAt at e ⊢
  cases e2:qyV b.R id with
  | none=>rw [e2] at e; cases e
  | some i=>
   rw [e2] at e
   exact qza (qAL ((qi1.1 h).1 i (qwc e2).1).1 j (qwc e).1)
section
variable {N:Nat} [QJ N]
theorem qHd {b:qc} (h:zG b=true) (o:qd) (id:Vector UInt8 16) (no:Int):Kr N (zf.mk b o) id no=some (Ye b id no):=by
 unfold Kr qfA Ye
 refine ql (qQ_ h id) <| ql (qRf (qq7 h id) no) ?_
 cases e:(cellAt (recAt b id).1 no).2 with
 | true=>exact w_f rfl (qp rfl)
 | false=>exact w_t rfl (qp rfl)
theorem qKZ (b:qc) (o:qd) {v:List UInt8} {e:Int} (h:v.length≤50000):X6 N (zf.mk b o) v e=some (qlY o (v,e)):=by
 unfold X6 qbm qlY
 refine jb rfl (fun h0=>?_) fun h0=>qp (by rw [if_neg (of_decide_eq_false h0)])
 rw [if_pos (of_decide_eq_true h0)]
 refine ql (qzM h) ?_
 have e2:eqE (.ba 32) (VK v) (qd.D (zf.o (zf.mk b o)))=decide (VK v=o.D):=qLg _ _
 refine jb (by rw [e2]) (fun h1=>qp ?_) fun h1=>qp ?_
 ·rw [Bool.not_eq_true'] at h1
  exact congrArg some (if_neg (of_decide_eq_false h1)).symm
 ·rw [Bool.not_eq_false'] at h1
  exact congrArg some (if_pos (of_decide_eq_true h1)).symm
theorem qOv {b:qc} (h:zG b=true) (o:qd):qaa N (zf.mk b o)=some (qlY o (Ye b o.zm o.jV)):=by
 unfold qaa qcQ
 have hl:(Ye b o.zm o.jV).1.length≤50000:=by
  unfold Ye
  split
  ·have:=qiO h o.zm o.jV; show (cellAt (recAt b o.zm).1 o.jV).1.V.length≤50000; omega
  ·exact Nat.zero_le _
 exact ql (qHd h o _ _) <| ql (qKZ b o hl) <| qp rfl
def qoE (b:qc) (o:qd) (m:List UInt8×Int):List UInt8×Int:=if o.Kind=1 then (o.V,0) else if o.Kind=2 then qlY o (Ye b o.zm o.jV) else m
def doD (N:Nat) (b:qc) (o:qd) (m:List UInt8×Int):qc×Int:=
 if zG b=true∧opB o=true then (if o.Kind=0 then Ka N b (qH4 o) else qCH N b o (qoE b o m)) else (qc.mk [],1)
theorem qG7 {o:qd} (h:opB o=true):0≤o.Kind∧o.Kind < 4:=by
 unfold opB at h
 simp only [Bool.and_eq_true,Bool.not_eq_true',decide_eq_false_iff_not] at h
 omega
theorem qVR {b:qc} {o:qd} (fb:jL N b) (hl:(qd.P o).length < N) (hl2:(qd.P o).length≤1000000000000000) (hk:o.Kind≠3) (m:List UInt8×Int):qxv N b o=some (doD N b o m):=by
 have hN:=big N
 have add1:∀ v,KO N b (qAe o v)=some (Ka N b (qAe o v)):=fun v=>qGm fb (by show 1 < N; omega) (by show 1≤4611686018427387904; omega)
 unfold qxv qxt doD
 refine ql (qrc fb) ?_
 cases hb:zG b with
 | false=>exact w_t rfl <| qF rfl <| qp (by rw [if_neg (fun h=>by cases h.1)])
 | true=>
  refine w_f rfl <| ql (qGv hl hl2) ?_
  cases ho:opB o with
  | false=>exact w_t rfl <| qF rfl <| qp (by rw [if_neg (fun h=>by cases h.2)])
  | true=>
   refine w_f rfl ?_
   rw [if_pos ⟨rfl,rfl⟩]
   unfold qoE
   refine jb rfl (fun h0=>?_) fun h0=>?_
   ·rw [if_pos (of_decide_eq_true h0)]
    exact qF (by omega) <| ql (qGm (p:=qH4 o) fb (by show 0 < N; omega) (Nat.zero_le _)) <| qp rfl
   rw [if_neg (of_decide_eq_false h0)]
   refine jb rfl (fun h1=>?_) fun h1=>?_
   ·rw [if_pos (of_decide_eq_true h1)]
    exact qF (by omega) <| ql (show qjS (zf.mk b o)=some () from rfl) <| ql (add1 o.V) <| qp rfl
   rw [if_neg (of_decide_eq_false h1)]
   refine jb rfl (fun h2=>?_) fun h2=>?_
   ·rw [if_pos (of_decide_eq_true h2)]
    refine qF (by omega) <| ql (qOv hb o) ?_
    unfold qCH
    by_cases hz:(qlY o (Ye b o.zm o.jV)).2=0
    ·rw [if_pos hz]
     exact w_f (by rw [decide_eq_true hz]; rfl) <| ql (add1 _) <| qp rfl
    ·rw [if_neg hz]
     exact w_t (by rw [decide_eq_false hz]; rfl) <| qF rfl <| qp rfl
   have:=qG7 ho
   have h0:=of_decide_eq_false h0; have h1:=of_decide_eq_false h1; have h2:=of_decide_eq_false h2
   exact (hk (by omega)).elim
theorem qSR {b : qc} {o : qd} {m : List UInt8 × Int} (h : (doD N b o m).2 = 0) :
    zG b=true∧opB o=true∧∃ p:qa,p.F.length≤1∧p.ID=o.ID∧doD N b o m=Ka N b p∧(o.Kind=0∧p=qH4 o∨o.Kind≠0∧(qoE b o m).2=0∧p=qAe o (qoE b o m).1):=by
 unfold doD at h ⊢
 by_cases hb:zG b=true∧opB o=true
 ·rw [if_pos hb] at h ⊢
  refine ⟨hb.1,hb.2,?_⟩
  by_cases h0:o.Kind=0
  ·rw [if_pos h0] at h ⊢
   exact ⟨qH4 o,Nat.zero_le _,rfl,rfl,.inl ⟨h0,rfl⟩⟩
  ·rw [if_neg h0] at h ⊢
   unfold qCH at h ⊢
   by_cases hz:(qoE b o m).2=0
   ·rw [if_pos hz] at h ⊢
    exact ⟨qAe o (qoE b o m).1,Nat.le_refl _,rfl,rfl,.inr ⟨h0,hz,rfl⟩⟩
   ·rw [if_neg hz] at h
    exact (hz h).elim
 ·rw [if_neg hb] at h; cases h
end
end Go.Rx
end
set_option maxRecDepth 100000
noncomputable section
namespace Go.Rx
open Go.Proofs
section
variable {N:Nat} [QJ N]
theorem qTb (o:qd):∃ x,VM N o=some x∧(x=true→(qd.P o).length≤80∧(qd.V o).length≤300∧∀ k,k < (qd.P o).length→((qd.P o).getD k zP).Lit.length≤300):=by
 have hN:=big N
 by_cases h1:(qd.P o).length≤80
 ·by_cases h2:(qd.V o).length≤300
  ·have hl : qbq N o 0 = some (if QK (fun k => decide (((qd.P o).getD k zP).Lit.length ≤ 300)) (qd.P o).length then .inr (((qd.P o).length : Nat), false) else .inl ()) := by
      refine (Wk (B:=XQ N o) (g:=some) (q:=fun k=>decide (((qd.P o).getD k zP).Lit.length≤300)) (n:=(qd.P o).length) (hit:=()) (fun k hk=>?_) ?_ (by omega))
      ·unfold XQ
       refine w_t (dec_lt hk) <| ql (zB (d:=zP) hk) ?_
       by_cases h:((qd.P o).getD k zP).Lit.length≤300
       ·rw [decide_eq_true h]
        exact w_f (decide_eq_false (by show ¬ (300:Int) < ((((qd.P o).getD k zP).Lit.length:Nat):Int); omega)) <| qF (zT (by omega)) <| qp (by rw [qZ]; rfl)
       ·rw [decide_eq_false h]
        exact w_t (decide_eq_true (by show (300:Int) < ((((qd.P o).getD k zP).Lit.length:Nat):Int); omega)) <| qp rfl
      ·unfold XQ
       exact w_f (zo (Nat.lt_irrefl _)) (qp (by rw [zo (Nat.lt_irrefl _)]))
   refine ⟨QK (fun k=>decide (((qd.P o).getD k zP).Lit.length≤300)) (qd.P o).length,?_,fun h=>⟨h1,h2,fun k hk=>of_decide_eq_true (Zn.1 h k hk)⟩⟩
   unfold VM Xm
   refine w_f (decide_eq_false (by omega)) <| w_f (decide_eq_false (by omega)) <| ql hl ?_
   cases QK (fun k=>decide (((qd.P o).getD k zP).Lit.length≤300)) (qd.P o).length<;>rfl
  ·refine ⟨false,?_,fun h=>by cases h⟩
   unfold VM Xm
   exact w_f (decide_eq_false (by omega)) <| w_t (decide_eq_true (by omega)) <| qp rfl
 ·refine ⟨false,?_,fun h=>by cases h⟩
  unfold VM Xm
  exact w_t (decide_eq_true (by omega)) <| qp rfl
end
end Go.Rx
end
set_option maxRecDepth 100000
noncomputable section
namespace Go.Rx
open Go.Proofs
end Go.Rx
end
set_option maxRecDepth 100000
noncomputable section
namespace Go.Rx
open Go.Proofs
end Go.Rx
end
set_option maxRecDepth 100000
noncomputable section
namespace Go.Rx
open Go.Proofs
theorem Qs (x:UInt32) (n:Nat) (h:n < 32) (h0:0 < n):zc (c32 x) ((n:Nat):Int)=some (c32 (rot x n)):=by
 have e:qo0 .u32 (32:Int) ((n:Nat):Int)=((32 - n:Nat):Int):=by
  unfold qo0
  rw [show (32:Int) - ((n:Nat):Int)=((32 - n:Nat):Int) by omega,qct,Nat.mod_eq_of_lt (by omega)]
 unfold zc Kd
 simp only [qM,qS,e]
 rw [qi (show (0:Int)≤((n:Nat):Int) by omega),qi (show (0:Int)≤((32 - n:Nat):Int) by omega),Int.toNat_natCast,Int.toNat_natCast,Nat.min_eq_left (show 32 - n≤32 by omega),Nat.min_eq_left (show n≤32 by omega),qCn x _ (by omega),qrV x n h,qz2]
 unfold rot
 rw [UInt32.or_comm]
theorem qNc (x y:UInt32):ql9 .u32 (c32 x) (c32 y)=c32 (x * y):=by
 unfold ql9
 show IntKind.u32.wrap (((x.toNat:Nat):Int) * ((y.toNat:Nat):Int))=_
 rw [← Int.natCast_mul,qct,c32,UInt32.toNat_mul]
theorem qTT {a b c d:Nat} (hb:b < 256) (hc:c < 256) (hd:d < 256):(((a <<< 24) ||| (b <<< 16)) ||| (c <<< 8)) ||| d=16777216 * a + 65536 * b + 256 * c + d:=by
 rw [Nat.shiftLeft_eq,Nat.shiftLeft_eq,Nat.shiftLeft_eq]
 have e1:a * 2 ^ 24 ||| b * 2 ^ 16=2 ^ 24 * a + b * 2 ^ 16:=by rw [Nat.mul_comm a,← Nat.two_pow_add_eq_or_of_lt (by omega)]
 have e2:(2 ^ 24 * a + b * 2 ^ 16) ||| c * 2 ^ 8=2 ^ 16 * (256 * a + b) + c * 2 ^ 8:=by
  rw [show 2 ^ 24 * a + b * 2 ^ 16=2 ^ 16 * (256 * a + b) by omega,← Nat.two_pow_add_eq_or_of_lt (by omega)]
 have e3:(2 ^ 16 * (256 * a + b) + c * 2 ^ 8) ||| d=2 ^ 8 * (256 * (256 * a + b) + c) + d:=by
  rw [show 2 ^ 16 * (256 * a + b) + c * 2 ^ 8=2 ^ 8 * (256 * (256 * a + b) + c) by omega,← Nat.two_pow_add_eq_or_of_lt (by omega)]
 rw [e1,e2,e3]; omega
theorem qUQ (a b c d : UInt8) : (a.toUInt32 <<< UInt32.ofNat 24) ||| (b.toUInt32 <<< UInt32.ofNat 16) ||| (c.toUInt32 <<< UInt32.ofNat 8) ||| d.toUInt32
    = 16777216 * a.toUInt32 + 65536 * b.toUInt32 + 256 * c.toUInt32 + d.toUInt32:=by
 have ha:=a.toNat_lt; have hb:=b.toNat_lt; have hc:=c.toNat_lt; have hd:=d.toNat_lt
 apply UInt32.toNat_inj.1
 simp only [UInt32.toNat_or,UInt32.toNat_add,UInt32.toNat_mul,UInt32.toNat_shiftLeft,UInt8.toNat_toUInt32]
 show (((a.toNat <<< 24 % 4294967296) ||| (b.toNat <<< 16 % 4294967296)) ||| (c.toNat <<< 8 % 4294967296)) ||| d.toNat=_
 have l1:a.toNat <<< 24 % 4294967296=a.toNat <<< 24:=by rw [Nat.shiftLeft_eq]; exact Nat.mod_eq_of_lt (by omega)
 have l2:b.toNat <<< 16 % 4294967296=b.toNat <<< 16:=by rw [Nat.shiftLeft_eq]; exact Nat.mod_eq_of_lt (by omega)
 have l3:c.toNat <<< 8 % 4294967296=c.toNat <<< 8:=by rw [Nat.shiftLeft_eq]; exact Nat.mod_eq_of_lt (by omega)
 rw [l1,l2,l3,qTT hb hc hd]
 show _=(((16777216 * a.toNat % 4294967296 + 65536 * b.toNat % 4294967296) % 4294967296 + 256 * c.toNat % 4294967296) % 4294967296 + d.toNat) % 4294967296
 omega
abbrev lAt (l:List UInt32) (k:Nat):UInt32:=l.getD k 0
def qML (b:List UInt8) (k:Nat) (w:List UInt32):UInt32:=
 if k < 16 then (bAt b (4 * k) <<< UInt32.ofNat 24) ||| (bAt b (4 * k + 1) <<< UInt32.ofNat 16) ||| (bAt b (4 * k + 2) <<< UInt32.ofNat 8) ||| bAt b (4 * k + 3)
 else lAt w (k - 16) + (rot (lAt w (k - 15)) 7 ^^^ rot (lAt w (k - 15)) 18 ^^^ (lAt w (k - 15) >>> UInt32.ofNat 3)) + lAt w (k - 7) + (rot (lAt w (k - 2)) 17 ^^^ rot (lAt w (k - 2)) 19 ^^^ (lAt w (k - 2) >>> UInt32.ofNat 10))
def VN (b:List UInt8) (k:Nat) (w:List UInt32):List UInt32:=w++[qML b k w]
theorem qAN {l:List UInt32} {k j:Nat} (h:j < k):lAt (l.take k) j=l.getD j 0:=by
 unfold lAt
 simp [List.getD,List.getElem?_take,h]
theorem qR1 {b:List UInt8} {k:Nat} {w:Vector UInt32 64} (hk:k < 64):(qjF b k w).toList.take (k + 1)=VN b k (w.toList.take k):=by
 have hl:w.toList.length=64:=by simp
 have key:∀ x:UInt32,(w.setIfInBounds k x).toList.take (k + 1)=w.toList.take k++[x]:=fun x=>by
  rw [Vector.toList_setIfInBounds]
  rw [List.take_add_one]
  congr 1
  ·rw [List.take_set_of_le (Nat.le_refl k)]
  ·rw [List.getElem?_set_self (by omega)]; rfl
 unfold qjF VN qML
 by_cases h:k < 16
 ·rw [if_pos h,if_pos h,key]
 ·rw [if_neg h,if_neg h,key,qAN (by omega),qAN (by omega),qAN (by omega),qAN (by omega)]
  congr 2
  show wAt w (k - 16) + wAt w (k - 7) + _ + _=wAt w (k - 16) + _ + wAt w (k - 7) + _
  rw [UInt32.add_assoc (wAt w (k - 16)) (wAt w (k - 7)),UInt32.add_comm (wAt w (k - 7)),← UInt32.add_assoc (wAt w (k - 16))]
theorem qGI {b:List UInt8}:∀ (m k:Nat) (w:Vector UInt32 64),k + m≤64→(zZ (qjF b) m k w).toList.take (k + m)=zZ (VN b) m k (w.toList.take k)
 | 0,_,_,_=>rfl
 | m + 1,k,w,h=>by
  show (zZ (qjF b) m (k + 1) (qjF b k w)).toList.take (k + (m + 1))=zZ (VN b) m (k + 1) (VN b k (w.toList.take k))
  rw [← qR1 (by omega),← qGI m (k + 1) (qjF b k w) (by omega),show k + (m + 1)=k + 1 + m by omega]
theorem qB9 {σ:Type} {f:Nat→σ→σ}:∀ (m n k:Nat) (s:σ),zZ f (m + n) k s=zZ f n (k + m) (zZ f m k s)
 | 0,n,k,s=>by rw [Nat.zero_add]; rfl
 | m + 1,n,k,s=>by
  rw [show m + 1 + n=(m + n) + 1 by omega]
  show zZ f (m + n) (k + 1) (f k s)=zZ f n (k + (m + 1)) (zZ f m (k + 1) (f k s))
  rw [qB9 m n (k + 1),show k + 1 + m=k + (m + 1) by omega]
theorem qS8 {b:List UInt8}:(qr8 b).toList=zZ (VN b) 64 0 []:=by
 have h:=qGI (b:=b) 64 0 (Vector.replicate 64 0) (by omega)
 rw [List.take_zero] at h
 rw [← h,List.take_of_length_le (by simp)]
 rfl
theorem qF7 {b:List UInt8}:∀ (m k:Nat) (w:List UInt32),(zZ (VN b) m k w).length=w.length + m
 | 0,_,_=>rfl
 | m + 1,k,w=>by
  show (zZ (VN b) m (k + 1) (VN b k w)).length=_
  rw [qF7 m]; unfold VN; rw [List.length_append]; simp; omega
theorem qKk {w:List UInt32} {x:UInt32}:w.map c32++[c32 x]=(w++[x]).map c32:=by rw [List.map_append]; rfl
theorem qPL {w:List UInt32} {k:Nat} (h:k < w.length):jM (w.map c32) (w.map c32).length k=some (c32 (lAt w k)):=by
 rw [qUM (by rw [List.length_map]; exact h),List.getElem_map]
 simp [lAt,List.getD,List.getElem?_eq_getElem h]
theorem qSY {N : Nat} {b : List UInt8} {w : List UInt32} {k : Nat} (hb : b.length = 64) (hk : k < 16) (hw : w.length = k) :
    (Zk N b (w.map c32,(k:Int))).run some=some (.inl ((VN b k w).map c32,((k + 1:Nat):Int))):=by
 have g:∀ j < 4,qP b ((4:Int) * (k:Int) + ((j:Nat):Int))=some (b.getD (4 * k + j) 0):=fun j hj=>by
  rw [show (4:Int) * (k:Int) + ((j:Nat):Int)=((4 * k + j:Nat):Int) by omega]; exact zB (by omega)
 have g0:qP b ((4:Int) * (k:Int))=some (b.getD (4 * k) 0):=by have:=g 0 (by omega); simpa using this
 have g1:qP b ((4:Int) * (k:Int) + 1)=some (b.getD (4 * k + 1) 0):=g 1 (by omega)
 have g2:qP b ((4:Int) * (k:Int) + 2)=some (b.getD (4 * k + 2) 0):=g 2 (by omega)
 have g3:qP b ((4:Int) * (k:Int) + 3)=some (b.getD (4 * k + 3) 0):=g 3 (by omega)
 have c0:qj ((4:Int) * (k:Int)):=by unfold qj; omega
 have c1:qj ((4:Int) * (k:Int) + 1):=by unfold qj; omega
 have c2:qj ((4:Int) * (k:Int) + 2):=by unfold qj; omega
 have c3:qj ((4:Int) * (k:Int) + 3):=by unfold qj; omega
 have c4:qj ((k:Int) + 1):=by unfold qj; omega
 have d1:decide ((k:Int) < 16)=true:=decide_eq_true (by omega)
 have c5:∀ x:Int,jx (w.map c32).length (w.map c32).length (w.map c32++[x]).length 4:=fun x=>⟨rfl,by rw [List.length_append,List.length_map]; unfold zg; simp; omega⟩
 have m1:∀ x,ql9 .u32 (16777216:Int) (c32 x)=c32 (16777216 * x):=fun x=>qNc 16777216 x
 have m2:∀ x,ql9 .u32 (65536:Int) (c32 x)=c32 (65536 * x):=fun x=>qNc 65536 x
 have m3:∀ x,ql9 .u32 (256:Int) (c32 x)=c32 (256 * x):=fun x=>qNc 256 x
 unfold Zk VN qML
 rw [if_pos hk,qUQ,qG,d1,cond_true]
 simp only [run_bind,qM,qS]
 rw [qi c0,g0,Option.bind_some,qi c0,qi c1,g1,Option.bind_some,qi c0,qi c2,g2,Option.bind_some,qi c0,qi c3,g3,Option.bind_some]
 rw [qvh,qvh,qvh,qvh,m1,m2,m3,WS,WS,WS,qi (c5 _),qi c4,qZ,qKk]
theorem qRF {N : Nat} {b : List UInt8} {w : List UInt32} {k : Nat} (h1 : ¬ k < 16) (hk : k < 64) (hw : w.length = k) :
    (Zj N (w.map c32,(k:Int))).run some=some (.inl ((VN b k w).map c32,((k + 1:Nat):Int))):=by
 have c4:qj ((k:Int) + 1):=by unfold qj; omega
 have d1:decide ((k:Int) < 64)=true:=decide_eq_true (by omega)
 have e15:(k:Int) - 15=((k - 15:Nat):Int):=by omega
 have e2:(k:Int) - 2=((k - 2:Nat):Int):=by omega
 have e16:(k:Int) - 16=((k - 16:Nat):Int):=by omega
 have e7:(k:Int) - 7=((k - 7:Nat):Int):=by omega
 have i:∀ j:Nat,j < 64→qj ((j:Nat):Int):=fun j h=>by unfold qj; omega
 have p:∀ j:Nat,j < k→(0:Int)≤((j:Nat):Int)∧((j:Nat):Int) < (((w.map c32).length:Nat):Int):=fun j h=>by rw [List.length_map]; omega
 have gg:∀ j:Nat,j < k→jM (w.map c32) (w.map c32).length ((j:Nat):Int).toNat=some (c32 (lAt w j)):=fun j h=>by rw [Int.toNat_natCast]; exact qPL (by omega)
 have p3:(0:Int)≤3:=by omega
 have p10:(0:Int)≤10:=by omega
 have c5:∀ x:Int,jx (w.map c32).length (w.map c32).length (w.map c32++[x]).length 4:=fun x=>⟨rfl,by rw [List.length_append,List.length_map]; unfold zg; simp; omega⟩
 unfold Zj VN qML
 rw [if_neg h1,qG,d1,cond_true]
 simp only [run_bind,qM,qS]
 rw [e15,e2,e16,e7]
 rw [qi (i _ (by omega)),qi (p _ (by omega)),gg _ (by omega),Option.bind_some,qi (i _ (by omega)),qi (p _ (by omega)),gg _ (by omega),Option.bind_some]
 show (Option.bind (zc (c32 (lAt w (k - 15))) ((7:Nat):Int)) _)=_
 rw [Qs _ 7 (by omega) (by omega),Option.bind_some]
 show (Option.bind (zc (c32 (lAt w (k - 15))) ((18:Nat):Int)) _)=_
 rw [Qs _ 18 (by omega) (by omega),Option.bind_some,qi p3]
 show (Option.bind (zc (c32 (lAt w (k - 2))) ((17:Nat):Int)) _)=_
 rw [Qs _ 17 (by omega) (by omega),Option.bind_some]
 show (Option.bind (zc (c32 (lAt w (k - 2))) ((19:Nat):Int)) _)=_
 rw [Qs _ 19 (by omega) (by omega),Option.bind_some,qi p10]
 rw [qi (i _ (by omega)),qi (p _ (by omega)),gg _ (by omega),Option.bind_some,qi (i _ (by omega)),qi (p _ (by omega)),gg _ (by omega),Option.bind_some]
 rw [qfs,qfs,qrV _ 3 (by omega),qrV _ 10 (by omega),qfs,qfs,WS,WS,WS,qi (c5 _),qi c4,qZ,qKk]
theorem qRq {N:Nat} {b:List UInt8} (hN:64 < N) (hb:b.length=64):Yu N b=some ((qr8 b).toList.map c32):=by
 have k1:Jp N b [] 0=some ((zZ (VN b) 16 0 []).map c32,(16:Int),false):=by
  refine (jW (σ:=List UInt32) (B:=Zk N b) (g:=some) (at_:=fun k s=>(s.map c32,(k:Int))) (I:=fun k s=>s.length=k) (f:=VN b) (n:=16)
   (fin:=fun s=>(s.map c32,(16:Int),false)) (fun k s hk hs=>⟨qSY hb hk hs,?_⟩) (fun s _=>?_) N 0 [] rfl (Nat.zero_le _) (by omega))
  ·unfold VN; rw [List.length_append,hs]; rfl
  ·unfold Zk
   rfl
 have k2:KG N ((zZ (VN b) 16 0 []).map c32) 16=some ((zZ (VN b) 64 0 []).map c32,(64:Int),false):=by
  rw [show zZ (VN b) 64 0 []=zZ (VN b) 48 16 (zZ (VN b) 16 0 []) from qB9 16 48 0 []]
  refine (jW (σ:=List UInt32) (B:=Zj N) (g:=some) (at_:=fun k s=>(s.map c32,(k:Int))) (I:=fun k s=>16≤k∧s.length=k) (f:=VN b) (n:=64)
   (fin:=fun s=>(s.map c32,(64:Int),false)) (fun k s hk hs=>⟨qRF (by omega) hk hs.2,by omega,?_⟩) (fun s _=>?_) N 16 (zZ (VN b) 16 0 []) ⟨by omega,qF7 16 0 []⟩ (by omega) (by omega))
  ·unfold VN; rw [List.length_append,hs.2]; rfl
  ·unfold Zj
   rfl
 unfold Yu K3
 generalize zZ (VN b) 16 0 []=q0 at k1 k2
 rw [run_bind,show ju [(([]:List Int).length,0)] (Jp N b [] 0)=Jp N b [] 0 from (zU rfl).trans (qEk _),k1,Option.bind_some]
 dsimp only
 rw [run_bind,qdb,k2,Option.bind_some]
 rw [qS8]
 generalize List.map c32 (zZ (VN b) 64 0 [])=q
 exact qi rfl
end Go.Rx
end
set_option maxRecDepth 100000
noncomputable section
namespace Go.Rx
open Go.Proofs
theorem qU7 (x:Vector UInt32 8):∃ a b c d e f g h,x=#v[a,b,c,d,e,f,g,h]:=by
 obtain ⟨⟨l⟩,hl⟩:=x
 match l,hl with
 | [a,b,c,d,e,f,g,h],_=>exact ⟨a,b,c,d,e,f,g,h,rfl⟩
theorem qV5 (e f g:UInt32):(e &&& f) ||| (~~~e &&& g)=(e &&& f) ^^^ (~~~e &&& g):=by
 apply UInt32.toBitVec_inj.1
 apply BitVec.eq_of_getLsbD_eq
 intro i hi
 simp
 cases e.toBitVec.getLsbD i<;>cases f.toBitVec.getLsbD i<;>cases g.toBitVec.getLsbD i<;>simp [hi]
theorem qU_ (a b c:UInt32):(a &&& b) ||| (a &&& c) ||| (b &&& c)=(a &&& b) ^^^ (a &&& c) ^^^ (b &&& c):=by
 apply UInt32.toBitVec_inj.1
 apply BitVec.eq_of_getLsbD_eq
 intro i hi
 simp
 cases a.toBitVec.getLsbD i<;>cases b.toBitVec.getLsbD i<;>cases c.toBitVec.getLsbD i<;>simp
def tG (K w e f g h:UInt32):UInt32:=h + (rot e 6 ^^^ rot e 11 ^^^ rot e 25) + ((e &&& f) ||| (~~~e &&& g)) + K + w
def uG (a b c:UInt32):UInt32:=(rot a 2 ^^^ rot a 13 ^^^ rot a 22) + ((a &&& b) ||| (a &&& c) ||| (b &&& c))
theorem qHJ {K w : Vector UInt32 64} {i : Nat} {a b c d e f g h : UInt32} : qig K w i #v[a, b, c, d, e, f, g, h] =
    #v[tG (wAt K i) (wAt w i) e f g h + uG a b c,a,b,c,d + tG (wAt K i) (wAt w i) e f g h,e,f,g]:=by
 unfold qig tW uW tG uG
 rw [qV5,qU_]
 rfl
abbrev L8 (a b c d e f g h:UInt32):List Int:=[c32 a,c32 b,c32 c,c32 d,c32 e,c32 f,c32 g,c32 h]
abbrev m8 (x:Vector UInt32 8):List Int:=x.toList.map c32
theorem quh {w:List UInt32} {k:Nat} (h:k < w.length):qP (w.map c32) ((k:Nat):Int)=some (c32 (lAt w k)):=by
 rw [zB (d:=0) (by rw [List.length_map]; exact h)]
 simp [lAt,List.getD,List.getElem?_eq_getElem h]
theorem qU1:qdo=some ():=rfl
abbrev kL:List Int:=[1116352408,1899447441,3049323471,3921009573,961987163,1508970993,2453635748,2870763221,3624381080,310598401,607225278,1426881987,1925078388,2162078206,2614888103,3248222580,3835390401,4022224774,264347078,604807628,770255983,1249150122,1555081692,1996064986,2554220882,2821834349,2952996808,3210313671,3336571891,3584528711,113926993,338241895,666307205,773529912,1294757372,1396182291,1695183700,1986661051,2177026350,2456956037,2730485921,2820302411,3259730800,3345764771,3516065817,3600352804,4094571909,275423344,430227734,506948616,659060556,883997877,958139571,1322822218,1537002063,1747873779,1955562222,2024104815,2227730452,2361852424,2428436474,2756734187,3204031479,3329325298]
theorem qTB:kL=qeh.toList.map c32:=rfl
theorem qUG {N : Nat} {o1 o2 : List Int} {o3 : Vector UInt8 32} {n : Nat} {l : List UInt8} {at_ : Int} {w : Vector UInt32 64} {x : Vector UInt32 8} {k : Nat} (hk : k < 64) :
    (j8 N o1 o2 o3 n l at_ (w.toList.map c32) (m8 x,(k:Int))).run some=some (.inl (m8 (qig qeh w k x),((k + 1:Nat):Int))):=by
 obtain ⟨a,b,c,d,e,f,g,h,rfl⟩:=qU7 x
 have c4:qj ((k:Int) + 1):=by unfold qj; omega
 have d1:decide ((k:Int) < 64)=true:=decide_eq_true (by omega)
 have gk:qP kL (k:Int)=some (c32 (wAt qeh k)):=by rw [qTB]; exact quh (by simpa using hk)
 have gw:qP (w.toList.map c32) (k:Int)=some (c32 (wAt w k)):=quh (by simpa using hk)
 rw [qHJ]
 show (j8 N o1 o2 o3 n l at_ (w.toList.map c32) (L8 a b c d e f g h,(k:Int))).run some=some (.inl (L8 _ a b c _ e f g,((k + 1:Nat):Int)))
 have g0:qP (L8 a b c d e f g h) 0=some (c32 a):=rfl
 have g1:qP (L8 a b c d e f g h) 1=some (c32 b):=rfl
 have g2:qP (L8 a b c d e f g h) 2=some (c32 c):=rfl
 have g3:qP (L8 a b c d e f g h) 3=some (c32 d):=rfl
 have g4:qP (L8 a b c d e f g h) 4=some (c32 e):=rfl
 have g5:qP (L8 a b c d e f g h) 5=some (c32 f):=rfl
 have g6:qP (L8 a b c d e f g h) 6=some (c32 g):=rfl
 have g7:qP (L8 a b c d e f g h) 7=some (c32 h):=rfl
 have t6:=fun x=>Qs x 6 (by omega) (by omega)
 have t11:=fun x=>Qs x 11 (by omega) (by omega)
 have t25:=fun x=>Qs x 25 (by omega) (by omega)
 have t2:=fun x=>Qs x 2 (by omega) (by omega)
 have t13:=fun x=>Qs x 13 (by omega) (by omega)
 have t22:=fun x=>Qs x 22 (by omega) (by omega)
 unfold j8 tG uG
 rw [qG,d1,cond_true,run_bind,g4,Option.bind_some,run_bind,g0,Option.bind_some,run_bind,g7,Option.bind_some,run_bind]
 refine (congrArg (fun o=>Option.bind o _) (t6 e)).trans ?_
 rw [Option.bind_some,run_bind]
 refine (congrArg (fun o=>Option.bind o _) (t11 e)).trans ?_
 rw [Option.bind_some,run_bind]
 refine (congrArg (fun o=>Option.bind o _) (t25 e)).trans ?_
 rw [Option.bind_some,run_bind,g5,Option.bind_some,run_bind,g6,Option.bind_some,run_bind,qU1,Option.bind_some,run_bind,gk,Option.bind_some,run_bind,gw,Option.bind_some,run_bind]
 refine (congrArg (fun o=>Option.bind o _) (t2 a)).trans ?_
 rw [Option.bind_some,run_bind]
 refine (congrArg (fun o=>Option.bind o _) (t13 a)).trans ?_
 rw [Option.bind_some,run_bind]
 refine (congrArg (fun o=>Option.bind o _) (t22 a)).trans ?_
 rw [Option.bind_some,run_bind,g1,Option.bind_some,run_bind,g2,Option.bind_some,run_bind,Option.bind_some,run_bind,Option.bind_some,run_bind,Option.bind_some,run_bind,Option.bind_some,run_bind,g3,Option.bind_some,run_bind,Option.bind_some,run_bind,Option.bind_some,qM,qi c4,qS,qZ]
 rw [qfs,qfs,qfs,qfs,qTD,qr5,qr5,qz2,WS,WS,WS,WS,qr5,qr5,qr5,qz2,qz2,WS,WS,WS]
theorem qUw {N : Nat} {o1 : List Int} {o3 : Vector UInt8 32} {n : Nat} {l : List UInt8} {at_ : Int} {w : Vector UInt32 64} {x : Vector UInt32 8} :
    (JJ N o1 (m8 x) o3 n l at_ (w.toList.map c32) ()).run some=some (.inr (.inl (m8 (qig qeh w 0 x),1))):=by
 obtain ⟨a,b,c,d,e,f,g,h,rfl⟩:=qU7 x
 have gk:qP kL 0=some (c32 (wAt qeh 0)):=by rw [qTB]; exact quh (by simp)
 have gw:qP (w.toList.map c32) 0=some (c32 (wAt w 0)):=quh (by simp)
 rw [qHJ]
 show (JJ N o1 (L8 a b c d e f g h) o3 n l at_ (w.toList.map c32) ()).run some=some (.inr (.inl (L8 _ a b c _ e f g,1)))
 have hl:(((L8 a b c d e f g h).length:Nat):Int)=8:=rfl
 have g0:jM (L8 a b c d e f g h) (L8 a b c d e f g h).length 0=some (c32 a):=rfl
 have g1:jM (L8 a b c d e f g h) (L8 a b c d e f g h).length 1=some (c32 b):=rfl
 have g2:jM (L8 a b c d e f g h) (L8 a b c d e f g h).length 2=some (c32 c):=rfl
 have g3:jM (L8 a b c d e f g h) (L8 a b c d e f g h).length 3=some (c32 d):=rfl
 have g4:jM (L8 a b c d e f g h) (L8 a b c d e f g h).length 4=some (c32 e):=rfl
 have g5:jM (L8 a b c d e f g h) (L8 a b c d e f g h).length 5=some (c32 f):=rfl
 have g6:jM (L8 a b c d e f g h) (L8 a b c d e f g h).length 6=some (c32 g):=rfl
 have g7:jM (L8 a b c d e f g h) (L8 a b c d e f g h).length 7=some (c32 h):=rfl
 have j:∀ m:Int,0≤m∧m < 8→0≤m∧m < (((L8 a b c d e f g h).length:Nat):Int):=fun m h=>h
 have j0:=j 0 (by omega); have j1:=j 1 (by omega); have j2:=j 2 (by omega); have j3:=j 3 (by omega)
 have j4:=j 4 (by omega); have j5:=j 5 (by omega); have j6:=j 6 (by omega); have j7:=j 7 (by omega)
 have t6:=fun x=>Qs x 6 (by omega) (by omega)
 have t11:=fun x=>Qs x 11 (by omega) (by omega)
 have t25:=fun x=>Qs x 25 (by omega) (by omega)
 have t2:=fun x=>Qs x 2 (by omega) (by omega)
 have t13:=fun x=>Qs x 13 (by omega) (by omega)
 have t22:=fun x=>Qs x 22 (by omega) (by omega)
 unfold JJ tG uG
 simp only [run_bind,qM,qS]
 rw [qi j4,g4,Option.bind_some,qi j0,g0,Option.bind_some,qi j7,g7,Option.bind_some]
 refine (congrArg (fun o=>Option.bind o _) (t6 e)).trans ?_
 rw [Option.bind_some]
 refine (congrArg (fun o=>Option.bind o _) (t11 e)).trans ?_
 rw [Option.bind_some]
 refine (congrArg (fun o=>Option.bind o _) (t25 e)).trans ?_
 rw [Option.bind_some,qi j5,g5,Option.bind_some,qi j6,g6,Option.bind_some,qU1,Option.bind_some,gk,Option.bind_some,gw,Option.bind_some]
 refine (congrArg (fun o=>Option.bind o _) (t2 a)).trans ?_
 rw [Option.bind_some]
 refine (congrArg (fun o=>Option.bind o _) (t13 a)).trans ?_
 rw [Option.bind_some]
 refine (congrArg (fun o=>Option.bind o _) (t22 a)).trans ?_
 rw [Option.bind_some,qi j1,g1,Option.bind_some,qi j2,g2,Option.bind_some,qi j1,Option.bind_some,qi j2,Option.bind_some,qi j1,Option.bind_some,qi j2,Option.bind_some,qi j3,g3,Option.bind_some,qi j5,Option.bind_some,qi j6,Option.bind_some]
 simp only [qfs,qr5,qTD,qz2,WS]
theorem qPZ {N : Nat} {o1 : List Int} {o3 : Vector UInt8 32} {n : Nat} {l : List UInt8} {at_ : Int} {w : Vector UInt32 64} {x : Vector UInt32 8} (hN : 64 < N) :
    WU N o1 (m8 x) o3 n l at_ (w.toList.map c32)=some (m8 (zZ (qig qeh w) 64 0 x),(64:Int),false):=by
 obtain ⟨N',rfl⟩:∃ N',N=N' + 1:=⟨N - 1,by omega⟩
 have e:WU (N' + 1) o1 (m8 x) o3 n l at_ (w.toList.map c32)=qQ (JJ (N' + 1) o1 (m8 x) o3 n l at_ (w.toList.map c32)) (KK (N' + 1) (N' + 1) (o1,m8 x,o3,n,l,at_,w.toList.map c32)) (N' + 1) ():=rfl
 rw [e,zh qUw]
 show qQ (j8 (N' + 1) o1 (m8 x) o3 n l at_ (w.toList.map c32)) some (N' + 1) (m8 (qig qeh w 0 x),((1:Nat):Int))=_
 refine (jW (σ:=Vector UInt32 8) (B:=j8 (N' + 1) o1 (m8 x) o3 n l at_ (w.toList.map c32)) (g:=some) (at_:=fun k s=>(m8 s,(k:Int))) (I:=fun _ _=>True) (f:=qig qeh w) (n:=64)
  (fin:=fun s=>(m8 s,(64:Int),false)) (fun k s hk _=>⟨qUG hk,trivial⟩) (fun s _=>?_) (N' + 1) 1 (qig qeh w 0 x) trivial (by omega) (by omega)).trans rfl
 unfold j8
 rfl
end Go.Rx
end
set_option maxRecDepth 100000
noncomputable section
namespace Go.Rx
open Go.Proofs
theorem qLm (x:Vector UInt32 8):(m8 x).length=8:=by simp [m8]
theorem qUK {N:Nat} {b:List UInt8} (hb:b.length≤1000000000) (hN:64 < N):Vo N b (b++[128])=some (b++[128]++List.replicate (Zo b.length) 0,false):=by
 have hz:Zo b.length < 64:=Nat.mod_lt _ (by omega)
 have h56:(b.length + 1 + Zo b.length) % 64=56:=by unfold Zo; omega
 have hlen:∀ k,(b++[128]++List.replicate k (0:UInt8)).length=b.length + 1 + k:=fun k=>by simp; omega
 have hne:∀ k,k < Zo b.length→(b.length + 1 + k) % 64≠56:=fun k hk=>by unfold Zo at *; omega
 have e0:Vo N b (b++[128])=qQ (Qy N b) some N (b++[128]++List.replicate 0 (0:UInt8)):=by rw [List.replicate_zero,List.append_nil]; rfl
 rw [e0]
 refine (jW (σ:=Unit) (B:=Qy N b) (g:=some) (at_:=fun k _=>b++[128]++List.replicate k (0:UInt8)) (I:=fun _ _=>True) (f:=fun _ s=>s) (n:=Zo b.length)
  (fin:=fun _=>(b++[128]++List.replicate (Zo b.length) 0,false)) (fun k s hk _=>⟨?_,trivial⟩) (fun s _=>?_) N 0 () trivial (Nat.zero_le _) (by omega))
 ·unfold Qy
  have c1:(64:Int)≠0:=by omega
  have e:decide ((((b++[128]++List.replicate k (0:UInt8)).length:Nat):Int).tmod 64=56)=false:=decide_eq_false (by
   rw [hlen]
   have:=hne k hk
   show ¬ (((b.length + 1 + k) % 64:Nat):Int)=56
   omega)
  have c2:jx (b++[128]++List.replicate k (0:UInt8)).length (b++[128]++List.replicate k (0:UInt8)).length ((b++[128]++List.replicate k (0:UInt8))++[UInt8.ofNat 0]).length 1:=qxh (by rw [List.length_append,hlen]; simp; omega)
  rw [qM,qi c1,qG,e,Bool.not_false,cond_true,qM,qi c2,qS]
  rw [List.replicate_succ',← List.append_assoc]
  rfl
 ·unfold Qy
  have c1:(64:Int)≠0:=by omega
  have e:decide ((((b++[128]++List.replicate (Zo b.length) (0:UInt8)).length:Nat):Int).tmod 64=56)=true:=decide_eq_true (by
   rw [hlen]
   show (((b.length + 1 + Zo b.length) % 64:Nat):Int)=56
   omega)
  rw [qM,qi c1,qG,e,Bool.not_true,cond_false,qS]
def plc (k:Nat):Nat:=if k < 8 then 256 ^ (7 - k) else 0
theorem qxa {n:Nat} (h:n < 18446744073709551616):IntKind.u64.wrap ((n:Nat):Int)=((n:Nat):Int):=by
 have:IntKind.u64.wrap ((n:Nat):Int)=((n:Nat):Int) % 18446744073709551616:=by simp [IntKind.wrap,IntKind.bits,IntKind.signed]
 rw [this]; omega
theorem qUR {L k:Nat} (hL:L≤1000000000) (hk:k < 8):qy6 L k=UInt8.ofNat (8 * L / 256 ^ (7 - k) % 256):=by
 unfold qy6 ql9
 rw [qxa (by omega),show ((L:Nat):Int) * 8=((8 * L:Nat):Int) by omega,qxa (by omega),show (min ((8:Int) * ((7:Int) - (k:Int))).toNat 64)=8 * (7 - k) by omega,qUq,qFX,Int.toNat_natCast]
 rw [Nat.pow_mul]
theorem qQZ {L k:Nat} (hL:L≤1000000000) (hk:k < 8):UInt8.ofNat (IntKind.u8.wrap ((IntKind.u64.wrap ((((8 * L:Nat):Int)).tdiv ((plc k:Nat):Int))).tmod 256)).toNat=qy6 L k:=by
 rw [qUR hL hk,qzb,qxa (Nat.lt_of_le_of_lt (Nat.div_le_self _ _) (by omega))]
 show UInt8.ofNat (IntKind.u8.wrap (((8 * L / plc k % 256:Nat):Int))).toNat=_
 rw [qFX,Int.toNat_natCast,Nat.mod_mod]
 unfold plc
 rw [if_pos hk]
theorem qSa {k:Nat} (hk:k < 8):IntKind.u64.wrap ((((plc k:Nat):Int)).tdiv 256)=((plc (k + 1):Nat):Int):=by
 have:∀ k < 8,IntKind.u64.wrap ((((plc k:Nat):Int)).tdiv 256)=((plc (k + 1):Nat):Int):=by decide
 exact this k hk
theorem qVI {k:Nat} (hk:k < 8):((plc k:Nat):Int)≠0:=by
 have:∀ k < 8,((plc k:Nat):Int)≠0:=by decide
 exact this k hk
theorem qTi {N L:Nat} {l:List UInt8} (hL:L≤1000000000) (hl:l.length≤1500000000) (hN:64 < N):W4 N ((8 * L:Nat):Int) l 72057594037927936 0=some (zZ (qiv L) 8 0 l,(0:Int),(8:Int),false):=by
 refine (jW (σ:=List UInt8) (B:=JT N ((8 * L:Nat):Int)) (g:=some) (at_:=fun k s=>(s,((plc k:Nat):Int),(k:Int))) (I:=fun k s=>s.length=l.length + k) (f:=qiv L) (n:=8)
  (fin:=fun s=>(s,(0:Int),(8:Int),false)) (fun k s hk hs=>⟨?_,?_⟩) (fun s _=>?_) N 0 l rfl (Nat.zero_le _) (by omega))
 ·have d1:decide ((k:Int) < 8)=true:=decide_eq_true (by omega)
  have p256:(256:Int)≠0:=by omega
  have c4:qj ((k:Int) + 1):=by unfold qj; omega
  have c5:jx s.length s.length (s++[qy6 L k]).length 1:=qxh (by rw [List.length_append,hs]; simp; omega)
  unfold JT
  rw [qG,d1,cond_true,qM,qi (qVI hk),qM,qi p256]
  dsimp only
  rw [qM,qi (qru _),qQZ hL hk,qM,qi c5,qM,qi p256,qM,qi c4,qS,qSa hk,qZ]
  rfl
 ·unfold qiv; rw [List.length_append,hs]; simp; omega
 ·unfold JT
  rfl
theorem qNd {N:Nat} {b:List UInt8} (hb:b.length≤1000000000) (hN:64 < N):Wd N b=some (qj2 b):=by
 have c0:qj9 b.length 1:=by unfold qj9 zg; omega
 have c1:jx b.length b.length (b++[UInt8.ofNat 128]).length 1:=qxh (by rw [List.length_append]; simp; omega)
 have c2:qj (((8:Int)) * ((b.length:Nat):Int)):=by unfold qj; omega
 have e8:IntKind.u64.wrap (((8:Int)) * ((b.length:Nat):Int))=((8 * b.length:Nat):Int):=by
  rw [show (8:Int) * ((b.length:Nat):Int)=((8 * b.length:Nat):Int) by omega,qxa (by omega)]
 have hlen:=qTi (N:=N) (L:=b.length) (l:=b++[128]++List.replicate (Zo b.length) 0) hb (by have:Zo b.length < 64:=Nat.mod_lt _ (by omega); simp; omega) hN
 have e1:b++[UInt8.ofNat 128]=b++[128]:=rfl
 unfold Wd YN
 rw [qM,qi c0,qM,qi c1,run_bind,qdb,e1,qUK hb hN,Option.bind_some]
 dsimp only
 rw [qM,qi c2,e8,run_bind,qdb,hlen,Option.bind_some]
 unfold qj2
 generalize zZ (qiv b.length) 8 0 (b++[128]++List.replicate (Zo b.length) 0)=q
 exact qi rfl
theorem qVN {x:Vector UInt32 8} {k:Nat} {y:UInt32}:(m8 x).set k (c32 y)=m8 (x.setIfInBounds k y):=by
 unfold m8
 rw [Vector.toList_setIfInBounds,List.map_set]
theorem qKV {x:Vector UInt32 8} {k:Nat} (hk:k < 8):jM (m8 x) 8 k=some (c32 (wAt x k)):=by
 have h:=qPL (w:=x.toList) (k:=k) (by simpa using hk)
 rw [show (List.map c32 x.toList).length=8 from qLm x] at h
 exact h
theorem qUA {x:Vector UInt32 8} {k:Nat} (hk:k < 8):qP (m8 x) ((k:Nat):Int)=some (c32 (wAt x k)):=quh (by simpa using hk)
theorem qTS {N : Nat} {o : Vector UInt8 32} {l : List UInt8} {at_ : Int} {x s : Vector UInt32 8} (hN : 64 < N) :
    KX N o 8 l at_ (m8 x) (m8 s) 0=some (m8 (zZ (qAs x) 8 0 s),(8:Int),false):=by
 refine (jW (σ:=Vector UInt32 8) (B:=V2 N o 8 l at_ (m8 x)) (g:=some) (at_:=fun k s=>(m8 s,(k:Int))) (I:=fun _ _=>True) (f:=qAs x) (n:=8)
  (fin:=fun s=>(m8 s,(8:Int),false)) (fun k y hk _=>⟨?_,trivial⟩) (fun y _=>?_) N 0 s trivial (Nat.zero_le _) (by omega))
 ·have c4:qj ((k:Int) + 1):=by unfold qj; omega
  have d1:decide ((k:Int) < 8)=true:=decide_eq_true (by omega)
  have pk:(0:Int)≤(k:Int)∧(k:Int) < ((8:Nat):Int):=by omega
  have hv:qiI (m8 y).length 8 (k:Int).toNat:=⟨qLm y,by rw [Int.toNat_natCast]; exact hk⟩
  have gv:jM (m8 y) 8 (k:Int).toNat=some (c32 (wAt y k)):=by rw [Int.toNat_natCast]; exact qKV hk
  unfold V2 qAs
  rw [qG,d1,cond_true,qM,qi pk,run_bind,gv,Option.bind_some,run_bind,qUA hk,Option.bind_some,qM,qi pk,qM,qi hv,qM,qi c4,qS,WS,Int.toNat_natCast,qVN,qZ]
 ·unfold V2
  rfl
def chG (l:List UInt8) (k:Nat) (s:Vector UInt32 8):Vector UInt32 8:=qrI s qeh ((l.take (64 * k + 64)).drop (64 * k))
theorem qTx {l:List UInt8}:∀ (m k:Nat) (s:Vector UInt32 8),chF qeh m s (l.drop (64 * k))=zZ (chG l) m k s
 | 0,_,_=>rfl
 | m + 1,k,s=>by
  show chF qeh m (qrI s qeh ((l.drop (64 * k)).take 64)) ((l.drop (64 * k)).drop 64)=zZ (chG l) m (k + 1) (chG l k s)
  rw [← qTx m (k + 1),List.drop_drop,show 64 * k + 64=64 * (k + 1) by omega]
  unfold chG
  rw [List.drop_take,show 64 * k + 64 - 64 * k=64 by omega]
theorem qMU {N m : Nat} {o : Vector UInt8 32} {l : List UInt8} {s : Vector UInt32 8} (hl : l.length = 64 * m) (hb : l.length ≤ 2000000000) (hN : 64 < N) (hm : m < N) :
    qbB N o 8 l (m8 s) 0=some (m8 (chF qeh m s l),((64 * m:Nat):Int),false):=by
 have e0:chF qeh m s l=zZ (chG l) m 0 s:=by rw [← qTx m 0 s]; rfl
 rw [e0]
 refine (jW (σ:=Vector UInt32 8) (B:=XM N o 8 l) (g:=some) (at_:=fun k s=>(m8 s,((64 * k:Nat):Int))) (I:=fun _ _=>True) (f:=chG l) (n:=m)
  (fin:=fun s=>(m8 s,((64 * m:Nat):Int),false)) (fun k y hk _=>⟨?_,trivial⟩) (fun y _=>?_) N 0 s trivial (Nat.zero_le _) (by omega))
 ·have d1:decide (((64 * k:Nat):Int) < ((l.length:Nat):Int))=true:=decide_eq_true (by omega)
  have e64:((64 * k:Nat):Int) + 64=((64 * k + 64:Nat):Int):=by omega
  have c1:qj (((64 * k:Nat):Int) + 64):=by unfold qj; omega
  have c2:(0:Int)≤((64 * k:Nat):Int)∧((64 * k:Nat):Int)≤((64 * k:Nat):Int) + 64∧((64 * k:Nat):Int) + 64≤((l.length:Nat):Int):=by omega
  have c3:(m8 y).length=8:=qLm y
  have c4:qj9 (m8 y).length 4:=by rw [qLm]; unfold qj9 zg; omega
  have et:(l.take (((64 * k:Nat):Int) + 64).toNat).drop ((64 * k:Nat):Int).toNat=(l.take (64 * k + 64)).drop (64 * k):=by
   rw [e64,Int.toNat_natCast,Int.toNat_natCast]
  have hlen:((l.take (64 * k + 64)).drop (64 * k)).length=64:=by rw [List.length_drop,List.length_take]; omega
  unfold XM chG qrI
  rw [show 64 * (k + 1)=64 * k + 64 by omega]
  rw [qG,d1,cond_true,qM,qi c1,qM,qi c2,run_bind,et,qRq hN hlen,Option.bind_some,qM,qi c3,qM,qi c4,run_bind,qdb,qPZ hN,Option.bind_some]
  dsimp only
  rw [run_bind,qTS hN,Option.bind_some,qM,qi c1,qS,e64]
 ·have d1:decide (((64 * m:Nat):Int) < ((l.length:Nat):Int))=false:=decide_eq_false (by omega)
  unfold XM
  rw [qG,d1,cond_false,qS]
theorem qGV {N : Nat} {o : List Int} {o2 o3 : Vector UInt8 32} {n3 : Nat} {s : Int} (hN : 64 < N) : ∀ (d n y : Nat), d ≤ 3 → d < n → y < 4294967296 →
    qQ (Xf N o o2 o3 n3 s) some n (((y:Nat):Int),((3 - d:Nat):Int))=some (((y / 256 ^ d:Nat):Int),(3:Int),false)
 | 0,n + 1,y,_,_,_=>by
  refine (zh (x:=(((y:Nat):Int),(3:Int),false)) (by unfold Xf; rfl) n).trans ?_
  rw [Nat.pow_zero,Nat.div_one]
 | d + 1,n + 1,y,hd,hn,hy=>by
  have d1:decide (((3 - (d + 1):Nat):Int) < 3)=true:=decide_eq_true (by omega)
  have p256:(256:Int)≠0:=by omega
  have c1:qj (((3 - (d + 1):Nat):Int) + 1):=by unfold qj; omega
  have e1:((3 - (d + 1):Nat):Int) + 1=((3 - d:Nat):Int):=by omega
  have e2:IntKind.u32.wrap ((((y:Nat):Int)).tdiv 256)=((y / 256:Nat):Int):=by
   show IntKind.u32.wrap (((y / 256:Nat):Int))=_
   rw [qct,Nat.mod_eq_of_lt (by omega)]
  rw [vM (v':=(((y / 256:Nat):Int),((3 - d:Nat):Int))) (by
   unfold Xf
   rw [qG,d1,cond_true,qM,qi p256,qM,qi c1,qS,e1,e2]) n]
  rw [qGV hN d n (y / 256) (by omega) (by omega) (by omega),Nat.div_div_eq_div_mul,Nat.pow_succ,Nat.mul_comm 256]
theorem qTY {N:Nat} {o:Vector UInt8 32} {s:Vector UInt32 8} (hN:64 < N):qaG N (m8 s) o 8 (Vector.replicate 32 0) 0=some (qSM s,(32:Int),false):=by
 refine (jW (σ:=Vector UInt8 32) (B:=Xi N (m8 s) o 8) (g:=some) (at_:=fun k s=>(s,(k:Int))) (I:=fun _ _=>True) (f:=qIS s) (n:=32)
  (fin:=fun s=>(s,(32:Int),false)) (fun k x hk _=>⟨?_,trivial⟩) (fun x _=>?_) N 0 (Vector.replicate 32 0) trivial (Nat.zero_le _) (by omega))
 ·have d1:decide ((k:Int) < 32)=true:=decide_eq_true (by omega)
  have e1:(k:Int).tdiv 4=((k / 4:Nat):Int):=qzb k 4
  have e2:(k:Int).tmod 4=((k % 4:Nat):Int):=qIq k 4
  have h4:(4:Int)≠0:=by omega
  have p256:(256:Int)≠0:=by omega
  have c1:qj (((k / 4:Nat)):Int):=by unfold qj; omega
  have c2:(0:Int)≤((k / 4:Nat):Int)∧((k / 4:Nat):Int) < ((8:Nat):Int):=by omega
  have c7:(0:Int)≤(k:Int)∧(k:Int) < ((32:Nat):Int):=by omega
  have c8:qj ((k:Int) + 1):=by unfold qj; omega
  have c9:(k:Int).toNat < 32:=by rw [Int.toNat_natCast]; exact hk
  have hl:qat N (m8 s) o x 8 (k:Int) (c32 (wAt s (k / 4))) ((k % 4:Nat):Int)=some ((((wAt s (k / 4)).toNat / 256 ^ (3 - k % 4):Nat):Int),(3:Int),false):=by
   have:=qGV (N:=N) (o:=m8 s) (o2:=o) (o3:=x) (n3:=8) (s:=(k:Int)) hN (3 - k % 4) N (wAt s (k / 4)).toNat (by omega) (by omega) (qGl _)
   rw [show 3 - (3 - k % 4)=k % 4 by omega] at this
   exact this
  have eb:UInt8.ofNat (IntKind.u8.wrap ((((wAt s (k / 4)).toNat / 256 ^ (3 - k % 4):Nat):Int).tmod 256)).toNat=qLu s k:=by
   show UInt8.ofNat (IntKind.u8.wrap ((((wAt s (k / 4)).toNat / 256 ^ (3 - k % 4) % 256:Nat):Int))).toNat=_
   unfold qLu
   rw [qFX,qFX,Int.toNat_natCast,Int.toNat_natCast,Nat.mod_mod,UInt32.toNat_shiftRight,UInt32.toNat_ofNat_of_lt' (show 24 - 8 * (k % 4) < UInt32.size by unfold UInt32.size; omega),Nat.mod_eq_of_lt (show 24 - 8 * (k % 4) < 32 by omega),Nat.shiftRight_eq_div_pow,show 24 - 8 * (k % 4)=8 * (3 - k % 4) by omega,Nat.pow_mul]
  unfold Xi qIS
  rw [qG,d1,cond_true,e1,e2,qM,qi h4,qM,qi c1,qM,qi c2,run_bind,Int.toNat_natCast,qKV (by omega),Option.bind_some,qM,qi h4,run_bind,hl,Option.bind_some]
  dsimp only
  rw [eb,qM,qi p256,qM,qi c7,qM,qi (qru _),qM,qi c9,qM,qi c8,qS,Int.toNat_natCast,qZ]
 ·unfold Xi
  rfl
theorem qTO:m8 qVe=[1779033703,3144134277,1013904242,2773480762,1359893119,2600822924,528734635,1541459225]:=rfl
theorem qUJ {N:Nat} {b:List UInt8} (hb:b.length≤1000000000) (hN:b.length + 100 < N):KV N b=some (VK b):=by
 obtain ⟨m,hm,hmb⟩:=qLe b
 have hL:(qj2 b).length=b.length + 1 + Zo b.length + 8:=by unfold qj2; rw [qzT]; simp; omega
 have hz:Zo b.length < 64:=Nat.mod_lt _ (by omega)
 have hd:(qj2 b).length / 64=m + 1:=by rw [hm]; omega
 unfold KV qci VK
 rw [run_bind,qNd hb (by omega),Option.bind_some,run_bind,← qTO,qMU hm (by omega) (by omega) (by omega),Option.bind_some]
 dsimp only
 rw [run_bind,qTY (by omega),Option.bind_some,qS,hd]
theorem qG4 {N:Nat} {b:List UInt8} (hb:b.length≤1000000000) (hN:b.length + 100 < N):vI N b=some (VK b):=by
 have c:qkZ (b:List UInt8).length:=by unfold qkZ; omega
 unfold vI qei
 rw [qM,qi c,run_bind,qUJ hb hN,Option.bind_some,qS]
end Go.Rx
end
set_option maxRecDepth 100000
noncomputable section
namespace Go.Rx
open Go.Proofs
end Go.Rx
end
set_option maxRecDepth 100000
noncomputable section
namespace Go.Rx
open Go.Proofs
end Go.Rx
end
set_option maxRecDepth 100000
noncomputable section
namespace Go.Rx
open Go.Proofs
end Go.Rx
end
set_option maxRecDepth 100000
noncomputable section
namespace Go.Rx
open Go.Proofs
theorem qxf (a:qe):Jg a=some (stB a):=by
 have ez:decide (a=zSt)=(decide (a.1=0)&&decide (a.2=0)):=by
  obtain ⟨n,r⟩:=a
  rw [← Bool.decide_and]
  refine decide_eq_decide.2 ⟨fun h=>?_,fun h=>?_⟩
  ·have h1:=congrArg Prod.fst h
   have h2:=congrArg Prod.snd h
   exact ⟨h1,h2⟩
  ·obtain ⟨rfl,rfl⟩:=h
   rfl
 unfold Jg qc1 stB
 rw [ez]
 show (bif decide (a.1=0) then some (decide (a.2=0)) else bif decide (1≤a.1) then bif decide (a.1≤1099511627776) then bif decide (0≤a.2) then some (decide (a.2 < 8)) else some false else some false else some false)=_
 rw [show decide (1≤a.1)=decide (0 < a.1) from decide_eq_decide.2 (by omega)]
 by_cases h0:a.1=0
 ·rw [h0]; cases decide (a.2=0)<;>rfl
 ·rw [decide_eq_false h0]
  cases decide (0 < a.1)<;>cases decide (a.1≤1099511627776)<;>cases decide (0≤a.2)<;>cases decide (a.2 < 8)<;>rfl
theorem qfK (a b:qe):jt a b=some (slB a b):=by
 unfold jt qbj slB
 show (bif decide (a.1 < b.1) then some true else bif decide (a.1=b.1) then some (decide (a.2 < b.2)) else some false)=_
 by_cases h:a.1 < b.1
 ·rw [decide_eq_true h,decide_eq_true (show a.1 < b.1∨a.1=b.1∧a.2 < b.2 from Or.inl h)]; rfl
 ·rw [decide_eq_false h]
  by_cases h2:a.1=b.1
  ·rw [decide_eq_true h2]
   show some (decide (a.2 < b.2))=_
   exact congrArg some (decide_eq_decide.2 (by omega))
  ·rw [decide_eq_false h2,decide_eq_false (show ¬(a.1 < b.1∨a.1=b.1∧a.2 < b.2) by omega)]; rfl
theorem qUf (c:qf):qaI c=some (Y2 c):=by
 have e2:decide (((c.V.length:Nat):Int)≤200)=decide (c.V.length≤200):=decide_eq_decide.2 (by omega)
 unfold qaI qdd Y2
 rw [run_bind,qxf,Option.bind_some]
 show (bif stB c.S then bif decide (0 < c.S.1) then some (decide (((c.V.length:Nat):Int)≤200)) else some false else some false)=_
 rw [e2]
 cases hs:stB c.S with
 | false=>cases decide (c.S=zSt)<;>rfl
 | true=>
  have hz:decide (0 < c.S.1)=!decide (c.S=zSt):=by
   unfold stB at hs
   by_cases h:c.S=zSt
   ·rw [decide_eq_true h,h]; rfl
   ·rw [decide_eq_false h] at hs ⊢
    simp only [Bool.false_or,Bool.and_eq_true,decide_eq_true_iff] at hs
    exact decide_eq_true hs.1.1.1
  rw [hz]
  cases decide (c.S=zSt)<;>rfl
end Go.Rx
end
set_option maxRecDepth 100000
noncomputable section
namespace Go.Rx
open Go.Proofs
end Go.Rx
end
set_option maxRecDepth 100000
noncomputable section
namespace Go.Rx
open Go.Proofs
end Go.Rx
end
set_option maxRecDepth 100000
noncomputable section
namespace Go.Rx
open Go.Proofs
structure Cod {α:Type} (V:α→Prop) (put:α→List UInt8) (get:List UInt8→Option (α×Nat)):Prop where
 back:∀ a r,V a→get (put a++r)=some (a,(put a).length)
 forth:∀ b a n,get b=some (a,n)→V a∧n≤b.length∧b.take n=put a
theorem Cod.cut {α:Type} {V:α→Prop} {put:α→List UInt8} {get:List UInt8→Option (α×Nat)} (C:Cod V put get) {a:α} (h:V a) {k:Nat} (hk:k < (put a).length):get ((put a).take k)=none:=by
 cases e:get ((put a).take k) with
 | none=>rfl
 | some x=>
  obtain ⟨a',n⟩:=x
  obtain ⟨h1,h2,h3⟩:=C.forth _ _ _ e
  have hn:n≤k:=by rw [List.length_take] at h2; omega
  rw [List.take_take,Nat.min_eq_left hn] at h3
  have h4:=C.back a' ((put a).drop n) h1
  rw [← h3,List.take_append_drop,List.length_take,Nat.min_eq_left (by omega)] at h4
  have h5:=C.back a [] h
  rw [List.append_nil,h4] at h5
  have:n=(put a).length:=(Prod.mk.inj (Option.some.inj h5)).2
  omega
end Go.Rx
end
set_option maxRecDepth 100000
noncomputable section
namespace Go.Rx
open Go.Proofs
theorem qBn {l:List qb}:Wu l=true↔(∀ p∈l,vm p=true)∧l.length≤60∧qbe l l.length≤200:=by
 unfold Wu
 rw [Bool.and_eq_true,Bool.and_eq_true,decide_eq_true_iff,decide_eq_true_iff,Zn,and_assoc]
 constructor
 ·rintro ⟨h,h2⟩
  refine ⟨fun p hp=>?_,h2⟩
  obtain ⟨i,hi,rfl⟩:=List.getElem_of_mem hp
  have:=h i hi
  rw [List.getD_eq_getElem?_getD,List.getElem?_eq_getElem hi] at this
  exact this
 ·rintro ⟨h,h2⟩
  refine ⟨fun j hj=>?_,h2⟩
  rw [List.getD_eq_getElem?_getD,List.getElem?_eq_getElem hj]
  exact h _ (List.getElem_mem hj)
end Go.Rx
end
set_option maxRecDepth 100000
noncomputable section
namespace Go.Rx
open Go.Proofs
def Zb (a:List UInt8):List qb→List UInt8→List UInt8×Bool
 | [],acc=>(acc,true)
 | p::l,acc=>if p.zV=true then (if ((a.length:Nat):Int) - p.zm < p.Len then ([],false) else Zb a l (acc++p.Lit++(a.take (p.zm + p.Len).toNat).drop p.zm.toNat)) else Zb a l (acc++p.Lit)
theorem qyq {p:qb} (h:vm p=true):(0≤p.zm∧p.zm≤200)∧(0≤p.Len∧p.Len≤200)∧p.Lit.length≤200∧(p.zV=true→p.Lit=[]):=by
 have h1:=qnb h
 unfold vm inP at h
 cases e:p.zV with
 | true=>
  rw [e,cond_true] at h
  simp only [Bool.and_eq_true,decide_eq_true_eq] at h
  obtain ⟨⟨h2,h3⟩,h4⟩:=h
  refine ⟨h2,⟨by omega,by omega⟩,by rw [h4]; simp,fun _=>h4⟩
 | false=>
  rw [e,cond_false] at h
  simp only [Bool.and_eq_true,decide_eq_true_eq] at h
  obtain ⟨h2,h3⟩:=h
  have e1:p.zm=0:=by rw [h2]; rfl
  have e2:p.Len=0:=by rw [h2]; rfl
  rw [e1,e2]
  exact ⟨⟨by omega,by omega⟩,⟨by omega,by omega⟩,by omega,fun e=>by cases e⟩
theorem qvQ {a:List UInt8} (ha:a.length≤50000):∀ {l:List qb} {acc:List UInt8},(∀ p∈l,vm p=true)→acc.length + 400 * l.length≤100000→qg6 a l acc=some (Zb a l acc)∧(Zb a l acc).1.length≤acc.length + 400 * l.length
 | [],acc,_,_=>⟨rfl,Nat.le_refl _⟩
 | p::l,acc,h,hl=>by
  obtain ⟨h1,h2,h3,h4⟩:=qyq (h p (List.mem_cons_self ..))
  have ht:∀ q∈l,vm q=true:=fun q hq=>h q (List.mem_cons_of_mem _ hq)
  rw [List.length_cons] at hl ⊢
  unfold qg6 Zb
  cases e:p.zV with
  | false=>
   have hr:=qvQ ha (l:=l) (acc:=acc++p.Lit) ht (by rw [List.length_append]; omega)
   rw [List.length_append] at hr
   rw [cond_false,if_neg (by simp)]
   refine ⟨(if_pos (by omega)).trans hr.1,by omega⟩
  | true=>
   rw [cond_true,if_pos rfl]
   by_cases hs:((a.length:Nat):Int) - p.zm < p.Len
   ·rw [if_pos hs]
    refine ⟨(if_pos (by unfold qj; omega)).trans ?_,Nat.zero_le _⟩
    rw [decide_eq_true hs]; rfl
   ·rw [if_neg hs]
    have hd:((a.take (p.zm + p.Len).toNat).drop p.zm.toNat).length≤200:=by rw [List.length_drop,List.length_take]; omega
    have hr:=qvQ ha (l:=l) (acc:=acc++p.Lit++(a.take (p.zm + p.Len).toNat).drop p.zm.toNat) ht (by rw [List.length_append,List.length_append]; omega)
    rw [List.length_append,List.length_append] at hr
    refine ⟨(if_pos (by unfold qj; omega)).trans ?_,by omega⟩
    rw [decide_eq_false hs]
    exact (if_pos ⟨by unfold qj; omega,by omega,by omega⟩).trans hr.1
def qkr (b:qc) (o:qd):List UInt8×Int:=
 if (Ye b o.ID o.No).2=0 then (if (Zb (Ye b o.ID o.No).1 o.P []).2=true then qlY o ((Zb (Ye b o.ID o.No).1 o.P []).1,0) else ([],7)) else ([],(Ye b o.ID o.No).2)
theorem qPU {b:qc} (h:zG b=true) (id:Vector UInt8 16) (no:Int):(Ye b id no).1.length≤200:=by
 unfold Ye
 split
 ·exact qiO h id no
 ·exact Nat.zero_le _
section
variable {N:Nat} [QJ N]
theorem qDZ {a:List UInt8} {l:List qb} (ha:a.length≤50000) (h:Wu l=true):qiN N a l=some (Zb a l [])∧(Zb a l []).1.length≤24000:=by
 have hN:=big N
 obtain ⟨h1,h2,_⟩:=qBn.1 h
 have hr:=qvQ ha (l:=l) (acc:=[]) h1 (by rw [List.length_nil]; omega)
 rw [List.length_nil] at hr
 refine ⟨?_,by omega⟩
 unfold qiN
 rw [qEm (by omega) (by omega),Option.bind_some,h,cond_true]
 exact (if_pos (by omega)).trans hr.1
theorem qTL {b:qc} (h:zG b=true) {o:qd} (ho:Wu o.P=true):qdx N (zf.mk b o)=some (qkr b o):=by
 have hl:=qPU h o.ID o.No
 have e0:=qHd (N:=N) h o o.ID o.No
 obtain ⟨e1,e2⟩:=qDZ (N:=N) (a:=(Ye b o.ID o.No).1) (l:=o.P) (by omega) ho
 unfold qdx qfM qkr
 generalize Ye b o.ID o.No=c at *
 generalize Zb c.1 o.P []=z at *
 have e3:=qKZ (N:=N) b o (v:=z.1) (e:=0) (by omega)
 generalize qlY o (z.1,0)=y at *
 refine ql e0 ?_
 by_cases h0:c.2=0
 ·rw [if_pos h0]
  refine w_f (by rw [decide_eq_true h0]; rfl) <| ql e1 ?_
  cases e4:z.2 with
  | true=>exact w_f rfl <| ql e3 <| qp rfl
  | false=>exact w_t rfl <| qp rfl
 ·rw [if_neg h0]
  exact w_t (by rw [decide_eq_false h0]; rfl) <| qp rfl
theorem qUU {b:qc} {o:qd} (fb:jL N b) (hl:(qd.P o).length < N) (hl2:(qd.P o).length≤1000000000000000):qxv N b o=some (doD N b o (qkr b o)):=by
 by_cases hk:o.Kind=3
 ·have hN:=big N
  unfold qxv qxt doD
  refine ql (qrc fb) ?_
  cases hb:zG b with
  | false=>exact w_t rfl <| qF rfl <| qp (by rw [if_neg (fun h=>by cases h.1)])
  | true=>
   refine w_f rfl <| ql (qGv hl hl2) ?_
   cases ho:opB o with
   | false=>exact w_t rfl <| qF rfl <| qp (by rw [if_neg (fun h=>by cases h.2)])
   | true=>
    have hp:Wu o.P=true:=by unfold opB at ho; rw [Bool.and_eq_true] at ho; exact ho.2
    refine w_f rfl ?_
    rw [if_pos ⟨rfl,rfl⟩]
    unfold qoE
    rw [if_neg (by omega),if_neg (by omega),if_neg (by omega)]
    refine w_f (decide_eq_false (by show ¬ o.Kind=0; omega)) <| w_f (decide_eq_false (by show ¬ o.Kind=1; omega)) <| w_f (decide_eq_false (by show ¬ o.Kind=2; omega)) <| w_t (decide_eq_true hk) <| qF (by omega) <| ql (qTL hb hp) ?_
    unfold qCH
    by_cases hz:(qkr b o).2=0
    ·rw [if_pos hz]
     exact w_f (by rw [decide_eq_true hz]; rfl) <| ql (qGm (p:=qAe o (qkr b o).1) fb (by show 1 < N; omega) (by show 1≤4611686018427387904; omega)) <| qp rfl
    ·rw [if_neg hz]
     exact w_t (by rw [decide_eq_false hz]; rfl) <| qF rfl <| qp rfl
 ·exact qVR fb hl hl2 hk _
end
end Go.Rx
end
set_option maxRecDepth 100000
noncomputable section
namespace Go.Rx
open Go.Proofs
def qU4 (p:qa):Prop:=(Q5 (QG p)=true∨jT (QG p)=true)∧(Q5 (vC p)=true∨jT (vC p)=true)
def jP (a:Option qa) (p:qa) (id:Vector UInt8 16):Option qa:=jR (jR a (oP (QG p) id)) (oP (vC p) id)
section
variable {N:Nat} [QJ N]
theorem qOs {b : qc} {p : qa} (h1 : p.F.length < N) (h2 : p.F.length ≤ 4611686018427387904) (h : (Ka N b p).2 = 0) :
    zG b=true∧zG (Ka N b p).1=true∧qU4 p∧∀ id,rO (Ka N b p).1.R id=jP (rO b.R id) p id:=by
 obtain ⟨hb,hc,hr⟩:=qTQ h1 h2 h
 obtain ⟨_,_,hs,hl⟩:=qHh.1 (qEI h).1
 exact ⟨hb,hc,⟨qUt hs,qUT hl⟩,hr⟩
end
end Go.Rx
end
set_option maxRecDepth 100000
noncomputable section
namespace Go.Rx
open Go.Proofs
section
variable {N:Nat} [QJ N]
theorem qUz {b:qc} {o:qd} {m:List UInt8×Int} (h:(doD N b o m).2≠0):(doD N b o m).1=qc.mk []:=by
 unfold doD at h ⊢
 split
 ·rename_i hb
  rw [if_pos hb] at h
  split
  ·rename_i h0; rw [if_pos h0] at h; exact qG0 h
  ·rename_i h0
   rw [if_neg h0] at h
   unfold qCH at h ⊢
   split
   ·rename_i h3; rw [if_pos h3] at h; exact qG0 h
   ·rfl
 ·rfl
end
end Go.Rx
end
set_option maxRecDepth 100000
noncomputable section
namespace Go.Rx
open Go.Proofs
theorem qOV {r:qa} {no:Int} {c:qf} (h:cO r.F no=some c):∃ i,qoo r.F no=some i∧(r.F.getD i zF).C=c:=by
 rw [← qHO] at h
 obtain ⟨i,h1,h2⟩:=Option.map_eq_some_iff.1 h
 exact ⟨i,h1,h2⟩
theorem qPw {r:qa} {no:Int} (h:cO r.F no=none):qoo r.F no=none:=by
 rw [← qHO] at h
 exact Option.map_eq_none_iff.1 h
end Go.Rx
end
set_option maxRecDepth 100000
noncomputable section
namespace Go.Rx
open Go.Proofs
end Go.Rx
end
set_option maxRecDepth 100000
noncomputable section
namespace Go.Rx
open Go.Proofs
end Go.Rx
end
set_option maxRecDepth 100000
noncomputable section
namespace Go.Rx
open Go.Proofs
theorem qPz {r:qa} {no:Int} {c:qf} (h:cO r.F no=some c):cellAt r no=(c,true):=by
 obtain ⟨i,h1,h2⟩:=qOV h
 unfold cellAt
 rw [h1]
 show ((r.F.getD i zF).C,true)=_
 rw [h2]
end Go.Rx
end
set_option maxRecDepth 100000
noncomputable section
namespace Go.Rx
open Go.Proofs
end Go.Rx
end
set_option maxRecDepth 100000
noncomputable section
namespace Go.Rx
open Go.Proofs
end Go.Rx
end
set_option maxRecDepth 100000
noncomputable section
namespace Go.Rx
open Go.Proofs
section
variable {N:Nat} [QJ N]
def qkB (l:List qg) (k:Nat):Int:=if k=0 then -1 else (l.getD (k - 1) zF).No
theorem qVP {r : qa} (hN : r.F.length < N) (h62 : r.F.length ≤ 4611686018427387904) :
    ∃ z,WR N r (-1) 0=some (if QK (qjG r.F r.qW) r.F.length then .inr z else .inl ()):=by
 refine ⟨(qkB r.F r.F.length,((r.F.length:Nat):Int),false),?_⟩
 refine (qCv (B:=XD N r) (g:=some) (at_:=fun k=>(qkB r.F k,(k:Int))) (q:=qjG r.F r.qW) (n:=r.F.length) (hit:=.inl ()) (fin:=.inr (qkB r.F r.F.length,((r.F.length:Nat):Int),false)) (fun k hk=>?_) ?_ r.F.length 0 (by omega) N hN (fun j hj=>by omega)).trans ?_
 ·have h64:qj ((k:Int) + 1):=by unfold qj; omega
  have hl:qkB r.F (k + 1)=(r.F.getD k zF).No:=by unfold qkB; rw [if_neg (by omega)]; rfl
  have hq:(if k=0 then decide (0≤(r.F.getD k zF).No) else decide ((r.F.getD (k - 1) zF).No < (r.F.getD k zF).No))=!decide ((r.F.getD k zF).No≤qkB r.F k):=by
   rw [← decide_not]
   unfold qkB
   by_cases h0:k=0
   ·rw [if_pos h0,if_pos h0]; exact decide_eq_decide.2 (by omega)
   ·rw [if_neg h0,if_neg h0]; exact decide_eq_decide.2 (by omega)
  unfold XD qjG
  rw [hq,qG,dec_lt hk,cond_true,run_bind,zB (d:=zF) hk,Option.bind_some,run_bind,qUf,Option.bind_some,run_bind,qfK,Option.bind_some,qG,qS,qG,qG,qG,qM,qi h64,qS,qZ,hl]
  show (bif !Y2 (r.F.getD k zF).C then _ else bif !slB r.qW (r.F.getD k zF).C.S then _ else bif decide ((r.F.getD k zF).No≤qkB r.F k) then _ else bif decide (8≤(r.F.getD k zF).No) then _ else _)=_
  cases Y2 (r.F.getD k zF).C<;>cases slB r.qW (r.F.getD k zF).C.S<;>cases decide ((r.F.getD k zF).No≤qkB r.F k)<;>cases decide (8≤(r.F.getD k zF).No)<;>rfl
 ·unfold XD
  rw [qG,zo (Nat.lt_irrefl _),cond_false,qS]
 ·rfl
theorem qwZ {r:qa} (hN:r.F.length < N) (h62:r.F.length≤4611686018427387904):Je N r=some (jT r):=by
 have e0:eqE qm r.qW (qe.mk 0 0)=decide (r.qW=zSt):=qhn _ _
 have d0:decide (((r.F.length:Nat):Int)=0)=decide (r.F.length=0):=decide_eq_decide.2 (by omega)
 obtain ⟨z,ez⟩:=qVP hN h62
 unfold Je qcV jT
 rw [run_bind,qxf,Option.bind_some,qG,qS,qG,d0,qG,e0,qS,run_bind,ez,Option.bind_some]
 cases stB r.qW<;>cases decide (r.F.length=0)<;>cases decide (r.qW=zSt)<;>cases QK (qjG r.F r.qW) r.F.length<;>rfl
end
end Go.Rx
end
set_option maxRecDepth 100000
noncomputable section
namespace Go.Rx
open Go.Proofs
theorem qlD {l:List UInt8} {k:Nat} (h:k < l.length):l.drop k=l.getD k 0::l.drop (k + 1):=by
 rw [List.drop_eq_getElem_cons h]
 simp [List.getD,List.getElem?_eq_getElem h]
section
variable {N:Nat} [QJ N]
theorem qIA {a b : Vector UInt8 16} : ∀ (m k n : Nat), k + m = 16 → m < n →
    qQ (Z1 N a b) some n (k:Int)=some (if a.toList.drop k=b.toList.drop k then .inr ((16:Int),false) else .inl (decide (Go.Lib.compareBytes (a.toList.drop k) (b.toList.drop k) < 0)))
 | 0,k,n + 1,hk,_=>by
  obtain rfl:k=16:=by omega
  rw [zh (x:=.inr ((16:Int),false)) (by unfold Z1; rfl) n,if_pos (by rw [List.drop_of_length_le (by simp),List.drop_of_length_le (by simp)])]
 | m + 1,k,n + 1,hk,hn=>by
  have hk16:k < 16:=by omega
  have d1:decide ((k:Int) < 16)=true:=decide_eq_true (by omega)
  have p1:(0:Int)≤(k:Int)∧(k:Int) < ((16:Nat):Int):=by omega
  have p2:(k:Int).toNat < 16:=by rw [Int.toNat_natCast]; exact hk16
  have h64:qj ((k:Int) + 1):=by unfold qj; omega
  rw [qlD (l:=a.toList) (k:=k) (by simpa using hk16),qlD (l:=b.toList) (k:=k) (by simpa using hk16)]
  by_cases e:a.toList.getD k 0=b.toList.getD k 0
  ·have d2:decide ((((a.toList.getD k 0).toNat:Nat):Int)=(((b.toList.getD k 0).toNat:Nat):Int))=true:=decide_eq_true (by rw [e])
   rw [vM (v':=((k + 1:Nat):Int)) (by
    unfold Z1
    rw [qG,d1,cond_true,qM,qi p1,qM,qi p2,qM,qi p1,qM,qi p2,qG,Int.toNat_natCast,d2,Bool.not_true,cond_false,qM,qi h64,qS,qZ]) n]
   rw [qIA m (k + 1) n (by omega) (by omega),e]
   have hc:Go.Lib.compareBytes (b.toList.getD k 0::a.toList.drop (k + 1)) (b.toList.getD k 0::b.toList.drop (k + 1))=Go.Lib.compareBytes (a.toList.drop (k + 1)) (b.toList.drop (k + 1)):=by
    show (if _ < _ then _ else if _ < _ then _ else _)=_
    rw [if_neg (UInt8.lt_irrefl _),if_neg (UInt8.lt_irrefl _)]
   rw [hc]
   by_cases e2:a.toList.drop (k + 1)=b.toList.drop (k + 1)
   ·rw [if_pos e2,if_pos (by rw [e2])]
   ·rw [if_neg e2,if_neg (fun h=>e2 (List.cons.inj h).2)]
  ·have e':(a.toList.getD k 0).toNat≠(b.toList.getD k 0).toNat:=fun h=>e (UInt8.toNat_inj.1 h)
   have d2:decide ((((a.toList.getD k 0).toNat:Nat):Int)=(((b.toList.getD k 0).toNat:Nat):Int))=false:=decide_eq_false (by omega)
   rw [zh (x:=.inl (decide ((((a.toList.getD k 0).toNat:Nat):Int) < (((b.toList.getD k 0).toNat:Nat):Int)))) (by
    unfold Z1
    rw [qG,d1,cond_true,qM,qi p1,qM,qi p2,qM,qi p1,qM,qi p2,qG,Int.toNat_natCast,d2,Bool.not_false,cond_true,qM,qi p1,qM,qi (by exact hk16),qM,qi p1,qM,qi (by exact hk16),qS]) n]
   rw [if_neg (fun h=>e (List.cons.inj h).1)]
   refine congrArg (fun x=>some (Sum.inl x)) (decide_eq_decide.2 ?_)
   show _↔(if a.toList.getD k 0 < b.toList.getD k 0 then (-1:Int) else if b.toList.getD k 0 < a.toList.getD k 0 then 1 else _) < 0
   by_cases h:(a.toList.getD k 0).toNat < (b.toList.getD k 0).toNat
   ·rw [if_pos (UInt8.lt_iff_toNat_lt.2 h)]; omega
   ·rw [if_neg (fun h'=>h (UInt8.lt_iff_toNat_lt.1 h')),if_pos (UInt8.lt_iff_toNat_lt.2 (by omega))]; omega
 | _,_,0,_,hn=>by omega
theorem qF3 (a b:Vector UInt8 16):X8 N a b=some (lbB a b):=by
 have e:qag N a b 0=some (if a.toList.drop 0=b.toList.drop 0 then .inr ((16:Int),false) else .inl (decide (Go.Lib.compareBytes (a.toList.drop 0) (b.toList.drop 0) < 0))):=qIA 16 0 N (by omega) (by have:=big N; omega)
 rw [List.drop_zero,List.drop_zero] at e
 unfold X8 qbi lbB
 rw [run_bind,e,Option.bind_some]
 by_cases h:a=b
 ·rw [if_pos (by rw [h]),decide_eq_true h]; rfl
 ·rw [if_neg (fun h'=>h (Vector.toList_inj.1 h')),decide_eq_false h]; rfl
theorem qUS {b : qc} (hN : b.R.length < N) (h62 : b.R.length ≤ 4611686018427387904) (hF : ∀ k, k < b.R.length → (b.R.getD k zR).F.length < N ∧ (b.R.getD k zR).F.length ≤ 4611686018427387904) :
    qbr N b 0=some (if QK (qsa b.R) b.R.length then .inr (((b.R.length:Nat):Int),false) else .inl ()):=by
 refine Wk (B:=Xu N b) (g:=some) (q:=qsa b.R) (fun k hk=>?_) ?_ hN
 ·have h64:qj ((k:Int) + 1):=by unfold qj; omega
  unfold Xu
  rw [qG,dec_lt hk,cond_true,run_bind,zB (d:=zR) hk,Option.bind_some,run_bind,qwZ (hF k hk).1 (hF k hk).2,Option.bind_some,qG,qS,qG,qK5,qM,qM,qi h64,qS,qZ]
  unfold qsa
  cases jT (b.R.getD k zR) with
  | false=>rfl
  | true=>
   by_cases h0:k=0
   ·rw [decide_eq_true h0]; rfl
   ·have hp:qj ((k:Int) - 1):=by unfold qj; omega
    have hk1:k - 1 < b.R.length:=by omega
    rw [decide_eq_false h0,Bool.not_true,cond_false,Bool.not_false,cond_true,qi hp,run_bind,qzt (Nat.pos_of_ne_zero h0),zB (d:=zR) hk1,Option.bind_some,run_bind,Option.bind_some,run_bind,qF3,Option.bind_some,qG,qS,qM,qi (show qj ((k + 1:Nat):Int) by rw [← qZ]; exact h64),qS]
    cases lbB (b.R.getD (k - 1) zR).ID (b.R.getD k zR).ID<;>rfl
 ·unfold Xu
  rw [qG,zo (Nat.lt_irrefl _),cond_false,qS]
theorem qk5 {b:qc} (h:jL N b):Jh N b=some (zG b):=by
 have e2:decide (((b.R.length:Nat):Int)≤10)=decide (b.R.length≤10):=decide_eq_decide.2 (by omega)
 unfold Jh qc2 zG
 rw [run_bind,qUS h.1 h.2.1 h.2.2,Option.bind_some]
 cases QK (qsa b.R) b.R.length with
 | false=>rfl
 | true=>show (Tree.run some (Tree.ret (decide (((b.R.length:Nat):Int)≤10))))=_; rw [qS,e2]; rfl
end
end Go.Rx
end
set_option maxRecDepth 100000
noncomputable section
namespace Go.Rx
open Go.Proofs
open Go.Lib (compareBytes)
theorem qHi {x y:UInt8} {a b:List UInt8}:ltB (x::a) (y::b)=if x=y then ltB a b else decide (x.toNat < y.toNat):=by
 unfold ltB
 rw [show compareBytes (x::a) (y::b)=if x < y then -1 else if y < x then 1 else compareBytes a b from rfl]
 by_cases h:x=y
 ·subst h
  rw [if_neg (UInt8.lt_irrefl _),if_neg (UInt8.lt_irrefl _),if_pos rfl]
 ·rw [if_neg h]
  by_cases h1:x < y
  ·rw [if_pos h1,decide_eq_true (UInt8.lt_iff_toNat_lt.1 h1)]; rfl
  ·have:¬ x.toNat < y.toNat:=fun e=>h1 (UInt8.lt_iff_toNat_lt.2 e)
   have h2:y < x:=by
    apply UInt8.lt_iff_toNat_lt.2
    have:x.toNat≠y.toNat:=fun e=>h (UInt8.toNat_inj.1 e)
    omega
   rw [if_neg h1,if_pos h2,decide_eq_false this]; rfl
theorem qxo {x y:UInt8}:decide (((x.toNat:Nat):Int)=((y.toNat:Nat):Int))=decide (x=y):=decide_eq_decide.2 ⟨fun h=>UInt8.toNat_inj.1 (by omega),fun h=>by rw [h]⟩
theorem qLd {x y:UInt8}:decide (((x.toNat:Nat):Int) < ((y.toNat:Nat):Int))=decide (x.toNat < y.toNat):=decide_eq_decide.2 (by omega)
section
variable {N:Nat} [QJ N]
theorem qIe {a b : Vector UInt8 32} : ∀ (m k n : Nat), k + m = 32 → m < n →
    ∃ z,qQ (ZO N a b) some n (k:Int)=some z∧(match z with | .inl x=>x | .inr _=>false)=ltB (a.toList.drop k) (b.toList.drop k)
 | 0,k,n + 1,hk,_=>by
  obtain rfl:k=32:=by omega
  refine ⟨.inr ((32:Int),false),?_,?_⟩
  ·rw [zh (x:=.inr ((32:Int),false)) (by unfold ZO; rfl) n]
  ·rw [List.drop_of_length_le (by simp),List.drop_of_length_le (by simp)]; rfl
 | m + 1,k,n + 1,hk,hn=>by
  have hk16:k < 32:=by omega
  have d1:decide ((k:Int) < 32)=true:=decide_eq_true (by omega)
  have p1:(0:Int)≤(k:Int)∧(k:Int) < ((32:Nat):Int):=by omega
  have p2:(k:Int).toNat < 32:=by rw [Int.toNat_natCast]; exact hk16
  rw [qlD (l:=a.toList) (k:=k) (by simpa using hk16),qlD (l:=b.toList) (k:=k) (by simpa using hk16),qHi]
  by_cases e:a.toList.getD k 0=b.toList.getD k 0
  ·obtain ⟨z,h1,h2⟩:=qIe m (k + 1) n (by omega) (by omega)
   refine ⟨z,?_,by rw [if_pos e,h2]⟩
   rw [vM (v':=((k + 1:Nat):Int)) (by
    unfold ZO
    exact w_t d1 (qF p1 (qF p2 (qF p1 (qF p2 (w_f (by rw [qxo,Int.toNat_natCast,decide_eq_true e]; rfl) (qF (zT (by omega)) (qp (by rw [qZ])))))))) ) n]
   exact h1
  ·refine ⟨.inl (decide ((a.toList.getD k 0).toNat < (b.toList.getD k 0).toNat)),?_,by rw [if_neg e]⟩
   rw [zh (x:=.inl (decide ((a.toList.getD k 0).toNat < (b.toList.getD k 0).toNat))) (by
    unfold ZO
    exact w_t d1 (qF p1 (qF p2 (qF p1 (qF p2 (w_t (by rw [qxo,Int.toNat_natCast,decide_eq_false e]; rfl) (qF p1 (qF p2 (qF p1 (qF p2 (qp (by rw [qLd,Int.toNat_natCast]))))))))))) ) n]
 | _,_,0,_,hn=>by omega
theorem qSN (a b:Vector UInt8 32):Y3 N a b=some (ltD a b):=by
 obtain ⟨z,h1,h2⟩:=qIe (N:=N) (a:=a) (b:=b) 32 0 N (by omega) (by have:=big N; omega)
 have e:K9 N a b 0=some z:=h1
 rw [List.drop_zero,List.drop_zero] at h2
 unfold Y3 qbI ltD
 rw [← h2]
 refine ql e ?_
 cases z<;>rfl
theorem qEt {a b : qf} (hb : b.V.length ≤ 50000) : ∀ (m k n : Nat), k + m = b.V.length → m < n →
    ∃ z,qQ (vU N a b) some n (k:Int)=some z∧(match z with | .inl x=>x | .inr _=>false)=ltB (a.V.drop k) (b.V.drop k)
 | 0,k,n + 1,hk,_=>by
  obtain rfl:k=b.V.length:=by omega
  refine ⟨.inr (((b.V.length:Nat):Int),false),?_,?_⟩
  ·rw [zh (x:=.inr (((b.V.length:Nat):Int),false)) (by unfold vU; exact w_f (zo (Nat.lt_irrefl _)) (qp (by rw [zo (Nat.lt_irrefl _)]))) n]
  ·rw [List.drop_of_length_le (l:=b.V) (Nat.le_refl _)]
   cases a.V.drop b.V.length<;>rfl
 | m + 1,k,n + 1,hk,hn=>by
  have hkb:k < b.V.length:=by omega
  by_cases ha:a.V.length≤k
  ·refine ⟨.inl true,?_,?_⟩
   ·rw [zh (x:=.inl true) (by unfold vU; exact w_t (dec_lt hkb) (w_t (decide_eq_true (by omega)) (qp rfl))) n]
   ·rw [List.drop_of_length_le ha,qlD hkb]; rfl
  ·have hka:k < a.V.length:=by omega
   have d2:decide (((a.V.length:Nat):Int)≤(k:Int))=false:=decide_eq_false (by omega)
   rw [qlD hka,qlD hkb,qHi]
   by_cases e:a.V.getD k 0=b.V.getD k 0
   ·obtain ⟨z,h1,h2⟩:=qEt hb m (k + 1) n (by omega) (by omega)
    refine ⟨z,?_,by rw [if_pos e,h2]⟩
    rw [vM (v':=((k + 1:Nat):Int)) (by
     unfold vU
     exact w_t (dec_lt hkb) (w_f d2 (ql (zB (d:=0) hka) (ql (zB (d:=0) hkb) (w_f (by rw [qxo,decide_eq_true e]; rfl) (qF (zT (by omega)) (qp (by rw [qZ])))))))) n]
    exact h1
   ·refine ⟨.inl (decide ((a.V.getD k 0).toNat < (b.V.getD k 0).toNat)),?_,by rw [if_neg e]⟩
    rw [zh (x:=.inl (decide ((a.V.getD k 0).toNat < (b.V.getD k 0).toNat))) (by
     unfold vU
     exact w_t (dec_lt hkb) (w_f d2 (ql (zB (d:=0) hka) (ql (zB (d:=0) hkb) (w_t (by rw [qxo,decide_eq_false e]; rfl) (ql (zB (d:=0) hka) (ql (zB (d:=0) hkb) (qp (by rw [qLd]))))))))) n]
 | _,_,0,_,hn=>by omega
theorem qRd {a b:qf} (ha:a.V.length≤50000) (hb:b.V.length≤50000):YZ N a b=some (qb1 a b):=by
 have hN:=big N
 unfold YZ qbf qb1
 by_cases h1:a.S=b.S
 ·rw [if_pos h1]
  refine w_f (by rw [qhn]; show (!decide (a.S=b.S))=false; rw [decide_eq_true h1]; rfl) (ql (qG4 (by show a.V.length≤_; omega) (by show a.V.length + 100 < N; omega)) (ql (qG4 (by show b.V.length≤_; omega) (by show b.V.length + 100 < N; omega)) ?_))
  by_cases h2:VK a.V=VK b.V
  ·rw [if_pos h2]
   obtain ⟨z,g1,g2⟩:=qEt (N:=N) (a:=a) hb b.V.length 0 N (by omega) (by omega)
   rw [List.drop_zero,List.drop_zero] at g2
   rw [← g2]
   refine w_f (by rw [eqD]; show (!decide (VK a.V=VK b.V))=false; rw [decide_eq_true h2]; rfl) (ql (x:=z) g1 ?_)
   cases z<;>rfl
  ·rw [if_neg h2]
   exact w_t (by rw [eqD]; show (!decide (VK a.V=VK b.V))=true; rw [decide_eq_false h2]; rfl) (ql (qSN _ _) (qp rfl))
 ·rw [if_neg h1]
  exact w_t (by rw [qhn]; show (!decide (a.S=b.S))=true; rw [decide_eq_false h1]; rfl) (ql (qfK _ _) (qp rfl))
theorem qSf {a b:qf} (ha:a.V.length≤50000) (hb:b.V.length≤50000):Y5 N a b=some (cJ a b):=by
 unfold Y5 qbM cJ
 refine ql (qRd ha hb) ?_
 cases qb1 a b<;>rfl
theorem qT8 (a b:qe):qaq a b=some (mxS a b):=by
 unfold qaq qdh mxS
 refine ql (qfK _ _) ?_
 cases slB a b<;>rfl
abbrev zC:qf:=qf.mk (qe.mk 0 0) []
theorem qzj {r:qa} {no:Int} (h:r.F.length≤600):Qq N r no=some (match cO r.F no with | some c=>(c,true) | none=>(zC,false)):=by
 have key:=qfY (B:=Z3 N r zC no) (g:=some) (p:=fun k=>decide ((r.F.getD k zF).No=no)) (n:=r.F.length) (hit:=fun k=>.inl (r.F.getD k zF).C) (fin:=.inr (((r.F.length:Nat):Int),false)) (fun k hk=>by
  unfold Z3
  refine w_t (dec_lt hk) (ql (zB (d:=zF) hk) ?_)
  by_cases e:(r.F.getD k zF).No=no
  ·exact w_t (decide_eq_true e) (ql (zB (d:=zF) hk) (qp (by rw [if_pos (decide_eq_true e)])))
  ·exact w_f (decide_eq_false e) (qF (zT (by omega)) (qp (by rw [if_neg (by rw [decide_eq_false e]; simp),qZ])))) (by
  unfold Z3
  exact w_f (zo (Nat.lt_irrefl _)) (qp (by rw [zo (Nat.lt_irrefl _)]))) N 0 (Nat.zero_le _) (by have:=big N; omega)
 rw [Nat.sub_zero] at key
 have e:K5 N r zC no 0=qQ (Z3 N r zC no) some N ((0:Nat):Int):=rfl
 rw [← qHO]
 unfold qoo
 unfold Qq qbt
 refine ql (e.trans key) ?_
 cases Jz (fun k=>decide ((r.F.getD k zF).No=no)) r.F.length 0<;>rfl
theorem qS4 {a b:qa} (ha:jT a=true) (hb:jT b=true) (hid:a.ID=b.ID):Vh N a b=some (rJ a b,true):=by
 have hN:=big N
 have h8a:=qa_ ha
 have h8b:=qa_ hb
 have sh:∀ {r:qa},jT r=true→∀ no c,cO r.F no=some c→c.V.length≤50000:=fun {r} hr no c hc=>by
  obtain ⟨f,hf,_,rfl⟩:=qpw hc
  obtain ⟨i,hi,rfl⟩:=List.getElem_of_mem hf
  have:=qza (qAL hr i hi)
  rw [List.getD_eq_getElem?_getD,List.getElem?_eq_getElem hi] at this
  have:r.F[i].C.V.length≤200:=this
  omega
 have key:qad N [] a b (Vector.replicate 16 0) (qe.mk 0 0) a.ID (mxS a.qW b.qW) [] 0=some (zZ (fun k s=>s++qbZ (mxS a.qW b.qW) k (jC (cO a.F (k:Int)) (cO b.F (k:Int)))) 8 0 [],(8:Int),false):=by
  refine jW (σ:=List qg) (B:=V4 N [] a b (Vector.replicate 16 0) (qe.mk 0 0) a.ID (mxS a.qW b.qW)) (g:=some) (at_:=fun k s=>(s,(k:Int))) (I:=fun k s=>s.length≤k) (f:=fun k s=>s++qbZ (mxS a.qW b.qW) k (jC (cO a.F (k:Int)) (cO b.F (k:Int)))) (n:=8)
   (fin:=fun s=>(s,(8:Int),false)) (fun k s hk hs=>⟨?_,?_⟩) (fun s _=>?_) N 0 [] (Nat.le_refl _) (Nat.zero_le _) (by omega)
  ·have d8:decide ((k:Int) < 8)=true:=decide_eq_true (by omega)
   have cav:∀ f:qg,jx s.length s.length (s++[f]).length 40:=fun f=>⟨rfl,by rw [List.length_append]; unfold zg; simp; omega⟩
   have kp:∀ c:qf,qbZ (mxS a.qW b.qW) k (some c)=if slB (mxS a.qW b.qW) c.S=true then [qg.mk (k:Int) c] else []:=fun _=>rfl
   unfold V4
   refine w_t d8 (ql (qzj (by omega)) (ql (qzj (by omega)) ?_))
   dsimp only
   cases ea:cO a.F (k:Int) with
   | none=>
    cases eb:cO b.F (k:Int) with
    | none=>
     refine w_f rfl (w_t rfl (ql (qfK _ _) (w_f rfl (w_f rfl (qF (zT (by omega)) (qp ?_))))))
     rw [qZ]
     show _=some (Sum.inl (s++[],_))
     rw [List.append_nil]
    | some c=>
     refine w_f rfl (w_t rfl (ql (qfK _ _) (w_f rfl (w_t rfl ?_))))
     show _=some (Sum.inl (s++qbZ (mxS a.qW b.qW) k (some c),_))
     rw [kp]
     cases slB (mxS a.qW b.qW) c.S with
     | false=>exact w_f rfl (qF (zT (by omega)) (qp (by rw [qZ,if_neg (by simp),List.append_nil])))
     | true=>exact w_t rfl (qF (cav _) (qF (zT (by omega)) (qp (by rw [qZ,if_pos rfl]))))
   | some x=>
    cases eb:cO b.F (k:Int) with
    | none=>
     refine w_t rfl (w_f rfl (w_f rfl (ql (qfK _ _) (w_t rfl ?_))))
     show _=some (Sum.inl (s++qbZ (mxS a.qW b.qW) k (some x),_))
     rw [kp]
     cases slB (mxS a.qW b.qW) x.S with
     | false=>exact w_f rfl (qF (zT (by omega)) (qp (by rw [qZ,if_neg (by simp),List.append_nil])))
     | true=>exact w_t rfl (qF (cav _) (qF (zT (by omega)) (qp (by rw [qZ,if_pos rfl]))))
    | some c=>
     refine w_t rfl (w_t rfl (ql (qSf (sh ha _ _ ea) (sh hb _ _ eb)) (w_f rfl (ql (qfK _ _) (w_t rfl ?_)))))
     show _=some (Sum.inl (s++qbZ (mxS a.qW b.qW) k (some (cJ x c)),_))
     rw [kp]
     cases slB (mxS a.qW b.qW) (cJ x c).S with
     | false=>exact w_f rfl (qF (zT (by omega)) (qp (by rw [qZ,if_neg (by simp),List.append_nil])))
     | true=>exact w_t rfl (qF (cav _) (qF (zT (by omega)) (qp (by rw [qZ,if_pos rfl]))))
  ·have:=qu_ (dead:=mxS a.qW b.qW) (k:=k) (c:=jC (cO a.F (k:Int)) (cO b.F (k:Int)))
   rw [List.length_append]; omega
  ·unfold V4
   exact w_f rfl (qp rfl)
 unfold Vh qbh
 refine ql (qwZ (by omega) (by omega)) (ql (qwZ (by omega) (by omega)) (w_f (by rw [ha]; rfl) (w_f (by rw [hb]; rfl) (w_f (by rw [qhl]; show (!decide (a.ID=b.ID))=false; rw [decide_eq_true hid]; rfl)
  (ql (qT8 _ _) (ql ((zU rfl).trans ((zU rfl).trans key)) (qF rfl (qp ?_))))))))
 rw [qlr (g:=fun no=>jC (cO a.F no) (cO b.F no)),List.nil_append]; rfl
end
end Go.Rx
end
set_option maxRecDepth 100000
noncomputable section
namespace Go.Rx
open Go.Proofs
def VJ (r:qa):List qa→List qa
 | []=>[r]
 | x::l=>if lbB r.ID x.ID=true then r::x::l else if x.ID=r.ID then rJ x r::l else x::VJ r l
theorem qvY {r x:qa} {l:List qa}:VJ r (x::l)=if lbB r.ID x.ID=true then r::x::l else if x.ID=r.ID then rJ x r::l else x::VJ r l:=rfl
theorem qz3 {r:qa}:∀ {l:List qa} {y:qa},y∈VJ r l→y=r∨y∈l∨∃ x,x∈l∧x.ID=r.ID∧y=rJ x r
 | [],y,h=>.inl (List.mem_singleton.1 h)
 | x::l,y,h=>by
  unfold VJ at h
  split at h
  ·rcases List.mem_cons.1 h with h | h
   ·exact .inl h
   ·exact .inr (.inl h)
  ·split at h
   ·rename_i e
    rcases List.mem_cons.1 h with h | h
    ·exact .inr (.inr ⟨x,List.mem_cons_self ..,e,h⟩)
    ·exact .inr (.inl (List.mem_cons_of_mem _ h))
   ·rcases List.mem_cons.1 h with h | h
    ·exact .inr (.inl (by rw [h]; exact List.mem_cons_self ..))
    ·rcases qz3 h with h | h | ⟨z,hz,e⟩
     ·exact .inl h
     ·exact .inr (.inl (List.mem_cons_of_mem _ h))
     ·exact .inr (.inr ⟨z,List.mem_cons_of_mem _ hz,e⟩)
theorem qoJ {r:qa}:∀ {l:List qa},Yb l→Yb (VJ r l)
 | [],_=>List.pairwise_singleton _ _
 | x::l,h=>by
  have hp:=List.pairwise_cons.1 h
  unfold VJ
  split
  ·rename_i e
   refine List.pairwise_cons.2 ⟨fun y hy=>?_,h⟩
   rcases List.mem_cons.1 hy with rfl | hy
   ·exact e
   ·exact qgk e (hp.1 y hy)
  ·split
   ·exact List.pairwise_cons.2 ⟨fun y hy=>hp.1 y hy,hp.2⟩
   ·rename_i e1 e2
    have hxr:lbB x.ID r.ID=true:=by
     rcases qKN r.ID x.ID with h1 | h1 | h1
     ·exact (e1 h1.1).elim
     ·exact (e2 h1.symm).elim
     ·exact h1.1
    refine List.pairwise_cons.2 ⟨fun y hy=>?_,qoJ hp.2⟩
    rcases qz3 hy with rfl | hy | ⟨z,hz,e,rfl⟩
    ·exact hxr
    ·exact hp.1 y hy
    ·exact hp.1 z hz
theorem qLa {r:qa} {id:Vector UInt8 16}:∀ {l:List qa},Yb l→rO (VJ r l) id=qgK (rO l) r id
 | [],_=>by
  show rO [r] id=_
  rw [VD,qis,qA4]; rfl
 | x::l,h=>by
  have hp:=List.pairwise_cons.1 h
  have nol:lbB r.ID x.ID=true→rO (x::l) r.ID=none:=fun e=>by
   cases hc:rO (x::l) r.ID with
   | none=>rfl
   | some y=>
    have hy:=Wq hc
    rcases List.mem_cons.1 hy.1 with h1 | h1
    ·rw [← hy.2,h1,YP] at e; cases e
    ·have:=qgk e (hp.1 y h1)
     rw [hy.2,YP] at this; cases this
  rw [qis]
  unfold VJ
  split
  ·rename_i e
   rw [VD]
   by_cases q:r.ID=id
   ·rw [if_pos q,if_pos q,← q,nol e]; rfl
   ·rw [if_neg q,if_neg q]
  ·rename_i e1
   split
   ·rename_i e2
    rw [VD,VD,qTA]
    by_cases q:r.ID=id
    ·rw [if_pos (e2.trans q),if_pos q,if_pos (e2.trans q)]; rfl
    ·have:¬ x.ID=id:=fun h'=>q (e2.symm.trans h')
     rw [if_neg this,if_neg q,if_neg this]
   ·rename_i e2
    rw [VD,VD,qLa hp.2,qis]
    by_cases q:x.ID=id
    ·have:¬ r.ID=id:=fun h'=>e2 (q.trans h'.symm)
     rw [if_pos q,if_neg this,if_pos q]
    ·rw [if_neg q,if_neg q]
theorem qw2 {r:qa} {l:List qa} (hl:Yh l) (hr:jT r=true):Yh (VJ r l):=by
 refine ⟨qoJ hl.1,fun y hy=>?_⟩
 rcases qz3 hy with rfl | hy | ⟨z,hz,e,rfl⟩
 ·exact hr
 ·exact hl.2 y hy
 ·exact qzG (hl.2 z hz) hr
theorem qy0 {r:qa}:∀ {l:List qa},(VJ r l).length≤l.length + 1
 | []=>Nat.le_refl _
 | x::l=>by
  unfold VJ
  split
  ·exact Nat.le_refl _
  ·split
   ·simp
   ·rw [List.length_cons,List.length_cons]
    have:=qy0 (r:=r) (l:=l); omega
def K7 (l0 a:List qa):List qa:=a.foldl (fun l r=>VJ r l) l0
theorem qsg:∀ {a l0:List qa},Yh l0→(∀ r∈a,jT r=true)→Yh (K7 l0 a)
 | [],_,h,_=>h
 | r::a,l0,h,ha=>qsg (a:=a) (qw2 h (ha r (List.mem_cons_self ..))) fun x hx=>ha x (List.mem_cons_of_mem _ hx)
theorem qzo {id:Vector UInt8 16}:∀ {a l0:List qa},Yb l0→rO (K7 l0 a) id=a.foldl qgK (rO l0) id
 | [],_,_=>rfl
 | r::a,l0,h=>by
  have:rO (VJ r l0)=qgK (rO l0) r:=funext fun i=>qLa h
  show rO (K7 (VJ r l0) a) id=a.foldl qgK (qgK (rO l0) r) id
  rw [← this]
  exact qzo (qoJ h)
theorem qEL {α σ:Type} {d:α} {f:σ→α→σ} {l:List α}:∀ {m k:Nat} {s:σ},k + m=l.length→zZ (fun k s=>f s (l.getD k d)) m k s=(l.drop k).foldl f s
 | 0,k,s,h=>by rw [List.drop_of_length_le (by omega)]; rfl
 | m + 1,k,s,h=>by
  rw [qv2 (d:=d) (by omega)]
  unfold zZ
  rw [qEL (by omega)]; rfl
section
variable {N:Nat} [QJ N]
theorem qqe {r:qa} (h:jT r=true):Q0 r=some ():=by
 have:=qa_ h
 unfold Q0 qco
 exact qF (by unfold qj9; unfold zg; show (qa.F r).length * 40≤_; have:(qa.F r).length≤8:=this; omega) (qF rfl (qp rfl))
theorem qDj {b:qc} {r:qa} (hb:Yh b.R) (hl:b.R.length≤100) (hr:jT r=true):vY N b r=some (qc.mk (VJ r b.R)):=by
 have hN:=big N
 have key:∃ y,qQ (vD N [] b r) some N ([],false,((0:Nat):Int))=some y∧∃ o d,y=(o,d,((b.R.length:Nat):Int),false)∧VJ r b.R=(if d=true then o else o++[r])∧o.length≤200:=by
  refine qly (I:=fun v=>∃ (k:Nat) (o:List qa) (d:Bool),k≤b.R.length∧v=(o,d,(k:Int))∧o.length≤2 * k∧VJ r b.R=(if d=true then o++b.R.drop k else o++VJ r (b.R.drop k))∧(d=true→∀ x∈b.R.drop k,x.ID≠r.ID)) (fun v=>b.R.length - v.2.2.toNat) ?_ N _ ⟨0,[],false,Nat.zero_le _,rfl,Nat.zero_le _,rfl,fun h=>(by cases h)⟩ (by simp; omega)
  rintro v ⟨k,o,d,hk,rfl,ho,hi,hd⟩
  by_cases h:k < b.R.length
  ·left
   have hdrop:=qv2 (d:=zR) h
   have hmem:b.R.getD k zR∈b.R:=by rw [List.getD_eq_getElem?_getD,List.getElem?_eq_getElem h]; exact List.getElem_mem h
   have hrec:=hb.2 _ hmem
   have hsd:Yb (b.R.drop k):=hb.1.sublist (List.drop_sublist _ _)
   rw [hdrop] at hsd
   have hp:=List.pairwise_cons.1 hsd
   have g:=zB (d:=zR) h
   have cav:∀ x:qa,jx o.length o.length (o++[x]).length 56:=fun x=>⟨rfl,by rw [List.length_append]; unfold zg; simp; omega⟩
   have cav2:∀ x:qa,jx (o++[r]).length (o++[r]).length (o++[r]++[x]).length 56:=fun x=>⟨rfl,by rw [List.length_append,List.length_append]; unfold zg; simp; omega⟩
   have ns:qj ((k:Int) + 1):=zT (by omega)
   have el:=qF3 (N:=N) r.ID (b.R.getD k zR).ID
   have same:∀ d':Bool,d'=true→(d=true∨lbB r.ID (b.R.getD k zR).ID=true)→¬ (b.R.getD k zR).ID=r.ID∧∀ x∈b.R.drop (k + 1),x.ID≠r.ID:=fun d' _ hc=>by
    rcases hc with hc | hc
    ·have:=hd hc
     rw [hdrop] at this
     exact ⟨this _ (List.mem_cons_self ..),fun x hx=>this x (List.mem_cons_of_mem _ hx)⟩
    ·refine ⟨fun e=>(by rw [e,YP] at hc; cases hc),fun x hx e=>?_⟩
     have:=qgk hc (hp.1 x hx)
     rw [e,YP] at this; cases this
   cases hb1:lbB r.ID (b.R.getD k zR).ID with
   | true=>
    obtain ⟨n1,n2⟩:=same true rfl (.inr hb1)
    have q:eqE (.ba 16) (qa.ID (b.R.getD k zR)) (qa.ID r)=false:=by rw [qhl]; exact decide_eq_false n1
    cases d with
    | false=>
     refine ⟨(o++[r]++[b.R.getD k zR],true,((k + 1:Nat):Int)),?_,⟨k + 1,_,_,h,rfl,by simp; omega,?_,fun _=>n2⟩,by simp only [Int.toNat_natCast]; omega⟩
     ·unfold vD
      exact w_t (dec_lt h) <| ql g <| ql el <| w_t hb1 <| w_t rfl <| ql (qqe hr) <| qF (cav _) <| ql g <| w_f q <| ql g <| ql (qqe hrec) <| qF (cav2 _) <| qF ns <| qp (by rw [qZ])
     ·rw [hi,if_neg (by simp),if_pos rfl,hdrop]
      rw [qvY,if_pos hb1]; simp
    | true=>
     refine ⟨(o++[b.R.getD k zR],true,((k + 1:Nat):Int)),?_,⟨k + 1,_,_,h,rfl,by simp; omega,?_,fun _=>n2⟩,by simp only [Int.toNat_natCast]; omega⟩
     ·unfold vD
      exact w_t (dec_lt h) <| ql g <| ql el <| w_t hb1 <| w_f rfl <| ql g <| w_f q <| ql g <| ql (qqe hrec) <| qF (cav _) <| qF ns <| qp (by rw [qZ])
     ·rw [hi,if_pos rfl,if_pos rfl,hdrop]; simp
   | false=>
    by_cases e:(b.R.getD k zR).ID=r.ID
    ·have q:eqE (.ba 16) (qa.ID (b.R.getD k zR)) (qa.ID r)=true:=by rw [qhl]; exact decide_eq_true e
     have hd0:d=false:=by
      cases d with
      | false=>rfl
      | true=>exact ((same true rfl (.inl rfl)).1 e).elim
     subst hd0
     refine ⟨(o++[rJ (b.R.getD k zR) r],true,((k + 1:Nat):Int)),?_,⟨k + 1,_,_,h,rfl,by simp; omega,?_,fun _ x hx e'=>?_⟩,by simp only [Int.toNat_natCast]; omega⟩
     ·unfold vD
      exact w_t (dec_lt h) <| ql g <| ql el <| w_f hb1 <| ql g <| w_t q <| ql g <| ql (qS4 hrec hr e) <| qF (cav _) <| qF ns <| qp (by rw [qZ])
     ·rw [hi,if_neg (by simp),if_pos rfl,hdrop]
      rw [qvY,if_neg (by rw [hb1]; simp),if_pos e]; simp
     ·have:=hp.1 x hx
      rw [e,e',YP] at this; cases this
    ·have q:eqE (.ba 16) (qa.ID (b.R.getD k zR)) (qa.ID r)=false:=by rw [qhl]; exact decide_eq_false e
     refine ⟨(o++[b.R.getD k zR],d,((k + 1:Nat):Int)),?_,⟨k + 1,_,_,h,rfl,by simp; omega,?_,fun hd'=>(same true rfl (.inl hd')).2⟩,by simp only [Int.toNat_natCast]; omega⟩
     ·unfold vD
      exact w_t (dec_lt h) <| ql g <| ql el <| w_f hb1 <| ql g <| w_f q <| ql g <| ql (qqe hrec) <| qF (cav _) <| qF ns <| qp (by rw [qZ])
     ·rw [hi,hdrop]
      cases d with
      | false=>
       rw [if_neg (by simp),if_neg (by simp)]
       rw [qvY,if_neg (by rw [hb1]; simp),if_neg e,List.append_assoc]; rfl
      | true=>rw [if_pos rfl,if_pos rfl]; simp
  ·right
   obtain rfl:k=b.R.length:=by omega
   rw [List.drop_of_length_le (Nat.le_refl _)] at hi
   refine ⟨(o,d,((b.R.length:Nat):Int),false),_,?_,rfl,o,d,rfl,?_,by omega⟩
   ·unfold vD
    exact w_f (zo (Nat.lt_irrefl _)) (qp (by rw [zo (Nat.lt_irrefl _)]))
   ·rw [hi,List.append_nil]; rfl
 obtain ⟨y,e,o,d,rfl,hi,ho⟩:=key
 unfold vY qcm
 refine ql ((zU rfl).trans ((zU rfl).trans e)) ?_
 rw [hi]
 cases d with
 | false=>exact w_t rfl (ql (qqe hr) (qF ⟨rfl,by rw [List.length_append]; unfold zg; simp; omega⟩ (qF rfl (qp rfl))))
 | true=>exact w_f rfl (qF rfl (qp rfl))
theorem qDu {W Y : Type} {B : qc × Int → Tree ((qc × Int) ⊕ W)} {g : W → Option Y} {R : List qa} {fin : qc × Int × Bool → W}
    (h1:∀ (c:qc) (k:Nat),k < R.length→∀ c',vY N c (R.getD k zR)=some c'→(B (c,(k:Int))).run some=some (.inl (c',((k + 1:Nat):Int))))
    (h2:∀ c,(B (c,((R.length:Nat):Int))).run some=some (.inr (fin (c,((R.length:Nat):Int),false))))
    (hR:∀ r∈R,jT r=true) (hn:R.length≤20) {l:List qa} (hl:Yh l) (hll:l.length≤50) {k:Nat} (hk:k≤R.length) :
    qQ B g N (qc.mk l,(k:Int))=g (fin (qc.mk (K7 l (R.drop k)),((R.length:Nat):Int),false)):=by
 have hN:=big N
 have:=jW (σ:=List qa) (B:=B) (g:=g) (at_:=fun k l=>(qc.mk l,(k:Int))) (I:=fun k l=>Yh l∧l.length≤50 + k) (f:=fun k l=>VJ (R.getD k zR) l) (n:=R.length)
  (fin:=fun l=>fin (qc.mk l,((R.length:Nat):Int),false)) (fun k l hk hi=>by
   have hmem:R.getD k zR∈R:=by rw [List.getD_eq_getElem?_getD,List.getElem?_eq_getElem hk]; exact List.getElem_mem hk
   have hlen:=qy0 (r:=R.getD k zR) (l:=l)
   refine ⟨h1 _ k hk _ (qDj (b:=qc.mk l) hi.1 (by show l.length≤100; omega) (hR _ hmem)),qw2 hi.1 (hR _ hmem),by omega⟩) (fun l _=>h2 _) N k l ⟨hl,by omega⟩ hk (by omega)
 rw [this,qEL (f:=fun l r=>VJ r l) (by omega)]
 rfl
theorem qRx {a b:qc} (ha:zG a=true) (hb:zG b=true):zr N a b=some (qrj (K7 (K7 [] a.R) b.R)):=by
 have hN:=big N
 have hA:=VU.1 ha
 have hB:=VU.1 hb
 have hnil:Yh []:=⟨List.Pairwise.nil,fun r hr=>absurd hr List.not_mem_nil⟩
 have hlen:∀ (a l:List qa),(K7 l a).length≤l.length + a.length:=by
  intro a
  induction a with
  | nil=>intro l; exact Nat.le_refl _
  | cons r a ih=>
   intro l
   have h1:=ih (VJ r l)
   have h2:=qy0 (r:=r) (l:=l)
   show (K7 (VJ r l) a).length≤_
   rw [List.length_cons]; omega
 have e7:Wi N [] [] a b=some (if a.R=[] then .inl () else .inr (qc.mk (K7 [] a.R),((a.R.length:Nat):Int),false)):=by
  obtain ⟨M,hM⟩:∃ M,N=M + 1:=⟨N - 1,by omega⟩
  have s1:Wi N [] [] a b=qQ (Xk N [] [] a b) (YQ N N ([],[],a,b)) (M + 1) ():=by rw [← hM]; rfl
  rw [s1]
  by_cases h0:a.R=[]
  ·rw [if_pos h0,zh (x:=.inr (.inl ())) (by unfold Xk; exact w_f (decide_eq_false (by show ¬ (0:Int) < ((a.R.length:Nat):Int); rw [h0]; decide)) (qp rfl))]; rfl
  ·have hpos:0 < a.R.length:=List.length_pos_iff.2 h0
   have hmem:a.R.getD 0 zR∈a.R:=by rw [List.getD_eq_getElem?_getD,List.getElem?_eq_getElem hpos]; exact List.getElem_mem hpos
   rw [if_neg h0,zh (x:=.inl (qc.mk (VJ (a.R.getD 0 zR) []),((1:Nat):Int))) (by
    unfold Xk
    exact w_t (decide_eq_true (by show (0:Int) < ((a.R.length:Nat):Int); omega)) (ql (zB (d:=zR) hpos) (qF rfl (ql (qDj (b:=qc.mk []) hnil (Nat.zero_le _) (hA.1.2 _ hmem)) (qp rfl)))))]
   show qQ (QH N [] [] a b) some N (qc.mk (VJ (a.R.getD 0 zR) []),((1:Nat):Int))=_
   rw [qDu (B:=QH N [] [] a b) (R:=a.R) (fin:=.inr) (fun c k hk c' hc=>by
    unfold QH
    exact w_t (dec_lt hk) (ql (zB (d:=zR) hk) (ql hc (qF (zT (by omega)) (qp (by rw [qZ])))))) (fun c=>by
    unfold QH
    exact w_f (zo (Nat.lt_irrefl _)) (qp (by rw [zo (Nat.lt_irrefl _)]))) hA.1.2 (by omega) (qw2 hnil (hA.1.2 _ hmem)) (by show (1:Nat)≤50; omega) hpos]
   obtain ⟨x,l,e⟩:=List.exists_cons_of_ne_nil h0
   rw [e]; rfl
 have e11:XA N [] [] b=some (if b.R=[] then .inl () else .inr (qc.mk (K7 [] b.R),((b.R.length:Nat):Int),false)):=by
  obtain ⟨M,hM⟩:∃ M,N=M + 1:=⟨N - 1,by omega⟩
  have s1:XA N [] [] b=qQ (Vu N [] [] b) (W3 N N ([],[],b)) (M + 1) ():=by rw [← hM]; rfl
  rw [s1]
  by_cases h0:b.R=[]
  ·rw [if_pos h0,zh (x:=.inr (.inl ())) (by unfold Vu; exact w_f (decide_eq_false (by show ¬ (0:Int) < ((b.R.length:Nat):Int); rw [h0]; decide)) (qp rfl))]; rfl
  ·have hpos:0 < b.R.length:=List.length_pos_iff.2 h0
   have hmem:b.R.getD 0 zR∈b.R:=by rw [List.getD_eq_getElem?_getD,List.getElem?_eq_getElem hpos]; exact List.getElem_mem hpos
   rw [if_neg h0,zh (x:=.inl (qc.mk (VJ (b.R.getD 0 zR) []),((1:Nat):Int))) (by
    unfold Vu
    exact w_t (decide_eq_true (by show (0:Int) < ((b.R.length:Nat):Int); omega)) (ql (zB (d:=zR) hpos) (qF rfl (ql (qDj (b:=qc.mk []) hnil (Nat.zero_le _) (hB.1.2 _ hmem)) (qp rfl)))))]
   show qQ (v_ N [] [] b) some N (qc.mk (VJ (b.R.getD 0 zR) []),((1:Nat):Int))=_
   rw [qDu (B:=v_ N [] [] b) (R:=b.R) (fin:=.inr) (fun c k hk c' hc=>by
    unfold v_
    exact w_t (dec_lt hk) (ql (zB (d:=zR) hk) (ql hc (qF (zT (by omega)) (qp (by rw [qZ])))))) (fun c=>by
    unfold v_
    exact w_f (zo (Nat.lt_irrefl _)) (qp (by rw [zo (Nat.lt_irrefl _)]))) hB.1.2 (by omega) (qw2 hnil (hB.1.2 _ hmem)) (by show (1:Nat)≤50; omega) hpos]
   obtain ⟨x,l,e⟩:=List.exists_cons_of_ne_nil h0
   rw [e]; rfl
 have e12:∀ l:List qa,Yh l→l.length≤50→WY N [] b (qc.mk l) 0=some (qc.mk (K7 l b.R),((b.R.length:Nat):Int),false):=fun l hl hll=>by
  have := qDu (N := N) (B := JS N [] b) (g := some) (R := b.R) (fin := id) (fun c k hk c' hc => by
      unfold JS
      exact w_t (dec_lt hk) (ql (zB (d:=zR) hk) (ql hc (qF (zT (by omega)) (qp (by rw [qZ])))))) (fun c=>by
      unfold JS
      exact w_f (zo (Nat.lt_irrefl _)) (qp (by rw [zo (Nat.lt_irrefl _)]; rfl))) hB.1.2 (by omega) hl hll (Nat.zero_le _)
  rw [List.drop_zero] at this
  exact this
 unfold zr WT
 refine ql (qk5 (qgf ha)) (ql (qk5 (qgf hb)) (w_f (by rw [ha]; rfl) (w_f (by rw [hb]; rfl) (ql ((zU rfl).trans ((zU rfl).trans e7)) ?_))))
 have room:∀ c:List qa,(Tree.cond (decide ((10:Int) < ((c.length:Nat):Int))) (.chk (0=0) (.ret (qc.mk [],(4:Int)))) (.ret (qc.mk c,0))).run some=some (qrj c):=fun c=>by
  unfold qrj
  by_cases h:c.length≤10
  ·rw [if_pos h]; exact w_f (decide_eq_false (by omega)) (qp rfl)
  ·rw [if_neg h]; exact w_t (decide_eq_true (by omega)) (qF rfl (qp rfl))
 by_cases h0:a.R=[]
 ·rw [if_pos h0,h0]
  refine w_l rfl (ql ((zU rfl).trans ((zU rfl).trans e11)) ?_)
  by_cases h1:b.R=[]
  ·rw [if_pos h1,h1]
   exact w_l rfl (w_f rfl (qF rfl (qp rfl)))
  ·rw [if_neg h1]
   exact w_r rfl (room _)
 ·rw [if_neg h0]
  have hfa:=qsg (a:=a.R) hnil hA.1.2
  have:=hlen a.R []
  exact w_r rfl (ql ((zU rfl).trans (e12 _ hfa (by simp at this; show (K7 [] a.R).length≤50; omega))) (room _))
theorem qQH {a b:qc} (fa:jL N a) (fb:jL N b) (h:¬ (zG a=true∧zG b=true)):zr N a b=some (qc.mk [],1):=by
 unfold zr WT
 refine ql (qk5 fa) (ql (qk5 fb) ?_)
 cases ha:zG a with
 | false=>exact w_t rfl (qF rfl (qp rfl))
 | true=>
  refine w_f rfl ?_
  cases hb:zG b with
  | false=>exact w_t rfl (qF rfl (qp rfl))
  | true=>exact (h ⟨ha,hb⟩).elim
theorem qSU {a b:qc} (fa:jL N a) (fb:jL N b):∃ x,Yo N a b=some x∧zr N a b=some x:=by
 by_cases h:zG a=true∧zG b=true
 ·obtain ⟨c,hc,e⟩:=qzf (N:=N) h.1 h.2
  have hA:=VU.1 h.1
  have hB:=VU.1 h.2
  have hnil:Yh []:=⟨List.Pairwise.nil,fun r hr=>absurd hr List.not_mem_nil⟩
  have hfa:=qsg (a:=a.R) hnil hA.1.2
  have hfb:=qsg (a:=b.R) hfa hB.1.2
  have hj:qlH a.R b.R (K7 (K7 [] a.R) b.R):=⟨hfb.1,fun id=>by
   have e1:rO (K7 [] a.R)=fun id=>rO a.R id:=funext fun i=>by
    rw [qzo List.Pairwise.nil,qpS hA.1.1]; rfl
   rw [qzo hfa.1,e1,qpS hB.1.1]⟩
  exact ⟨_,e,by rw [qMV hc hj]; exact qRx h.1 h.2⟩
 ·exact ⟨_,qzR fa fb h,qQH fa fb h⟩
end
end Go.Rx
end
set_option maxRecDepth 100000
noncomputable section
namespace Go.Rx
open Go.Proofs
end Go.Rx
end
set_option maxRecDepth 100000
noncomputable section
namespace Go.Rx
open Go.Proofs
end Go.Rx
end
set_option maxRecDepth 100000
noncomputable section
namespace Go.Rx
open Go.Proofs
section
variable {N:Nat} [QJ N]
theorem qBq {a b:qc} (fa:jL N a) (fb:jL N b):zr N a b=some (jB N a b):=by
 obtain ⟨x,e1,e2⟩:=qSU (N:=N) fa fb
 rw [e2]
 have:=qTC (N:=N) fa fb
 rw [e1] at this
 exact this
theorem qBo {p:qa}:Q5 (QG p)=decide (p.qW=zSt):=by
 unfold Q5 QG
 show (decide (p.qW=zSt)&&true)=_
 rw [Bool.and_true]
theorem qrp {p:qa}:Q5 (vC p)=decide (p.F.length=0):=by
 unfold Q5 vC
 show (true&&decide (p.F.length=0))=_
 rw [Bool.true_and]
theorem qIE {b:qc} {p:qa} (fb:jL N b) (h1:p.F.length < N) (h2:p.F.length≤4611686018427387904):WK N b p=some (Ka N b p):=by
 have hN:=big N
 have e0:∀ t:qa,eqE qm (qa.qW t) (qe.mk 0 0)=decide (t.qW=zSt):=fun t=>qhn _ _
 have fh:jL N (qc.mk [QG p]):=qlh (e:=QG p) (by show 0 < N; omega) (Nat.zero_le _)
 have fl:jL N (qc.mk [vC p]):=qlh (e:=vC p) h1 h2
 have dnot:∀ {n:Int},n=0→(!decide (n=0))=false:=fun h=>by rw [decide_eq_true h]; rfl
 have dnot':∀ {n:Int},¬ n=0→(!decide (n=0))=true:=fun h=>by rw [decide_eq_false h]; rfl
 have lz:(p.F.length=0→decide ((0:Int) < ((p.F.length:Nat):Int))=false)∧(p.F.length≠0→decide ((0:Int) < ((p.F.length:Nat):Int))=true):=⟨fun h=>decide_eq_false (by omega),fun h=>decide_eq_true (by omega)⟩
 unfold WK qcP
 refine ql (qk5 fb) <| ql (qxf _) <| ql (qwZ (r:=vC p) h1 h2) ?_
 unfold Ka qDN
 cases hb:zG b with
 | false=>rfl
 | true=>
  refine w_f rfl ?_
  have hst:stB (qa.qW p)=stB p.qW:=rfl
  rw [hst]
  cases hs:stB p.qW with
  | false=>
   rw [Bool.false_and,Bool.and_false,Bool.and_false]
   exact w_t rfl <| qF rfl <| qp rfl
  | true=>
   refine w_f rfl ?_
   rw [Bool.true_and,Bool.true_and]
   unfold qAg
   by_cases hz:p.qW=zSt
   ·have ez:eqE qm (qa.qW p) (qe.mk 0 0)=true:=(e0 p).trans (decide_eq_true hz)
    have eh:QX N b (QG p)=(b,0):=qCy (by rw [qBo,decide_eq_true hz])
    rw [eh]
    refine w_t ez ?_
    by_cases h0:p.F.length=0
    ·have hn:Q5 p=true:=by unfold Q5; rw [decide_eq_true hz,decide_eq_true h0]; rfl
     rw [hn]
     exact w_t (decide_eq_true (by show ((p.F.length:Nat):Int)=0; omega)) <| qF rfl <| qp rfl
    ·have hn:Q5 p=false:=by unfold Q5; rw [decide_eq_false h0,Bool.and_false]
     have el:QX N b (vC p)=jB N b (qc.mk [vC p]):=qvD (by rw [qrp,decide_eq_false h0])
     rw [hn,decide_eq_false h0,Bool.false_or]
     refine w_f (decide_eq_false (by show ¬ ((p.F.length:Nat):Int)=0; omega)) <| w_t (lz.2 h0) ?_
     cases hr:jT (vC p) with
     | false=>exact w_t rfl <| qF rfl <| qp rfl
     | true=>
      refine w_f rfl <| w_f (by rw [ez]; rfl) <| w_t (lz.2 h0) <| ql (qBq fb fl) ?_
      rw [if_pos (show (b,(0:Int)).2=0 from rfl),el]
      by_cases q:(jB N b (qc.mk [vC p])).2=0
      ·rw [if_pos q]; exact w_f (dnot q) <| qp rfl
      ·rw [if_neg q]; exact w_t (dnot' q) <| qF rfl <| qp rfl
   ·have ez:eqE qm (qa.qW p) (qe.mk 0 0)=false:=(e0 p).trans (decide_eq_false hz)
    have hn:Q5 p=false:=by unfold Q5; rw [decide_eq_false hz,Bool.false_and]
    have eh:QX N b (QG p)=jB N b (qc.mk [QG p]):=qvD (by rw [qBo,decide_eq_false hz])
    rw [eh,hn]
    refine w_f ez ?_
    by_cases h0:p.F.length=0
    ·rw [decide_eq_true h0,Bool.true_or]
     refine w_f (lz.1 h0) <| w_t (by rw [ez]; rfl) <| ql (qBq fb fh) ?_
     by_cases q:(jB N b (qc.mk [QG p])).2=0
     ·have el:QX N (jB N b (qc.mk [QG p])).1 (vC p)=((jB N b (qc.mk [QG p])).1,0):=qCy (by rw [qrp,decide_eq_true h0])
      rw [if_pos q,el]
      exact w_t (decide_eq_true q) <| w_f (lz.1 h0) <| w_f (dnot q) <| qp rfl
     ·rw [if_neg q]
      exact w_f (decide_eq_false q) <| w_t (dnot' q) <| qF rfl <| qp rfl
    ·rw [decide_eq_false h0,Bool.false_or]
     refine w_t (lz.2 h0) ?_
     cases hr:jT (vC p) with
     | false=>exact w_t rfl <| qF rfl <| qp rfl
     | true=>
      refine w_f rfl <| w_t (by rw [ez]; rfl) <| ql (qBq fb fh) ?_
      by_cases q:(jB N b (qc.mk [QG p])).2=0
      ·have fj:=qgf (N:=N) (qDx fb fh q).2.2.2
       have el:QX N (jB N b (qc.mk [QG p])).1 (vC p)=jB N (jB N b (qc.mk [QG p])).1 (qc.mk [vC p]):=qvD (by rw [qrp,decide_eq_false h0])
       rw [if_pos q,el]
       refine w_t (decide_eq_true q) <| w_t (lz.2 h0) <| ql (qBq fj fl) ?_
       by_cases q2:(jB N (jB N b (qc.mk [QG p])).1 (qc.mk [vC p])).2=0
       ·rw [if_pos q2]; exact w_f (dnot q2) <| qp rfl
       ·rw [if_neg q2]; exact w_t (dnot' q2) <| qF rfl <| qp rfl
      ·rw [if_neg q]
       exact w_f (decide_eq_false q) <| w_t (dnot' q) <| qF rfl <| qp rfl
theorem qMM {r:qa} (hN:r.F.length < N) (h62:r.F.length≤4611686018427387904):YY N r r=some true:=by
 have es:∀ f:qg,eqE qA f f=true:=fun f=>(Xz qA f f).2 rfl
 have key:K_ N r r 0=some (.inr (((r.F.length:Nat):Int),false)):=by
  have:=Wk (B:=Xh N r r) (g:=some) (q:=fun _=>true) (n:=r.F.length) (hit:=()) (fun k hk=>by
   unfold Xh
   exact w_t (dec_lt hk) <| ql (zB (d:=zF) hk) <| ql (zB (d:=zF) hk) <| w_f (by rw [es]; rfl) <| qF (zT (by omega)) <| qp (by rw [qZ]; rfl)) (by
   unfold Xh
   exact w_f (zo (Nat.lt_irrefl _)) (qp (by rw [zo (Nat.lt_irrefl _)]))) hN
  rw [show QK (fun _=>true) r.F.length=true from Zn.2 fun _ _=>rfl] at this
  exact this
 unfold YY qbv
 exact w_f (by rw [qhl,decide_eq_true rfl]; rfl) <| w_f (by rw [qhn,decide_eq_true rfl]; rfl) <| w_f (by rw [decide_eq_true rfl]; rfl) <| ql key <| w_r rfl <| qp rfl
theorem qLW {b:qc} (fb:jL N b):Y6 N b b=some true:=by
 have key:qac N b b 0=some (.inr (((b.R.length:Nat):Int),false)):=by
  have:=Wk (B:=VV N b b) (g:=some) (q:=fun _=>true) (n:=b.R.length) (hit:=()) (fun k hk=>by
   unfold VV
   exact w_t (dec_lt hk) <| ql (zB (d:=zR) hk) <| ql (zB (d:=zR) hk) <| ql (qMM (fb.2.2 k hk).1 (fb.2.2 k hk).2) <| w_f rfl <| qF (zT (by have:=fb.2.1; omega)) <| qp (by rw [qZ]; rfl)) (by
   unfold VV
   exact w_f (zo (Nat.lt_irrefl _)) (qp (by rw [zo (Nat.lt_irrefl _)]))) fb.1
  rw [show QK (fun _=>true) b.R.length=true from Zn.2 fun _ _=>rfl] at this
  exact this
 unfold Y6 qbE
 exact w_f (by rw [decide_eq_true rfl]; rfl) <| ql key <| w_r rfl <| qp rfl
end
end Go.Rx
end
set_option maxRecDepth 100000
noncomputable section
namespace Go.Rx
open Go.Proofs
theorem qBZ {p:qb}:vm p=true↔(p.zV=true∧(0≤p.zm∧p.zm≤200)∧(1≤p.Len∧p.Len≤200)∧p.Lit=[])∨(p.zV=false∧p.zm=0∧p.Len=0∧1≤((p.Lit.length:Nat):Int)∧((p.Lit.length:Nat):Int)≤200):=by
 unfold vm inP
 cases e:p.zV with
 | true=>
  rw [cond_true]
  simp only [Bool.and_eq_true,decide_eq_true_eq]
  constructor
  ·rintro ⟨⟨h1,h2⟩,h3⟩; exact .inl ⟨trivial,h1,h2,h3⟩
  ·rintro (⟨_,h1,h2,h3⟩ | ⟨h,_⟩)
   ·exact ⟨⟨h1,h2⟩,h3⟩
   ·cases h
 | false=>
  rw [cond_false]
  simp only [Bool.and_eq_true,decide_eq_true_eq]
  constructor
  ·rintro ⟨h1,h2⟩; exact .inr ⟨trivial,by rw [h1]; rfl,by rw [h1]; rfl,h2⟩
  ·rintro (⟨h,_⟩ | ⟨_,h1,h2,h3⟩)
   ·cases h
   ·refine ⟨?_,h3⟩
    obtain ⟨c,f,n,t⟩:=p
    have h1:f=0:=h1
    have h2:n=0:=h2
    have e:c=false:=e
    rw [h1,h2,e]; rfl
section
variable {N:Nat} [QJ N]
theorem qN5 {l m:List qb} (hl:l.length≤600):YX N l m=some (decide (l=m)):=by
 have hN:=big N
 unfold YX qbG
 by_cases hm:m.length=l.length
 ·have e : qaD N l m 0 = some (if QK (fun k => decide (l.getD k zP = m.getD k zP)) l.length then .inr (((l.length : Nat) : Int), false) else .inl ()) := by
     refine (Wk (B:=V9 N l m) (g:=some) (q:=fun k=>decide (l.getD k zP=m.getD k zP)) (n:=l.length) (hit:=()) (fun k hk=>?_) ?_ (by omega))
     ·unfold V9
      refine w_t (dec_lt hk) <| ql (zB (d:=zP) hk) <| ql (zB (d:=zP) (by omega)) <| jb rfl (fun h=>?_) fun h=>?_
      ·have h':decide (l.getD k zP=m.getD k zP)=false:=by rw [qGx,Bool.not_eq_true'] at h; exact h
       rw [h']; exact qp rfl
      ·have h':decide (l.getD k zP=m.getD k zP)=true:=by rw [qGx,Bool.not_eq_false'] at h; exact h
       rw [h']; exact qF (zT (by omega)) <| qp (by rw [qZ]; rfl)
     ·unfold V9
      exact w_f (zo (Nat.lt_irrefl _)) (qp (by rw [zo (Nat.lt_irrefl _)]))
  refine w_f (by rw [decide_eq_true (by omega)]; rfl) <| ql e ?_
  cases e:QK (fun k=>decide (l.getD k zP=m.getD k zP)) l.length with
  | true=>
   have:l=m:=qsY hm fun k hk=>of_decide_eq_true (Zn.1 e k hk)
   exact w_r rfl (qp (by rw [decide_eq_true this]))
  | false=>
   have:¬ l=m:=fun h=>by
    rw [Zn.2 (fun k _=>by rw [h]; exact decide_eq_true rfl)] at e; cases e
   exact w_l rfl (qp (by rw [decide_eq_false this]))
 ·exact w_t (by rw [decide_eq_false (by omega)]; rfl) (qp (by rw [decide_eq_false (fun h=>hm (by rw [h]))]))
theorem qPn {a b:qd} (hl:(qd.P a).length≤600):Y8 N a b=some (decide (a=b)):=by
 unfold Y8 qbk
 have no:∀ {p:Prop} [Decidable p],(a=b→p)→decide p=false→some false=some (decide (a=b)):=fun hp h=>by rw [decide_eq_false (fun e=>of_decide_eq_false h (hp e))]
 refine ql (qN5 hl) <| jb rfl (fun h0=>?_) fun h0=>qp (no (fun e=>by rw [e]) h0)
 refine jb rfl (fun h1=>?_) fun h1=>qp (no (fun e=>by rw [e]) h1)
 refine jb (qhl _ _) (fun h2=>?_) fun h2=>qp (no (fun e=>by rw [e]) h2)
 refine jb (qhn _ _) (fun h3=>?_) fun h3=>qp (no (fun e=>by rw [e]) h3)
 refine jb rfl (fun h4=>?_) fun h4=>qp (no (fun e=>by rw [e]) h4)
 refine jb rfl (fun h5=>?_) fun h5=>qp (no (fun e=>by rw [e]) h5)
 refine jb (qhl _ _) (fun h6=>?_) fun h6=>qp (no (fun e=>by rw [e]) h6)
 refine jb rfl (fun h7=>?_) fun h7=>qp (no (fun e=>by rw [e]) h7)
 refine qp ?_
 rw [qLg]
 have h0:=of_decide_eq_true h0; have h1:=of_decide_eq_true h1; have h2:=of_decide_eq_true h2; have h3:=of_decide_eq_true h3
 have h4:=of_decide_eq_true h4; have h5:=of_decide_eq_true h5; have h6:=of_decide_eq_true h6; have h7:=of_decide_eq_true h7
 refine congrArg some (decide_eq_decide.2 ⟨fun h8=>?_,fun e=>by rw [e]⟩)
 obtain ⟨a0,a1,a2,a3,a4,a5,a6,a7,a8⟩:=a
 obtain ⟨b0,b1,b2,b3,b4,b5,b6,b7,b8⟩:=b
 have h0:a5=b5:=h0; have h1:a0=b0:=h1; have h2:a1=b1:=h2; have h3:a2=b2:=h3
 have h4:a3=b3:=h4; have h5:a4=b4:=h5; have h6:a6=b6:=h6; have h7:a7=b7:=h7; have h8:a8=b8:=h8
 subst h0 h1 h2 h3 h4 h5 h6 h7 h8
 rfl
theorem qPV (o:qd):∃ r,Y0 o=some r∧(0≤o.Kind→o.Kind < 4→r=qw3 o):=by
 unfold Y0 qbs qw3
 by_cases h0:o.Kind=0
 ·refine ⟨_,w_f (by rw [decide_eq_true h0]; rfl) <| w_f (decide_eq_false (by show ¬ o.Kind=1; omega)) <| w_f (decide_eq_false (by show ¬ o.Kind=2; omega)) <| w_f (decide_eq_false (by show ¬ o.Kind=3; omega)) <| qp rfl,fun _ _=>?_⟩
  rw [if_neg (by omega),if_neg (by omega),if_neg (by omega)]
 by_cases h1:o.Kind=1
 ·refine ⟨_,w_t (by rw [decide_eq_false h0]; rfl) <| w_t (decide_eq_true h1) <| w_f (decide_eq_false (by show ¬ o.Kind=2; omega)) <| w_f (decide_eq_false (by show ¬ o.Kind=3; omega)) <| qp rfl,fun _ _=>?_⟩
  rw [if_pos h1]
 by_cases h2:o.Kind=2
 ·refine ⟨_,w_t (by rw [decide_eq_false h0]; rfl) <| w_f (decide_eq_false h1) <| w_t (decide_eq_true h2) <| w_f (decide_eq_false (by show ¬ o.Kind=3; omega)) <| qp rfl,fun _ _=>?_⟩
  rw [if_neg h1,if_pos h2]
 by_cases h3:o.Kind=3
 ·refine ⟨_,w_t (by rw [decide_eq_false h0]; rfl) <| w_f (decide_eq_false h1) <| w_f (decide_eq_false h2) <| w_t (decide_eq_true h3) <| qp rfl,fun _ _=>?_⟩
  rw [if_neg h1,if_neg h2,if_pos h3]
 ·exact ⟨_,w_t (by rw [decide_eq_false h0]; rfl) <| w_f (decide_eq_false h1) <| w_f (decide_eq_false h2) <| w_f (decide_eq_false h3) <| qp rfl,fun _ _=>by omega⟩
theorem qHg {b:qc} (h:zG b=true) (id:Vector UInt8 16):X3 N b id=some (recAt b id):=by
 have hN:=big N
 have h10:b.R.length≤10:=(VU.1 h).2
 have key:=qfY (B:=ZI N [] b id (Vector.replicate 16 0) (qe.mk 0 0)) (g:=some) (p:=fun k=>decide ((b.R.getD k zR).ID=id)) (n:=b.R.length) (hit:=fun k=>.inl (b.R.getD k zR)) (fin:=.inr (((b.R.length:Nat):Int),false)) (fun k hk=>by
  unfold ZI
  refine w_t (dec_lt hk) (ql (zB (d:=zR) hk) ?_)
  by_cases e:(b.R.getD k zR).ID=id
  ·exact w_t ((qhl _ _).trans (decide_eq_true e)) (ql (zB (d:=zR) hk) (qp (by rw [if_pos (decide_eq_true e)])))
  ·exact w_f ((qhl _ _).trans (decide_eq_false e)) (qF (zT (by omega)) (qp (by rw [if_neg (by rw [decide_eq_false e]; simp),qZ])))) (by
  unfold ZI
  exact w_f (zo (Nat.lt_irrefl _)) (qp (by rw [zo (Nat.lt_irrefl _)]))) N 0 (Nat.zero_le _) (by omega)
 rw [Nat.sub_zero] at key
 have e:ju [(([]:List qg).length,0)] (qay N [] b id (Vector.replicate 16 0) (qe.mk 0 0) 0)=qQ (ZI N [] b id (Vector.replicate 16 0) (qe.mk 0 0)) some N ((0:Nat):Int):=rfl
 unfold recAt qyV
 unfold X3 qbP
 refine ql (e.trans key) ?_
 cases Jz (fun k=>decide ((b.R.getD k zR).ID=id)) b.R.length 0<;>rfl
theorem qIG {r:qa} {no:Int} (h:r.F.length≤600):Qq N r no=some (cellAt r no):=by
 rw [qzj h]
 cases e:cO r.F no with
 | some c=>rw [qPz e]
 | none=>
  unfold cellAt
  rw [qPw e]; rfl
end
end Go.Rx
end
set_option maxRecDepth 100000
noncomputable section
namespace Go.Rx
open Go.Proofs
section
variable {N:Nat} [QJ N]
set_option maxHeartbeats 4000000 in
theorem qLV {l : List qb} {k : Nat} (hk : k < l.length) (hl : l.length ≤ 600) (hq : ∀ j, j < k → vm (l.getD j zP) = true) :
    (JD N l (qbe l k,(k:Int))).run some=some (if vm (l.getD k zP) then .inl (qbe l (k + 1),((k + 1:Nat):Int)) else .inr (.inl ())):=by
 have h1:=qC2 (k:=k) (Nat.le_of_lt hk) hq
 unfold JD
 refine w_t (dec_lt hk) <| ql (zB (d:=zP) hk) ?_
 rw [qu1 hk]
 generalize l.getD k zP=e at *
 generalize qbe l k=s at *
 have hi:=qnb (p:=e)
 have no:¬ (vm e=true)→some (Sum.inr (Sum.inl ()))=some (if vm e then (Sum.inl (s + (e.Len + ((e.Lit.length:Nat):Int)),((k + 1:Nat):Int)):(Int×Int)⊕jE) else .inr (.inl ())):=fun h=>by rw [if_neg h]
 have yes:vm e=true→(Tree.chk (qj (s + qb.Len e)) <| Tree.chk (qj ((s + qb.Len e) + (((qb.Lit e).length:Nat):Int))) <| Tree.chk (qj ((k:Int) + 1)) <| Tree.ret (Sum.inl ((s + qb.Len e) + (((qb.Lit e).length:Nat):Int),(k:Int) + 1):(Int×Int)⊕jE)).run some=some (if vm e then (Sum.inl (s + (e.Len + ((e.Lit.length:Nat):Int)),((k + 1:Nat):Int)):(Int×Int)⊕jE) else .inr (.inl ())):=fun h=>by
  have hi:=hi h
  rw [if_pos h]
  refine qF (show qj (s + e.Len) by unfold qj; omega) <| qF (show qj (s + e.Len + ((e.Lit.length:Nat):Int)) by unfold qj; omega) <| qF (zT (by omega)) <| qp ?_
  rw [qZ]
  show some (Sum.inl (s + e.Len + ((e.Lit.length:Nat):Int),((k + 1:Nat):Int)))=_
  rw [Int.add_assoc]
 have no:=fun h=>no (mt qBZ.1 h)
 have yes:=fun h=>yes (qBZ.2 h)
 clear hi h1
 repeat' (refine jb rfl (fun _=>?_) fun _=>?_)
 all_goals simp only [decide_eq_true_eq,decide_eq_false_iff_not,Bool.not_eq_true',Bool.not_eq_false'] at *
 all_goals first
  | (refine qp (no ?_); clear no yes hq; rintro (⟨a1,⟨a2,a3⟩,⟨a4,a5⟩,a6⟩ | ⟨a1,a2,a3,a4,a5⟩)<;>first | omega | (simp_all; done))
  | exact yes (.inl ⟨by assumption,⟨by omega,by omega⟩,⟨by omega,by omega⟩,by assumption⟩)
  | exact yes (.inr ⟨by assumption,by omega,by omega,by omega,by omega⟩)
  | (exfalso; clear no yes hq; first | omega | (simp_all; done))
theorem qGR {l:List qb} (hl:l.length≤600):WH N l=some (Wu l):=by
 have hN:=big N
 have key:qbK N l 0 0=some (if QK (fun k=>vm (l.getD k zP)) l.length then .inr (qbe l l.length,((l.length:Nat):Int),false) else .inl ()):=by
  refine (qrl (B:=JD N l) (g:=some) (at_:=fun k=>(qbe l k,(k:Int))) (q:=fun k=>vm (l.getD k zP)) (n:=l.length) (hit:=.inl ()) (fin:=.inr (qbe l l.length,((l.length:Nat):Int),false)) (fun k hk hq=>qLV hk hl hq) ?_ l.length 0 (by omega) N (by omega) (fun j hj=>by omega)).trans ?_
  ·unfold JD
   exact w_f (zo (Nat.lt_irrefl _)) (qp (by rw [zo (Nat.lt_irrefl _)]))
  ·split<;>rfl
 unfold WH qcr Wu
 refine ql key ?_
 cases QK (fun k=>vm (l.getD k zP)) l.length with
 | false=>rfl
 | true=>
  refine w_r rfl <| jb (c:=decide (l.length≤60)) (decide_eq_decide.2 (by omega)) (fun h=>qp ?_) fun h=>qp ?_
  ·rw [h]; rfl
  ·rw [h]; rfl
theorem qRs {o:qd} (hl:(qd.P o).length≤600):qaf N o=some (opB o):=by
 obtain ⟨r,er,hr⟩:=qPV o
 unfold qaf qc5
 have no:∀ {p:Prop} [Decidable p],(opB o=true→p)→decide p=false→some false=some (opB o):=fun {p} _ hp h=>by
  cases e:opB o with
  | false=>rfl
  | true=>exact (of_decide_eq_false h (hp e)).elim
 have nob:∀ {p:Bool},(opB o=true→p=true)→p=false→some false=some (opB o):=fun {p} hp h=>by
  cases e:opB o with
  | false=>rfl
  | true=>rw [hp e] at h; cases h
 have f:=fun h=>(qDo (o:=o)).1 h
 have hpos:opB o=true→0 < o.S.N:=fun h=>by
  obtain ⟨_,_,h0,hs,_⟩:=f h
  unfold stB at hs
  rw [decide_eq_false (fun e=>h0 e)] at hs
  simp only [Bool.false_or,Bool.and_eq_true,decide_eq_true_eq] at hs
  exact hs.1.1.1
 refine ql (qxf _) <| ql er <| ql (qPn hl) <| ql (qGR hl) ?_
 refine jb rfl (fun h1=>?_) fun h1=>qp (nob (fun e=>(f e).2.2.2.1) h1)
 refine jb rfl (fun h2=>?_) fun h2=>qp (no (fun e=>by
  have:=f e
  rw [hr this.1.1 this.1.2]; exact this.2.1) h2)
 refine jb rfl (fun h3=>?_) fun h3=>qp (nob (fun e=>(f e).2.2.2.2.2.2.2) h3)
 refine jb rfl (fun h4=>?_) fun h4=>qp (no hpos h4)
 refine jb rfl (fun h5=>?_) fun h5=>qp (no (fun e=>(f e).1.1) h5)
 refine jb rfl (fun h6=>?_) fun h6=>qp (no (fun e=>(f e).1.2) h6)
 refine jb rfl (fun h7=>?_) fun h7=>qp (no (fun e=>(f e).2.2.2.2.1.1) h7)
 refine jb rfl (fun h8=>?_) fun h8=>qp (no (fun e=>(f e).2.2.2.2.1.2) h8)
 refine jb rfl (fun h9=>?_) fun h9=>qp (no (fun e=>(f e).2.2.2.2.2.1.1) h9)
 refine jb rfl (fun h10=>?_) fun h10=>qp (no (fun e=>(f e).2.2.2.2.2.1.2) h10)
 have h2:=of_decide_eq_true h2; have h4:=of_decide_eq_true h4; have h5:=of_decide_eq_true h5; have h6:=of_decide_eq_true h6
 have h7:=of_decide_eq_true h7; have h8:=of_decide_eq_true h8; have h9:=of_decide_eq_true h9; have h10:=of_decide_eq_true h10
 refine qp (congrArg some ?_)
 rw [Bool.eq_iff_iff,qDo]
 constructor
 ·intro h11
  have h11:=of_decide_eq_true h11
  refine ⟨⟨h5,h6⟩,h2.trans (hr h5 h6),fun e=>?_,h1,⟨h7,h8⟩,⟨h9,h10⟩,by omega,h3⟩
  rw [e] at h4
  exact absurd h4 (by show ¬ (0:Int) < 0; omega)
 ·intro e
  have:o.V.length≤200:=e.2.2.2.2.2.2.1
  exact decide_eq_true (by show ((o.V.length:Nat):Int)≤200; omega)
end
end Go.Rx
end
set_option maxRecDepth 100000
noncomputable section
namespace Go.Rx
open Go.Proofs
section
variable {N:Nat} [QJ N]
theorem qEH {a : List UInt8} (ha : a.length ≤ 50000) {l : List qb} (hl : l.length ≤ 600) (hp : ∀ p ∈ l, vm p = true) :
    ∀ (m k:Nat) (acc:List UInt8),k + m=l.length→acc.length≤200 * k→∀ n,m < n→qQ (zQ N a l) some n (acc,(k:Int))=some (if (Zb a (l.drop k) acc).2=true then .inr ((Zb a (l.drop k) acc).1,((l.length:Nat):Int),false) else .inl ())
 | 0,k,acc,hk,hc,n + 1,_=>by
  obtain rfl:k=l.length:=by omega
  have h:(zQ N a l (acc,((l.length:Nat):Int))).run some=some (.inr (.inr (acc,((l.length:Nat):Int),false))):=by
   unfold zQ
   exact w_f (zo (Nat.lt_irrefl _)) (qp (by rw [zo (Nat.lt_irrefl _)]))
  rw [zh h,List.drop_length]
  rfl
 | m + 1,k,acc,hk,hc,n + 1,hn=>by
  have hkl:k < l.length:=by omega
  have hd:l.drop k=l.getD k zP::l.drop (k + 1):=by
   rw [List.drop_eq_getElem_cons hkl,List.getD_eq_getElem?_getD,List.getElem?_eq_getElem hkl]; rfl
  have hpk:vm (l.getD k zP)=true:=hp _ (by rw [List.getD_eq_getElem?_getD,List.getElem?_eq_getElem hkl]; exact List.getElem_mem hkl)
  rw [hd]
  obtain ⟨q1,q2,q3,q4⟩:=qyq hpk
  have hi:=qEH ha hl hp m (k + 1)
  have hg:=zB (d:=zP) hkl
  generalize l.getD k zP=e at *
  unfold Zb
  cases ec:e.zV with
  | false=>
   have h:(zQ N a l (acc,(k:Int))).run some=some (.inl (acc++e.Lit,((k + 1:Nat):Int))):=by
    unfold zQ
    exact w_t (dec_lt hkl) <| ql hg <| w_f ec <| qF (show qku (acc.length + e.Lit.length) by unfold qku; omega) <| qF (zT (by omega)) <| qp (by rw [qZ])
   rw [vM h]
   simp only [Bool.false_eq_true,↓reduceIte]
   exact hi (acc++e.Lit) (by omega) (by rw [List.length_append]; omega) n (by omega)
  | true=>
   have h4:=q4 ec
   by_cases hs:((a.length:Nat):Int) - e.zm < e.Len
   ·have h : (zQ N a l (acc, (k : Int))).run some = some (.inr (.inl ())) := by
       unfold zQ
       exact w_t (dec_lt hkl) <| ql hg <| w_t ec <| qF (show qj (e.zm + e.Len) by unfold qj; omega) <| w_t (decide_eq_true (by show ((a.length:Nat):Int) < e.zm + e.Len; omega)) <| qp rfl
    rw [zh h]
    simp only [↓reduceIte,hs,Bool.false_eq_true]
   ·have hdl:((a.take (e.zm + e.Len).toNat).drop e.zm.toNat).length≤200:=by rw [List.length_drop,List.length_take]; omega
    have h:(zQ N a l (acc,(k:Int))).run some=some (.inl (acc++(a.take (e.zm + e.Len).toNat).drop e.zm.toNat,((k + 1:Nat):Int))):=by
     unfold zQ
     exact w_t (dec_lt hkl) <| ql hg <| w_t ec <| qF (show qj (e.zm + e.Len) by unfold qj; omega) <| w_f (decide_eq_false (by show ¬ ((a.length:Nat):Int) < e.zm + e.Len; omega)) <| qF (show qj (e.zm + e.Len) by unfold qj; omega) <|
      qF (show 0≤e.zm∧e.zm≤e.zm + e.Len∧e.zm + e.Len≤((a.length:Nat):Int) by omega) <| qF (show qku (acc.length + ((a.take (e.zm + e.Len).toNat).drop e.zm.toNat).length) by unfold qku; omega) <| qF (zT (by omega)) <| qp (by rw [qZ])
    rw [vM h]
    simp only [↓reduceIte,hs,h4,List.append_nil]
    exact hi _ (by omega) (by rw [List.length_append]; omega) n (by omega)
 | _,_,_,_,_,0,h=>by omega
theorem qnE {a:List UInt8}:∀ {l:List qb} {acc:List UInt8},(Zb a l acc).2=false→Zb a l acc=([],false)
 | [],acc,h=>by cases h
 | p::l,acc,h=>by
  unfold Zb at h ⊢
  split
  ·rename_i hc
   rw [if_pos hc] at h
   split
   ·rfl
   ·rename_i hs
    rw [if_neg hs] at h
    exact qnE h
  ·rename_i hc
   rw [if_neg hc] at h
   exact qnE h
theorem qMq {a:List UInt8} (ha:a.length≤50000) {l:List qb} (h:Wu l=true):Xp N a l=some (Zb a l []):=by
 have hN:=big N
 obtain ⟨h1,h2,_⟩:=qBn.1 h
 have key:=qEH (N:=N) ha (l:=l) (by omega) h1 l.length 0 [] (by omega) (Nat.zero_le _) N (by omega)
 rw [List.drop_zero] at key
 have e:Kh N a l [] 0=qQ (zQ N a l) some N ([],((0:Nat):Int)):=rfl
 unfold Xp qav
 refine ql (qGR (by omega)) <| w_f (by rw [h]; rfl) <| ql (e.trans key) ?_
 cases e2:(Zb a l []).2 with
 | true=>
  refine w_r rfl (qp (congrArg some ?_))
  exact Prod.ext rfl e2.symm
 | false=>exact w_l rfl (qp (by rw [qnE e2]))
theorem qNb {b:qc} (hb:zG b=true) {o:qd} (ho:opB o=true) (h0:o.Kind≠0):Yk N b o=some (qoE b o (qkr b o)):=by
 have hN:=big N
 have hk:=qG7 ho
 have hp:Wu o.P=true:=(qDo.1 ho).2.2.2.2.2.2.2
 have chk:∀ {v:List UInt8},v.length≤50000→(Tree.bind (vI N v) fun r4=>Tree.cond (!(eqE (.ba 32) r4 (qd.D o))) (Tree.ret (([]:List UInt8),(7:Int))) (Tree.ret (v,0))).run some=some (qlY o (v,0)):=fun {v} hv=>by
  refine ql (qG4 (by omega) (by omega)) <| jb (congrArg (fun x=>!x) (qLg _ _)) (fun h=>qp ?_) fun h=>qp ?_
  ·rw [Bool.not_eq_true'] at h
   unfold qlY
   rw [if_pos rfl,if_neg (of_decide_eq_false h)]
  ·rw [Bool.not_eq_false'] at h
   unfold qlY
   rw [if_pos rfl,if_pos (of_decide_eq_true h)]
 unfold Yk qab qoE
 refine jb rfl (fun h1=>qp ?_) fun h1=>?_
 ·rw [if_pos (of_decide_eq_true h1)]
 rw [if_neg (of_decide_eq_false h1)]
 refine jb rfl (fun h2=>?_) fun h2=>?_
 ·have h2:o.Kind=2:=of_decide_eq_true h2
  rw [if_pos h2]
  have hl:=qiO hb o.zm o.jV
  refine ql (qHg hb _) <| ql (qIG (by have:=qq7 hb o.zm; omega)) ?_
  unfold Ye
  generalize cellAt (recAt b o.zm).1 o.jV=c at *
  cases ec:c.2 with
  | false=>exact w_t rfl <| qp rfl
  | true=>
   rw [if_pos rfl]
   refine w_f rfl <| w_f (decide_eq_false (by show ¬ o.Kind=3; omega)) (chk (by omega))
 ·have h1:o.Kind≠1:=of_decide_eq_false h1
  have h2:o.Kind≠2:=of_decide_eq_false h2
  have h3:o.Kind=3:=by omega
  rw [if_neg h2]
  have hl:=qiO hb o.ID o.No
  refine ql (qHg hb _) <| ql (qIG (by have:=qq7 hb o.ID; omega)) ?_
  unfold qkr Ye
  generalize cellAt (recAt b o.ID).1 o.No=c at *
  cases ec:c.2 with
  | false=>exact w_t rfl <| qp rfl
  | true=>
   rw [if_pos rfl,if_pos rfl]
   have e1:=qMq (N:=N) (a:=c.1.V) (by omega) hp
   have e2:=(qDZ (N:=N) (a:=c.1.V) (by omega) hp).2
   refine w_f rfl <| w_t (decide_eq_true h3) <| ql e1 ?_
   show (Tree.cond (!(Zb c.1.V o.P []).2) _ _).run some=some (if (Zb c.1.V o.P []).2=true then qlY o ((Zb c.1.V o.P []).1,0) else ([],7))
   generalize Zb c.1.V o.P []=z at *
   cases ez:z.2 with
   | false=>exact w_t rfl <| qp rfl
   | true=>
    rw [if_pos rfl]
    exact w_f rfl (chk (by omega))
theorem qUH {b:qc} (fb:jL N b) {o:qd} (hl:(qd.P o).length≤600):qb9 N b o=some (doD N b o (qkr b o)):=by
 have hN:=big N
 unfold qb9 qef doD
 refine ql (qk5 fb) <| ql (qRs hl) ?_
 cases hb:zG b with
 | false=>exact w_t rfl <| qF rfl <| qp (by rw [if_neg (fun h=>by cases h.1)])
 | true=>
  refine w_f rfl ?_
  cases ho:opB o with
  | false=>exact w_t rfl <| qF rfl <| qp (by rw [if_neg (fun h=>by cases h.2)])
  | true=>
   refine w_f rfl ?_
   rw [if_pos ⟨rfl,rfl⟩]
   refine jb rfl (fun h0=>?_) fun h0=>?_
   ·rw [if_pos (of_decide_eq_true h0)]
    exact ql (qIE (p:=qH4 o) fb (by show 0 < N; omega) (Nat.zero_le _)) <| qp rfl
   ·rw [if_neg (of_decide_eq_false h0)]
    refine ql (qNb hb ho (of_decide_eq_false h0)) ?_
    unfold qCH
    generalize qoE b o (qkr b o)=v
    by_cases hz:v.2=0
    ·rw [if_pos hz]
     exact w_f (by rw [decide_eq_true hz]; rfl) <| ql (qIE (p:=qAe o v.1) fb (by show 1 < N; omega) (by show 1≤4611686018427387904; omega)) <| qp rfl
    ·rw [if_neg hz]
     exact w_t (by rw [decide_eq_false hz]; rfl) <| qF rfl <| qp rfl
theorem qSb {b:qc} {o:qd} {m:List UInt8×Int}:jL N (doD N b o m).1:=by
 have hN:=big N
 by_cases hd:(doD N b o m).2=0
 ·obtain ⟨_,_,r,hr1,_,e,_⟩:=qSR hd
  rw [e] at hd ⊢
  exact qgf (qOs (by omega) (by omega) hd).2.1
 ·rw [qUz hd]
  exact ⟨by show 0 < N; omega,Nat.zero_le _,fun k hk=>absurd hk (Nat.not_lt_zero k)⟩
theorem qOS {b:qc} (fb:jL N b) (o:qd):ZB N b o=some true:=by
 have hN:=big N
 obtain ⟨x,ex⟩:=qTM (N:=N) b
 obtain ⟨y,ey,hy⟩:=qTb (N:=N) o
 unfold ZB Kc
 refine ql (show qIV=some true from rfl) <| ql ex <| ql ey <| w_f rfl ?_
 cases x with
 | false=>rfl
 | true=>
 refine w_f rfl ?_
 cases y with
 | false=>rfl
 | true=>
 obtain ⟨hp,_⟩:=hy rfl
 exact w_f rfl <| ql (qUU fb (by omega) (by omega)) <| ql (qUH fb (by omega)) <| ql (qLW qSb) <| w_t rfl <| qp (by rw [decide_eq_true rfl])
end
theorem qU5 (b:qc) (o:qd) (h1:b.R.length≤4611686018427387904) (h2:∀ k,k < b.R.length→(b.R.getD k zR).F.length≤4611686018427387904):∃ N:Nat,ZB N b o=some true:=by
 obtain ⟨M,hM⟩:=qV2 b h1 h2
 have:QJ (100000 + M):=QJ.of (by omega)
 exact ⟨_,qOS (hM (100000 + M) (by omega)) o⟩
end Go.Rx
end
