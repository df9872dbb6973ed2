/- A part of the proof of AboveLess: the law returns true for every input, and its arguments read as before. No condition. -/
import Derived.Test.YtmnngfcoenhhkaaGreatAboveLessF
set_option linter.unusedSimpArgs false
set_option linter.unusedVariables false
set_option linter.unusedSectionVars false
set_option maxRecDepth 100000
noncomputable section
namespace Go.Rx
open Go.Proofs
def qOW:Vector UInt32 8:=#v[1779033703,3144134277,1013904242,2773480762,1359893119,2600822924,528734635,1541459225]
def qOZ:Vector UInt32 64:=#v[1116352408,1899447441,3049323471,3921009573,961987163,1508970993,2453635748,2870763221,
 3624381080,310598401,607225278,1426881987,1925078388,2162078206,2614888103,3248222580,
 3835390401,4022224774,264347078,604807628,770255983,1249150122,1555081692,1996064986,
 2554220882,2821834349,2952996808,3210313671,3336571891,3584528711,113926993,338241895,
 666307205,773529912,1294757372,1396182291,1695183700,1986661051,2177026350,2456956037,
 2730485921,2820302411,3259730800,3345764771,3516065817,3600352804,4094571909,275423344,
 430227734,506948616,659060556,883997877,958139571,1322822218,1537002063,1747873779,
 1955562222,2024104815,2227730452,2361852424,2428436474,2756734187,3204031479,3329325298]
def Y1 (L:Nat):Nat:=(119 - L % 64) % 64
theorem qgW (n:Int):inB (IntKind.u8.wrap n):=by
 unfold inB
 have:IntKind.u8.wrap n=n % 256:=by simp [IntKind.wrap,IntKind.bits,IntKind.signed]
 rw [this]; omega
theorem qKa (a b:Nat):((a:Nat):Int).tmod ((b:Nat):Int)=((a % b:Nat):Int):=rfl
theorem qBY (a b:Nat):((a:Nat):Int).tdiv ((b:Nat):Int)=((a / b:Nat):Int):=rfl
theorem qef {n k:Nat} (h:k≤2000000000):jF n n k 1:=⟨rfl,by unfold zc; omega⟩
theorem qN0 {N:Nat} {o:Vector UInt8 32} {b:List UInt8} (hb:b.length≤1000000000) (hN:64 < N):qgz N o b (b++[128])=some (b++[128]++List.replicate (Y1 b.length) 0,false):=by
 have hz:Y1 b.length < 64:=Nat.mod_lt _ (by omega)
 have h56:(b.length + 1 + Y1 b.length) % 64=56:=by unfold Y1; omega
 have hlen:∀ k,(b++[128]++List.replicate k (0:UInt8)).length=b.length + 1 + k:=fun k=>by simp; omega
 have hne:∀ k,k < Y1 b.length→(b.length + 1 + k) % 64≠56:=fun k hk=>by unfold Y1 at *; omega
 have e0:qgz N o b (b++[128])=qY (KU N o b) some N (b++[128]++List.replicate 0 (0:UInt8)):=by rw [List.replicate_zero,List.append_nil]; rfl
 rw [e0]
 refine (vZ (σ:=Unit) (B:=KU N o b) (g:=some) (at_:=fun k _=>b++[128]++List.replicate k (0:UInt8)) (I:=fun _ _=>True) (f:=fun _ s=>s) (n:=Y1 b.length)
  (fin:=fun _=>(b++[128]++List.replicate (Y1 b.length) 0,false)) (fun k s hk _=>⟨?_,trivial⟩) (fun s _=>?_) N 0 () trivial (Nat.zero_le _) (by omega))
 ·unfold KU
  have c1:(64:Int)≠0:=by omega
  have e:decide ((((b++[128]++List.replicate k (0:UInt8)).length:Nat):Int).tmod 64=56)=false:=decide_eq_false (by
   rw [hlen]
   have:=hne k hk
   show ¬ (((b.length + 1 + k) % 64:Nat):Int)=56
   omega)
  have c2:jF (b++[128]++List.replicate k (0:UInt8)).length (b++[128]++List.replicate k (0:UInt8)).length ((b++[128]++List.replicate k (0:UInt8))++[UInt8.ofNat 0]).length 1:=qef (by rw [List.length_append,hlen]; simp; omega)
  rw [qR,qg c1,qF,e,Bool.not_false,cond_true,qR,qg c2,qO]
  rw [List.replicate_succ',← List.append_assoc]
  rfl
 ·unfold KU
  have c1:(64:Int)≠0:=by omega
  have e:decide ((((b++[128]++List.replicate (Y1 b.length) (0:UInt8)).length:Nat):Int).tmod 64=56)=true:=decide_eq_true (by
   rw [hlen]
   show (((b.length + 1 + Y1 b.length) % 64:Nat):Int)=56
   omega)
  rw [qR,qg c1,qF,e,Bool.not_true,cond_false,qO]
def qLy (L k:Nat):UInt8:=UInt8.ofNat (IntKind.u8.wrap (Qz (qOz .u64 (IntKind.u64.wrap ((L:Nat):Int)) 8) (min ((8:Int) * ((7:Int) - (k:Int))).toNat 64))).toNat
def qmU (L k:Nat) (l:List UInt8):List UInt8:=l++[qLy L k]
theorem qCM {L:Nat}:∀ (m k:Nat) (l:List UInt8),(Zb (qmU L) m k l).length=l.length + m
 | 0,_,_=>rfl
 | m + 1,k,l=>by
  show (Zb (qmU L) m (k + 1) (qmU L k l)).length=_
  rw [qCM m]; unfold qmU; rw [List.length_append]; simp; omega
theorem qMy {N:Nat} {o:Vector UInt8 32} {b l:List UInt8} (hl:l.length≤1500000000) (hN:64 < N):qmQ N o b l 0=some (Zb (qmU b.length) 8 0 l,(8:Int),false):=by
 refine (vZ (σ:=List UInt8) (B:=qdi N o b) (g:=some) (at_:=fun k s=>(s,(k:Int))) (I:=fun k s=>s.length=l.length + k) (f:=qmU b.length) (n:=8)
  (fin:=fun s=>(s,(8:Int),false)) (fun k s hk hs=>⟨?_,?_⟩) (fun s _=>?_) N 0 l rfl (Nat.zero_le _) (by omega))
 ·have d1:decide ((k:Int) < 8)=true:=decide_eq_true (by omega)
  have c1:qt ((7:Int) - (k:Int)):=by unfold qt; omega
  have c2:qt ((8:Int) * ((7:Int) - (k:Int))):=by unfold qt; omega
  have c3:(0:Int)≤(8:Int) * ((7:Int) - (k:Int)):=by omega
  have c4:qt ((k:Int) + 1):=by unfold qt; omega
  have c5:jF s.length s.length (s++[qLy b.length k]).length 1:=qef (by rw [List.length_append,hs]; simp; omega)
  unfold qdi
  rw [qF,d1,cond_true]
  simp only [qR,qO]
  rw [qg c1,qg c2,qg c3,qg (qgW _)]
  show chk (jF s.length s.length (s++[qLy b.length k]).length 1) _=_
  rw [qg c5,qg c4,zi]
  rfl
 ·unfold qmU; rw [List.length_append,hs]; simp; omega
 ·unfold qdi
  rfl
def chF (K:Vector UInt32 64):Nat→Vector UInt32 8→List UInt8→Vector UInt32 8
 | 0,s,_=>s
 | m + 1,s,l=>chF K m (qzS s K (l.take 64)) (l.drop 64)
theorem qMn {N : Nat} {o : List UInt8} {o2 : Vector UInt8 32} {o3 : Vector UInt32 8} {K : Vector UInt32 64} (hN : 64 < N) : ∀ (m n : Nat) (s : Vector UInt32 8) (l : List UInt8), l.length = 64 * m → m < n →
    qY (Yb N o o2 o3 K) some n (s,l)=some (.inr (chF K m s l,[],false))
 | 0,n + 1,s,l,hl,_=>by
  have:l=[]:=List.length_eq_zero_iff.1 (by omega)
  subst this
  exact jq (by unfold Yb; rfl) n
 | m + 1,n + 1,s,l,hl,hn=>by
  have d1:decide ((0:Int) < ((l.length:Nat):Int))=true:=decide_eq_true (by omega)
  have c1:(0:Int)≤0∧(0:Int)≤64∧(64:Int)≤((l.length:Nat):Int):=by omega
  have c2:(0:Int)≤64∧(64:Int)≤((l.length:Nat):Int):=by omega
  have ht:((l.take 64).drop 0).length=64:=by rw [List.drop_zero,List.length_take]; omega
  rw [WN (v':=(qzS s K (l.take 64),l.drop 64)) (by
   unfold Yb
   rw [qF,d1,cond_true,qR,qg c1,run_bind,qE3 hN ht,Option.bind_some,qR,qg c2,qO,List.drop_zero]) n]
  exact qMn hN m n _ _ (by rw [List.length_drop]; omega) (by omega)
 | _,0,_,_,_,hn=>by omega
theorem qHI {N m : Nat} {all : List UInt8} {o2 : Vector UInt8 32} {s : Vector UInt32 8} {K : Vector UInt32 64} (hN : 64 < N) (hm : m + 1 < N) (hl : all.length = 64 * (m + 1)) :
    qaW N all o2 s K=some (.inr (chF K (m + 1) s all,[],false)):=by
 have d1:decide ((0:Int) < ((all.length:Nat):Int))=true:=decide_eq_true (by omega)
 have c1:(0:Int)≤0∧(0:Int)≤64∧(64:Int)≤((all.length:Nat):Int):=by omega
 have c2:(0:Int)≤64∧(64:Int)≤((all.length:Nat):Int):=by omega
 have ht:((all.take 64).drop 0).length=64:=by rw [List.drop_zero,List.length_take]; omega
 have hrun:(qbj N all o2 s K ()).run some=some (.inr (.inl (qzS s K (all.take 64),all.drop 64))):=by
  unfold qbj
  rw [qF,d1,cond_true,qR,qg c1,qR,qg rfl,run_bind,qE3 hN ht,Option.bind_some,qR,qg c2,qR,qg rfl,qO,List.drop_zero]
 obtain ⟨N',rfl⟩:∃ N',N=N' + 1:=⟨N - 1,by omega⟩
 have e:qaW (N' + 1) all o2 s K=qY (qbj (N' + 1) all o2 s K) (qfw (N' + 1) (N' + 1) (all,o2,s,K)) (N' + 1) ():=rfl
 rw [e,jq hrun]
 exact qMn (o:=all) (o2:=o2) (o3:=s) hN m (N' + 1) _ _ (by rw [List.length_drop]; omega) (by omega)
def qNL (s:Vector UInt32 8) (k:Nat):UInt8:=UInt8.ofNat (IntKind.u8.wrap (c32 (wAt s (k / 4) >>> UInt32.ofNat (24 - 8 * (k % 4))))).toNat
def qLz (s:Vector UInt32 8) (k:Nat) (o:Vector UInt8 32):Vector UInt8 32:=o.setIfInBounds k (qNL s k)
def qOi (s:Vector UInt32 8):Vector UInt8 32:=Zb (qLz s) 32 0 (Vector.replicate 32 0)
theorem qN8 {N:Nat} {o:Vector UInt8 32} {s:Vector UInt32 8} (hN:64 < N):qek N o s (Vector.replicate 32 0) 0=some (qOi s,(32:Int),false):=by
 refine (vZ (σ:=Vector UInt8 32) (B:=qbn N o s) (g:=some) (at_:=fun k s=>(s,(k:Int))) (I:=fun _ _=>True) (f:=qLz s) (n:=32)
  (fin:=fun s=>(s,(32:Int),false)) (fun k x hk _=>⟨?_,trivial⟩) (fun x _=>?_) N 0 (Vector.replicate 32 0) trivial (Nat.zero_le _) (by omega))
 ·have d1:decide ((k:Int) < 32)=true:=decide_eq_true (by omega)
  have e1:(k:Int).tdiv 4=((k / 4:Nat):Int):=qBY k 4
  have e2:(k:Int).tmod 4=((k % 4:Nat):Int):=qKa k 4
  have h4:(4:Int)≠0:=by omega
  have c1:qt (((k / 4:Nat)):Int):=by unfold qt; omega
  have c2:(0:Int)≤((k / 4:Nat):Int)∧((k / 4:Nat):Int) < ((8:Nat):Int):=by omega
  have c3:k / 4 < 8:=by omega
  have c4:qt ((8:Int) * ((k % 4:Nat):Int)):=by unfold qt; omega
  have e3:(24:Int) - (8:Int) * ((k % 4:Nat):Int)=((24 - 8 * (k % 4):Nat):Int):=by omega
  have c5:qt ((24 - 8 * (k % 4):Nat):Int):=by unfold qt; omega
  have c6:(0:Int)≤((24 - 8 * (k % 4):Nat):Int):=by omega
  have c7:(0:Int)≤(k:Int)∧(k:Int) < ((32:Nat):Int):=by omega
  have c8:qt ((k:Int) + 1):=by unfold qt; omega
  unfold qbn qLz qNL
  rw [qF,d1,cond_true]
  simp only [qR,qO]
  rw [e1,e2,e3,qg h4,qg c1,qg c2,Int.toNat_natCast,qg c3,qg h4,qg c4,qg c5,qg c6,qg c7,qg (qgW _),Int.toNat_natCast,qg hk,qg c8,Int.toNat_natCast,Nat.min_eq_left (show 24 - 8 * (k % 4)≤32 by omega)]
  rw [zi]
  show some (Sum.inl (x.setIfInBounds k (UInt8.ofNat (IntKind.u8.wrap (Qz (c32 (wAt s (k / 4))) (24 - 8 * (k % 4)))).toNat),_))=_
  rw [qzR _ _ (by omega)]
 ·unfold qbn
  rfl
def qtr (b:List UInt8):List UInt8:=Zb (qmU b.length) 8 0 (b++[128]++List.replicate (Y1 b.length) 0)
def ve (b:List UInt8):Vector UInt8 32:=qOi (chF qOZ ((qtr b).length / 64) qOW (qtr b))
theorem qMJ (b:List UInt8):∃ m,(qtr b).length=64 * (m + 1)∧m≤b.length:=by
 have h:(qtr b).length=b.length + 1 + Y1 b.length + 8:=by unfold qtr; rw [qCM]; simp; omega
 rw [h]
 refine ⟨(b.length + 1 + Y1 b.length + 8) / 64 - 1,?_,?_⟩
 ·unfold Y1; omega
 ·unfold Y1; omega
theorem qJU {l:List UInt8} (h:l.length≤1000000000):Wc l=some ():=by
 unfold Wc
 cases l with
 | nil=>kernel_rfl
 | cons x r=>
  show qjs (x::r)=_
  unfold qjs qfk
  have h2:jF ([]:List UInt8).length 0 ([]++x::r).length 1:=⟨rfl,by rw [List.nil_append]; unfold zc; omega⟩
  rw [qR,qg (List.isEmpty_cons),qR,qg h2,qO]
theorem qp1 {Z:Type} {a:Nat} {o:Option Z}:je [(a,a)] o=o:=(zx rfl).trans (qxY o)
theorem qLb:qn_=some ():=by kernel_rfl
theorem qKh:qo_=some ():=by kernel_rfl
theorem qIT {N:Nat} {b:List UInt8} (hb:b.length≤1000000000) (hN:b.length + 100 < N):X8 N b=some (ve b):=by
 obtain ⟨m,hm,hmb⟩:=qMJ b
 have c1:jF (([]:List UInt8)++b).length (([]:List UInt8)++b).length ((([]:List UInt8)++b)++[UInt8.ofNat 128]).length 1:=qef (by rw [List.nil_append,List.length_append]; simp; omega)
 have hpad:=qN0 (N:=N) (o:=Vector.replicate 32 0) hb (by omega)
 have hlen:=qMy (N:=N) (o:=Vector.replicate 32 0) (b:=b) (l:=b++[128]++List.replicate (Y1 b.length) 0) (by have:Y1 b.length < 64:=Nat.mod_lt _ (by omega); simp; omega) (by omega)
 have hch:∀ (s:Vector UInt32 8) (K:Vector UInt32 64),qaW N (Zb (qmU b.length) 8 0 (b++[128]++List.replicate (Y1 b.length) 0)) (Vector.replicate 32 0) s K=some (.inr (chF K (m + 1) s (qtr b),[],false)):=fun s K=>qHI (by omega) (by omega) hm
 have hd:(qtr b).length / 64=m + 1:=by rw [hm]; omega
 have e1:(([]:List UInt8)++b)++[UInt8.ofNat 128]=b++[128]:=rfl
 unfold X8 qpU ve
 rw [run_bind,qJU hb,Option.bind_some,qR,qg c1,run_bind,e1,qp1,hpad,Option.bind_some]
 dsimp only
 rw [run_bind,qp1,hlen,Option.bind_some]
 dsimp only
 rw [run_bind,qLb,Option.bind_some,run_bind,qKh,Option.bind_some,run_bind,qp1,hch,Option.bind_some,qAr,run_bind,qN8 (by omega),Option.bind_some,qO,hd]
 rfl
end Go.Rx
end
set_option maxRecDepth 100000
noncomputable section
namespace Go.Rx
open Go.Proofs
section n
variable {N:Nat} [Vv N]
theorem qI7 {n:Int} (h0:0≤n) (h1:n < 18446744073709551616):∃ r:Nat,qeq N n=some (r:Int)∧1≤r∧r≤10:=by
 have key:∃ y,qdM N (Qz n 7) 1=some y∧1≤y.2.1∧y.2.1≤10:=by
  refine VC (B:=W4 N) (g:=some) (I:=fun v=>0≤v.1∧1≤v.2∧v.2≤10∧v.1 < (128:Int) ^ (10 - v.2.toNat)) (fun v=>11 - v.2.toNat) ?_ N _ ⟨?_,by omega,by omega,?_⟩ (by have:=big N; simp; omega)
  ·rintro ⟨a,k⟩ ⟨g0,g1,g2,g3⟩
   simp only at g0 g1 g2 g3
   by_cases h:0 < a
   ·left
    have hk:k≤9:=by
     by_cases e:k=10
     ·subst e
      have:(128:Int) ^ (10 - (10:Int).toNat)=1:=rfl
      omega
     ·omega
    have c1:qt (k + 1):=by unfold qt; omega
    have c2:(0:Int)≤7:=by omega
    refine ⟨(Qz a 7,k + 1),?_,⟨?_,?_,?_,?_⟩,?_⟩
    ·unfold W4
     rw [qF,decide_eq_true h,cond_true,qR,qg c1,qR,qg c2,qO]
    ·show 0≤a.fdiv (2 ^ 7)
     rw [Int.fdiv_eq_ediv_of_nonneg _ (by omega)]; omega
    ·simp only; omega
    ·simp only; omega
    ·show a.fdiv (2 ^ 7) < (128:Int) ^ (10 - (k + 1).toNat)
     rw [Int.fdiv_eq_ediv_of_nonneg _ (by omega)]
     have e:10 - k.toNat=(10 - (k + 1).toNat) + 1:=by omega
     rw [e,Int.pow_succ] at g3
     have:(2:Int) ^ 7=128:=rfl
     omega
    ·simp only; omega
   ·right
    refine ⟨(a,k,false),_,?_,rfl,g1,g2⟩
    unfold W4
    rw [qF,decide_eq_false h,cond_false,qO]
  ·show 0≤n.fdiv (2 ^ 7)
   rw [Int.fdiv_eq_ediv_of_nonneg _ (by omega)]; omega
  ·show n.fdiv (2 ^ 7) < (128:Int) ^ (10 - (1:Int).toNat)
   rw [Int.fdiv_eq_ediv_of_nonneg _ (by omega)]
   have:(128:Int) ^ (10 - (1:Int).toNat)=9223372036854775808:=rfl
   rw [this]; omega
 obtain ⟨y,e,h2,h3⟩:=key
 refine ⟨y.2.1.toNat,?_,by omega,by omega⟩
 unfold qeq qfo
 rw [qR,qg (by omega),run_bind,e,Option.bind_some,qO,Int.toNat_of_nonneg (by omega)]
theorem qIu (a b:Int):inB (uOr .u8 a b):=qgW _
theorem qIB (a b:Int):inB (qqK .u8 a b):=qgW _
theorem qN4 {n:Int} {r:Nat} (hr:r≤10):∀ l:List UInt8,l.length=r→∃ y,qel N n (r:Int) r (r:Int) l 0=some y∧y.1.length=r:=fun l hl=>by
 refine VC (B:=qbe N n (r:Int) r (r:Int)) (g:=some) (I:=fun v=>v.1.length=r∧∃ k:Nat,k≤r∧v.2=(k:Int)) (fun v=>r - v.2.toNat) ?_ N _ ⟨hl,0,Nat.zero_le _,rfl⟩ (by have:=big N; simp; omega)
 rintro ⟨l,v⟩ ⟨hl,k,hk,hv⟩
 simp only at hl hv
 subst hv
 by_cases h:k < r
 ·left
  have c1:qt ((r:Int) - 1):=by unfold qt; omega
  have c2:qt ((r:Int) - 1 - (k:Int)):=by unfold qt; omega
  have c3:qt ((7:Int) * (k:Int)):=by unfold qt; omega
  have c4:(0:Int)≤(7:Int) * (k:Int):=by omega
  have c5:(0:Int)≤(r:Int) - 1 - (k:Int)∧(r:Int) - 1 - (k:Int) < ((r:Nat):Int):=by omega
  have c6:qbs l.length r ((r:Int) - 1 - (k:Int)).toNat:=⟨hl,by omega⟩
  have c7:qt ((k:Int) + 1):=by unfold qt; omega
  refine ⟨(l.set ((r:Int) - 1 - (k:Int)).toNat (UInt8.ofNat (uOr .u8 (IntKind.u8.wrap (Qz n (min ((7:Int) * (k:Int)).toNat 64))) 128).toNat),((k + 1:Nat):Int)),?_,⟨?_,k + 1,h,rfl⟩,?_⟩
  ·unfold qbe
   rw [qF,dec_lt h,cond_true,qR,qg c1,qR,qg c2,qR,qg c3,qR,qg c4]
   show chk _ (chk _ (chk _ (chk _ _)))=_
   rw [qg c5,qg c6,qg (qIu _ _),qg c7,zi]
   rfl
  ·simp only [List.length_set]; exact hl
  ·simp only [Int.toNat_natCast]; omega
 ·right
  obtain rfl:k=r:=by omega
  refine ⟨(l,((k:Nat):Int),false),_,?_,rfl,hl⟩
  unfold qbe
  rw [qF,zG (Nat.lt_irrefl k),cond_false,qO]
theorem qNe {α:Type} {l:List α} {n k:Nat} (hn:l.length=n) (hk:k < n):∃ x,Xu l n k=some x:=by
 unfold Xu; rw [if_pos hn,List.getElem?_eq_getElem (by omega)]; exact ⟨_,rfl⟩
theorem qkP {n:Int} (h0:0≤n) (h1:n < 18446744073709551616):∃ l:List UInt8,ZW N n=some (l,l.length)∧l.length≤10:=by
 obtain ⟨r,e1,h2,h3⟩:=qI7 (N:=N) h0 h1
 obtain ⟨y,e2,hy⟩:=qN4 (N:=N) (n:=n) h3 (List.replicate r 0) (by simp)
 have hrl:(List.replicate ((r:Nat):Int).toNat (0:UInt8)).length=r:=by simp
 have c1:qAv ((r:Nat):Int) ((r:Nat):Int) 1:=⟨rfl,by omega,by unfold zc; omega⟩
 have c2:qt (((r:Nat):Int) - 1):=by unfold qt; omega
 have c3:(0:Int)≤((r:Nat):Int) - 1∧((r:Nat):Int) - 1 < ((r:Nat):Int):=by omega
 obtain ⟨x,hx⟩:=qNe (l:=y.1) (n:=r) (k:=(((r:Nat):Int) - 1).toNat) hy (by omega)
 have c4:qbs y.1.length r (((r:Nat):Int) - 1).toNat:=⟨hy,by omega⟩
 unfold ZW qmb
 rw [run_bind,e1,Option.bind_some,qR,qg c1,run_bind]
 rw [show qel N n ((r:Nat):Int) (List.replicate ((r:Nat):Int).toNat (0:UInt8)).length ((r:Nat):Int) (List.replicate ((r:Nat):Int).toNat (0:UInt8)) 0=some y by rw [hrl]; exact e2,Option.bind_some,qR,qg c2,hrl,qR,qg c3,run_bind,hx,Option.bind_some]
 have hs:(y.1.set (((r:Nat):Int) - 1).toNat (UInt8.ofNat (qqK .u8 ((x.toNat:Nat):Int) 128).toNat)).length=r:=by rw [List.length_set]; exact hy
 refine ⟨y.1.set (((r:Nat):Int) - 1).toNat (UInt8.ofNat (qqK .u8 ((x.toNat:Nat):Int) 128).toNat),?_,by rw [hs]; exact h3⟩
 show chk _ (chk _ (chk _ _))=_
 rw [qg c3,qg c4,qg (qIB _ _),hs]
 rfl
theorem wrap64_in (n:Int):0≤IntKind.u64.wrap n∧IntKind.u64.wrap n < 18446744073709551616:=by
 have:IntKind.u64.wrap n=n % 18446744073709551616:=by simp [IntKind.wrap,IntKind.bits,IntKind.signed]
 rw [this]; omega
theorem qMz {l:List UInt8} (h:l.length≤1000000):∃ r:List UInt8,qeE N l=some r∧r.length≤l.length + 10:=by
 obtain ⟨p,e,hp⟩:=qkP (N:=N) (wrap64_in ((l.length:Nat):Int)).1 (wrap64_in ((l.length:Nat):Int)).2
 refine ⟨p++l,?_,by rw [List.length_append]; omega⟩
 unfold qeE qjm
 show Option.bind (ZW N (IntKind.u64.wrap ((l.length:Nat):Int))) _=_
 have hpl:(p++l).length≤2000000000:=by rw [List.length_append]; omega
 rw [e,Option.bind_some,qR,qg (qef hpl),qR,qg rfl,qO]
theorem qJw (s:qc):∃ r:List UInt8×Bool,qik N s=some r∧r.1.length≤10:=by
 unfold qik qji
 rw [run_bind,qdL,Option.bind_some]
 cases stB s with
 | false=>exact ⟨([],false),rfl,Nat.zero_le _⟩
 | true=>
  obtain ⟨p,e,hp⟩:=qkP (N:=N) (n:=uOr .u64 (qc5 .u64 (IntKind.u64.wrap (qc.N s)) 3) (IntKind.u64.wrap (qc.Rep s))) (wrap64_in _).1 (wrap64_in _).2
  refine ⟨(p,true),?_,hp⟩
  rw [qF,Bool.not_true,cond_false,qR,qg (by omega)]
  show Option.bind (ZW N (uOr .u64 (qc5 .u64 (IntKind.u64.wrap (qc.N s)) 3) (IntKind.u64.wrap (qc.Rep s)))) _=_
  rw [e,Option.bind_some,qR,qg rfl,qO]
theorem qIw (s:qc):qa6 N s=some (.inl ())∨∃ p:List UInt8,qa6 N s=some (.inr (p,p.length))∧p.length≤10:=by
 unfold qa6 qfB
 rw [run_bind,qdL,Option.bind_some]
 cases stB s with
 | false=>exact .inl rfl
 | true=>
  right
  obtain ⟨p,e,hp⟩:=qkP (N:=N) (n:=uOr .u64 (qc5 .u64 (IntKind.u64.wrap (qc.N s)) 3) (IntKind.u64.wrap (qc.Rep s))) (wrap64_in _).1 (wrap64_in _).2
  refine ⟨p,?_,hp⟩
  rw [qF,Bool.not_true,cond_false,qR,qg (by omega)]
  show Option.bind (ZW N (uOr .u64 (qc5 .u64 (IntKind.u64.wrap (qc.N s)) 3) (IntKind.u64.wrap (qc.Rep s)))) _=_
  rw [e,Option.bind_some,qO]
def Xd (c:qd):Bool:=!decide (c.S=zSt)&&(stB c.S&&decide (c.V.length≤200))
theorem qEr (c:qd):Ks c=some (Xd c):=by
 unfold Ks qlI Xd
 have e:eqE qi c.S (qc.mk 0 0)=decide (c.S=zSt):=qfH _ _
 have e2:decide (((c.V.length:Nat):Int)≤200)=decide (c.V.length≤200):=decide_eq_decide.2 (by omega)
 rw [qF,e,run_bind,qdL,Option.bind_some,qF,qO,e2,qO]
 cases decide (c.S=zSt)<;>cases stB c.S<;>rfl
theorem qMC {c:qd} (h:Xd c=true):∃ r:List UInt8×Bool,qme N c=some r∧r.1.length≤220:=by
 have hV:c.V.length≤200:=by
  unfold Xd at h
  simp only [Bool.and_eq_true,decide_eq_true_iff] at h
  exact h.2.2
 obtain ⟨t,et,ht⟩:=qMz (N:=N) (l:=c.V) (by omega)
 unfold qme qmk
 rw [run_bind,qEr,h,Option.bind_some,qF,Bool.not_true,cond_false,run_bind]
 rcases qIw (N:=N) c.S with e | ⟨p,e,hp⟩
 ·refine ⟨(t,true),?_,by simp only; omega⟩
  have c1:jF ([]:List UInt8).length 0 ([]++t).length 1:=⟨rfl,by rw [List.nil_append]; unfold zc; omega⟩
  rw [e,Option.bind_some,qL1,run_bind,et,Option.bind_some,qR,qg c1,qR,qg rfl,qO]
  rfl
 ·refine ⟨(p++t,true),?_,by simp only [List.length_append]; omega⟩
  have hpl:(p++t).length≤2000000000:=by rw [List.length_append]; omega
  rw [e,Option.bind_some,qAr,run_bind,et,Option.bind_some,qR,qg (qef hpl),qR,qg rfl,qO]
end n
end Go.Rx
end
set_option maxRecDepth 100000
noncomputable section
namespace Go.Rx
open Go.Proofs
abbrev zF:qb:=qb.mk 0 (qd.mk zSt [])
abbrev zR:qa:=qa.mk (Vector.replicate 16 0) zSt []
def qp2 (l:List qb) (dead:qc) (k:Nat):Bool:=
 (if k=0 then decide (0≤(l.getD k zF).No) else decide ((l.getD (k - 1) zF).No < (l.getD k zF).No))&&(!decide (8≤(l.getD k zF).No)&&(Xd (l.getD k zF).C&&slB dead (l.getD k zF).C.S))
def vg (r:qa):Bool:=stB r.qH&&(!(decide (r.F.length=0)&&decide (r.qH=zSt))&&Je (qp2 r.F r.qH) r.F.length)
def qBt (l:List qa) (k:Nat):Bool:=vg (l.getD k zR)&&(decide (k=0)||lbB (l.getD (k - 1) zR).ID (l.getD k zR).ID)
def ju (b:qe):Bool:=Je (qBt b.R) b.R.length&&decide (b.R.length≤10)
section n
variable {N:Nat} [Vv N]
theorem qK0 {f : qb} {dead : qc} {k : Nat} (h64 : qt ((k : Int) + 1)) :
    (Tree.cond (decide (((8:Int))≤(qb.No f))) (.ret (.inr (.inl ())))
     (Tree.bind (Ks (qb.C f)) fun r2=>Tree.cond (!r2) (.ret (.inr (.inl ())))
      (Tree.bind (jT N dead (qd.S (qb.C f))) fun r3=>Tree.cond (!r3) (.ret (.inr (.inl ())))
       (Tree.chk (qt ((k:Int) + 1)) (.ret (.inl ((k:Int) + 1):Int⊕(Unit⊕(Int×Bool)))))))).run some =
    some (if (!decide (8≤f.No)&&(Xd f.C&&slB dead f.C.S))=true then .inl ((k:Int) + 1) else .inr (.inl ())):=by
 rw [qF,qO,run_bind,qEr,Option.bind_some,qF,qO,run_bind,Vb,Option.bind_some,qF,qO,qR,qg h64,qO]
 cases decide (8≤f.No)<;>cases Xd f.C<;>cases slB dead f.C.S<;>rfl
theorem qNy {r : qa} (hN : r.F.length < N) (h62 : r.F.length ≤ 4611686018427387904) :
    qgg N r r.F ((r.F.length:Nat):Int) 0=some (if Je (qp2 r.F r.qH) r.F.length then .inr (((r.F.length:Nat):Int),false) else .inl ()):=by
 refine WM (B:=qco N r r.F ((r.F.length:Nat):Int)) (g:=some) (q:=qp2 r.F r.qH) (fun k hk=>?_) ?_ hN
 ·have h64:qt ((k:Int) + 1):=by unfold qt; omega
  have ht:=qK0 (N:=N) (f:=r.F.getD k zF) (dead:=r.qH) h64
  unfold qco
  rw [qF,dec_lt hk,cond_true,run_bind,zV (d:=zF) hk,Option.bind_some,← zi]
  unfold qp2
  by_cases h0:k=0
  ·have d0:decide ((k:Int)=0)=true:=decide_eq_true (by omega)
   rw [qF,d0,cond_true,if_pos h0,qF]
   by_cases h1:(0:Int)≤(r.F.getD k zF).No
   ·rw [decide_eq_true h1,cond_true,ht,Bool.true_and]
   ·have d1:decide ((0:Int) < (k:Int))=false:=decide_eq_false (by omega)
    rw [decide_eq_false h1,cond_false,qF,d1,cond_false,qO]
    rfl
  ·have d0:decide ((k:Int)=0)=false:=decide_eq_false (by omega)
   have d1:decide ((0:Int) < (k:Int))=true:=decide_eq_true (by omega)
   have hp:qt ((k:Int) - 1):=by unfold qt; omega
   have hk1:k - 1 < r.F.length:=by omega
   rw [qF,d0,cond_false,if_neg h0,qF,d1,cond_true,qR,qg hp,run_bind,qlZ (Nat.pos_of_ne_zero h0),zV (d:=zF) hk1,Option.bind_some,qF]
   by_cases h2:(r.F.getD (k - 1) zF).No < (r.F.getD k zF).No
   ·rw [decide_eq_true h2,Bool.not_true,cond_false,ht,Bool.true_and]
   ·rw [decide_eq_false h2,Bool.not_false,cond_true,qO]
    rfl
 ·unfold qco
  rw [qF,zG (Nat.lt_irrefl _),cond_false,qO]
theorem qwl {r:qa} (hN:r.F.length < N) (h62:r.F.length≤4611686018427387904):qgH N r=some (vg r):=by
 have e0:eqE qi r.qH (qc.mk 0 0)=decide (r.qH=zSt):=qfH _ _
 have d0:decide (((r.F.length:Nat):Int)=0)=decide (r.F.length=0):=decide_eq_decide.2 (by omega)
 unfold qgH qpC vg
 rw [run_bind,qdL,Option.bind_some,qF,qO,qF,d0,qF,e0,qO,run_bind,qNy hN h62,Option.bind_some]
 cases stB r.qH<;>cases decide (r.F.length=0)<;>cases decide (r.qH=zSt)<;>cases Je (qp2 r.F r.qH) r.F.length<;>rfl
theorem qM2 {b : qe} (hN : b.R.length < N) (h62 : b.R.length ≤ 4611686018427387904) (hF : ∀ k, k < b.R.length → (b.R.getD k zR).F.length < N ∧ (b.R.getD k zR).F.length ≤ 4611686018427387904) :
    qi7 N b b.R ((b.R.length:Nat):Int) 0=some (if Je (qBt b.R) b.R.length then .inr (((b.R.length:Nat):Int),false) else .inl ()):=by
 refine WM (B:=qbl N b b.R ((b.R.length:Nat):Int)) (g:=some) (q:=qBt b.R) (fun k hk=>?_) ?_ hN
 ·have h64:qt ((k:Int) + 1):=by unfold qt; omega
  unfold qbl
  rw [qF,dec_lt hk,cond_true,run_bind,zV (d:=zR) hk,Option.bind_some,run_bind,qwl (hF k hk).1 (hF k hk).2,Option.bind_some,qF,qO,qF,qqH,qR,qR,qg h64,qO,zi]
  unfold qBt
  cases vg (b.R.getD k zR) with
  | false=>rfl
  | true=>
   by_cases h0:k=0
   ·rw [decide_eq_true h0]; rfl
   ·have hp:qt ((k:Int) - 1):=by unfold qt; omega
    have hk1:k - 1 < b.R.length:=by omega
    rw [decide_eq_false h0,Bool.not_true,cond_false,Bool.not_false,cond_true,qg hp,run_bind,qlZ (Nat.pos_of_ne_zero h0),zV (d:=zR) hk1,Option.bind_some,run_bind,qAB,Option.bind_some,qF,qO,qR,qg (show qt ((k + 1:Nat):Int) by rw [← zi]; exact h64),qO]
    cases lbB (b.R.getD (k - 1) zR).ID (b.R.getD k zR).ID<;>rfl
 ·unfold qbl
  rw [qF,zG (Nat.lt_irrefl _),cond_false,qO]
theorem qMP {b:qe} (hN:b.R.length < N) (h62:b.R.length≤4611686018427387904) (hF:∀ k,k < b.R.length→(b.R.getD k zR).F.length < N∧(b.R.getD k zR).F.length≤4611686018427387904):Yg N b=some (ju b):=by
 have e2:decide (((b.R.length:Nat):Int)≤10)=decide (b.R.length≤10):=decide_eq_decide.2 (by omega)
 unfold Yg ql7 ju
 rw [run_bind,qM2 hN h62 hF,Option.bind_some]
 cases Je (qBt b.R) b.R.length with
 | false=>rfl
 | true=>show (Tree.run some (Tree.ret (decide (((b.R.length:Nat):Int)≤10))))=_; rw [qO,e2]; rfl
end n
theorem ZT {r:qa}:vg r=true↔stB r.qH=true∧(r.F.length≠0∨r.qH≠zSt)∧∀ k,k < r.F.length→qp2 r.F r.qH k=true:=by
 unfold vg
 rw [Bool.and_eq_true,Bool.and_eq_true,XG,Bool.not_eq_true',Bool.and_eq_false_iff,decide_eq_false_iff_not,decide_eq_false_iff_not]
theorem Zk {l:List qb} {dead:qc} {k:Nat}:qp2 l dead k=true↔(if k=0 then 0≤(l.getD k zF).No else (l.getD (k - 1) zF).No < (l.getD k zF).No)∧(l.getD k zF).No < 8∧Xd (l.getD k zF).C=true∧slB dead (l.getD k zF).C.S=true:=by
 unfold qp2
 rw [Bool.and_eq_true,Bool.and_eq_true,Bool.and_eq_true,Bool.not_eq_true',decide_eq_false_iff_not,Int.not_le]
 refine and_congr ?_ Iff.rfl
 split<;>exact decide_eq_true_iff
theorem qvQ {r:qa} (h:vg r=true):∀ k,k < r.F.length→(k:Int)≤(r.F.getD k zF).No
 | 0,hk=>by
  have:=(Zk.1 ((ZT.1 h).2.2 0 hk)).1
  rw [if_pos rfl] at this; exact this
 | k + 1,hk=>by
  have:=(Zk.1 ((ZT.1 h).2.2 (k + 1) hk)).1
  rw [if_neg (by omega)] at this
  have ih:=qvQ h k (by omega)
  rw [show k + 1 - 1=k by omega] at this
  omega
theorem Vh {r:qa} (h:vg r=true):r.F.length≤8:=by
 by_cases e:r.F.length=0
 ·omega
 ·have h1:=qvQ h (r.F.length - 1) (by omega)
  have h2:=(Zk.1 ((ZT.1 h).2.2 (r.F.length - 1) (by omega))).2.1
  omega
theorem WI {b:qe}:ju b=true↔(∀ k,k < b.R.length→vg (b.R.getD k zR)=true∧(k=0∨lbB (b.R.getD (k - 1) zR).ID (b.R.getD k zR).ID=true))∧b.R.length≤10:=by
 unfold ju
 rw [Bool.and_eq_true,decide_eq_true_iff,XG]
 refine and_congr (forall_congr' fun k=>imp_congr_right fun _=>?_) Iff.rfl
 show (vg (b.R.getD k zR)&&(decide (k=0)||lbB (b.R.getD (k - 1) zR).ID (b.R.getD k zR).ID))=true↔_
 rw [Bool.and_eq_true,Bool.or_eq_true,decide_eq_true_iff]
theorem qgS {c:qd} (h:Xd c=true):c.V.length≤200:=by
 unfold Xd at h
 simp only [Bool.and_eq_true,decide_eq_true_iff] at h
 exact h.2.2
end Go.Rx
end
set_option maxRecDepth 100000
noncomputable section
namespace Go.Rx
open Go.Proofs
section n
variable {N:Nat} [Vv N]
theorem qK_ {l : List qb} {R : List qa} {s23 s24 : Int} (h8 : l.length ≤ 8) (hc : ∀ k, k < l.length → Xd (l.getD k zF).C = true) {o : List UInt8} (ho : o.length ≤ 1000000) :
    ∃ p:List UInt8,qfg N R s23 s24 l ((l.length:Nat):Int) o o.length 0=some (p,p.length,((l.length:Nat):Int),false)∧p.length≤o.length + 221 * l.length:=by
 have key:∃ y,qY (Kh N R s23 s24 l ((l.length:Nat):Int)) some N (o,o.length,((0:Nat):Int))=some y∧∃ p:List UInt8,y=(p,p.length,((l.length:Nat):Int),false)∧p.length≤o.length + 221 * l.length:=by
  refine VC (I:=fun v=>∃ (k:Nat) (p:List UInt8),k≤l.length∧v=(p,p.length,(k:Int))∧p.length≤o.length + 221 * k) (fun v=>l.length - v.2.2.toNat) ?_ N _ ⟨0,o,Nat.zero_le _,rfl,by omega⟩ (by have:=big N; simp; omega)
  rintro v ⟨k,p,hk,rfl,hp⟩
  by_cases h:k < l.length
  ·left
   obtain ⟨r,er,hr⟩:=qMC (N:=N) (hc k h)
   have h64:qt ((k:Int) + 1):=by unfold qt; omega
   have l1:(p++[UInt8.ofNat (IntKind.u8.wrap (qb.No (l.getD k zF))).toNat]).length=p.length + 1:=by rw [List.length_append]; rfl
   have l2:((p++[UInt8.ofNat (IntKind.u8.wrap (qb.No (l.getD k zF))).toNat])++r.1).length=p.length + 1 + r.1.length:=by rw [List.length_append,l1]
   refine ⟨((p++[UInt8.ofNat (IntKind.u8.wrap (qb.No (l.getD k zF))).toNat])++r.1,((p++[UInt8.ofNat (IntKind.u8.wrap (qb.No (l.getD k zF))).toNat])++r.1).length,((k + 1:Nat):Int)),?_,⟨k + 1,_,h,rfl,by rw [l2]; omega⟩,by simp only [Int.toNat_natCast]; omega⟩
   unfold Kh
   rw [qF,dec_lt h,cond_true,run_bind,zV (d:=zF) h,Option.bind_some,run_bind,er,Option.bind_some,qR,qg (qgW _),qR,qg (qef (by rw [l1]; omega)),qR,qg (qef (by rw [l2]; omega)),qR,qg h64,qO,zi]
  ·right
   obtain rfl:k=l.length:=by omega
   refine ⟨(p,p.length,((l.length:Nat):Int),false),_,?_,rfl,p,rfl,hp⟩
   unfold Kh
   rw [qF,zG (Nat.lt_irrefl _),cond_false,qO]
 obtain ⟨y,e,p,rfl,hp⟩:=key
 exact ⟨p,e,hp⟩
theorem qNv {R : List qa} (h10 : R.length ≤ 10) (hr : ∀ k, k < R.length → vg (R.getD k zR) = true) {o : List UInt8} (ho : o.length ≤ 10) :
    ∃ p:List UInt8,qhY N R ((R.length:Nat):Int) o o.length 0=some (p,p.length,((R.length:Nat):Int),false)∧p.length≤30000:=by
 have key:∃ y,qY (qaw N R ((R.length:Nat):Int)) some N (o,o.length,((0:Nat):Int))=some y∧∃ p:List UInt8,y=(p,p.length,((R.length:Nat):Int),false)∧p.length≤30000:=by
  refine VC (I:=fun v=>∃ (k:Nat) (p:List UInt8),k≤R.length∧v=(p,p.length,(k:Int))∧p.length≤10 + 2000 * k) (fun v=>R.length - v.2.2.toNat) ?_ N _ ⟨0,o,Nat.zero_le _,rfl,by omega⟩ (by have:=big N; simp; omega)
  rintro v ⟨k,p,hk,rfl,hp⟩
  by_cases h:k < R.length
  ·left
   have hrec:=hr k h
   have h8:=Vh hrec
   obtain ⟨s,es,hs⟩:=qJw (N:=N) (R.getD k zR).qH
   obtain ⟨w,ew,hw⟩:=qkP (N:=N) (wrap64_in (((R.getD k zR).F.length:Nat):Int)).1 (wrap64_in (((R.getD k zR).F.length:Nat):Int)).2
   have h64:qt ((k:Int) + 1):=by unfold qt; omega
   have l1:(p++(R.getD k zR).ID.toList).length=p.length + 16:=by rw [List.length_append]; simp
   have l2:(p++(R.getD k zR).ID.toList++s.1).length=p.length + 16 + s.1.length:=by rw [List.length_append,l1]
   have l3:(p++(R.getD k zR).ID.toList++s.1++w).length=p.length + 16 + s.1.length + w.length:=by rw [List.length_append,l2]
   obtain ⟨q,eq,hq⟩:=qK_ (N:=N) (l:=(R.getD k zR).F) (R:=R) (s23:=((R.length:Nat):Int)) (s24:=(k:Int)) h8 (fun j hj=>(Zk.1 ((ZT.1 hrec).2.2 j hj)).2.2.1) (o:=p++(R.getD k zR).ID.toList++s.1++w) (by rw [l3]; omega)
   refine ⟨(q,q.length,((k + 1:Nat):Int)),?_,⟨k + 1,q,h,rfl,by rw [l3] at hq; omega⟩,by simp only [Int.toNat_natCast]; omega⟩
   unfold qaw
   rw [qF,dec_lt h,cond_true,run_bind,zV (d:=zR) h,Option.bind_some,run_bind,es,Option.bind_some,qR,qg (qef (by rw [l1]; omega)),qR,qg (qef (by rw [l2]; omega))]
   show Option.bind (ZW N (IntKind.u64.wrap (((R.getD k zR).F.length:Nat):Int))) _=_
   rw [ew,Option.bind_some,qR,qg rfl,qR,qg (qef (by rw [l3]; omega)),run_bind,eq,Option.bind_some,qR,qg h64,qO,zi]
  ·right
   obtain rfl:k=R.length:=by omega
   refine ⟨(p,p.length,((R.length:Nat):Int),false),_,?_,rfl,p,rfl,by omega⟩
   unfold qaw
   rw [qF,zG (Nat.lt_irrefl _),cond_false,qO]
 obtain ⟨y,e,p,rfl,hp⟩:=key
 exact ⟨p,e,hp⟩
def vp (N:Nat) (b:qe):Prop:=b.R.length < N∧b.R.length≤4611686018427387904∧∀ k,k < b.R.length→(b.R.getD k zR).F.length < N∧(b.R.getD k zR).F.length≤4611686018427387904
theorem qiA {b:qe} (h:vp N b):Yg N b=some (ju b):=qMP h.1 h.2.1 h.2.2
theorem qMN {b:qe} (hf:vp N b) (h:ju b=true):∃ p:List UInt8,qit N b=some (p,true)∧p.length≤30000:=by
 have hb:=WI.1 h
 obtain ⟨w,ew,hw⟩:=qkP (N:=N) (wrap64_in ((b.R.length:Nat):Int)).1 (wrap64_in ((b.R.length:Nat):Int)).2
 obtain ⟨p,ep,hp⟩:=qNv (N:=N) hb.2 (fun k hk=>(hb.1 k hk).1) hw
 refine ⟨p,?_,hp⟩
 unfold qit qjd
 rw [run_bind,qiA hf,h,Option.bind_some,qF,Bool.not_true,cond_false]
 show Option.bind (ZW N (IntKind.u64.wrap ((b.R.length:Nat):Int))) _=_
 rw [ew,Option.bind_some,run_bind,ep,Option.bind_some,qR,qg rfl,qO]
theorem qOa {b:qe} (hf:vp N b) (h:ju b=true):∃ D:Vector UInt8 32,KG N b=some D:=by
 obtain ⟨p,e,hp⟩:=qMN hf h
 refine ⟨ve p,?_⟩
 unfold KG qdO
 have hs:X8 N p=some (ve p):=qIT (by omega) (by have:=big N; omega)
 rw [run_bind,e,Option.bind_some,run_bind]
 show Option.bind (X8 N p) _=_
 rw [hs,Option.bind_some,qO]
theorem qgY {l:List UInt8} (h:l.length≤50000):qfa N l=some (ve l):=by
 unfold qfa qtO
 rw [qR,qg (show qqn l.length by unfold qqn; omega),run_bind,qIT (by omega) (by have:=big N; omega),Option.bind_some,qO]
def quI (l:List UInt8) (k:Nat) (s:Int×Int):Int×Int:=(XD .u16 s.1 (IntKind.u16.wrap (((l.getD k 0).toNat:Nat):Int)),XD .u16 s.2 (XD .u16 s.1 (IntKind.u16.wrap (((l.getD k 0).toNat:Nat):Int))))
def qMq (l:List UInt8):Int:=uOr .u32 (qc5 .u32 (IntKind.u32.wrap (Zb (quI l) l.length 0 (0,0)).2) 16) (IntKind.u32.wrap (Zb (quI l) l.length 0 (0,0)).1)
theorem qNs {l:List UInt8} (h:l.length≤50000):qmT N l=some (qMq l):=by
 have key:qjo N l ((l.length:Nat):Int) 0 0 0=some ((Zb (quI l) l.length 0 (0,0)).1,(Zb (quI l) l.length 0 (0,0)).2,((l.length:Nat):Int),false):=by
  refine (vZ (σ:=Int×Int) (B:=qbh N l ((l.length:Nat):Int)) (g:=some) (at_:=fun k s=>(s.1,s.2,(k:Int))) (I:=fun _ _=>True) (f:=quI l) (n:=l.length)
   (fin:=fun s=>(s.1,s.2,((l.length:Nat):Int),false)) (fun k s hk _=>⟨?_,trivial⟩) (fun s _=>?_) N 0 (0,0) trivial (Nat.zero_le _) (by have:=big N; omega))
  ·have h64:qt ((k:Int) + 1):=by unfold qt; omega
   unfold qbh
   rw [qF,dec_lt hk,cond_true,run_bind,zV (d:=0) hk,Option.bind_some]
   show chk (qt ((k:Int) + 1)) _=_
   rw [qg h64,zi]
   rfl
  ·unfold qbh
   rw [qF,zG (Nat.lt_irrefl _),cond_false,qO]
 unfold qmT qlQ qpn qjr
 rw [run_bind,key,Option.bind_some,run_bind,qR,qg (by omega)]
 rfl
def qhc (l:List UInt8):q_:=q_.mk (qMq l) (ve l)
theorem qOo {l:List UInt8} (h:l.length≤50000):qmi N l=some (qhc l):=by
 unfold qmi qlR
 rw [run_bind,qNs h,Option.bind_some,run_bind,qgY h,Option.bind_some,qO]
 rfl
def qqg:Nat→List UInt8→List q_
 | 0,_=>[]
 | m + 1,l=>qhc (l.take 8)::qqg m (l.drop 8)
theorem qtf:∀ (m:Nat) (l:List UInt8),(qqg m l).length=m
 | 0,_=>rfl
 | m + 1,l=>by unfold qqg; rw [List.length_cons,qtf m]
def qtd (l:List UInt8):List q_:=if l.length < 24 then [] else qqg (l.length / 8) l
theorem qJd:∀ (m n:Nat) (l:List UInt8) (acc:List q_),l.length / 8=m→l.length≤50000→acc.length + m≤50000→m < n→∃ r,qY (qc2 N) some n (acc,l)=some (acc++qqg m l,r,false)
 | 0,n + 1,l,acc,hm,_,_,_=>by
  have d:decide ((8:Int)≤((l.length:Nat):Int))=false:=decide_eq_false (by omega)
  refine ⟨l,?_⟩
  rw [jq (x:=(acc,l,false)) (by unfold qc2; rw [qF,d,cond_false,qO]) n]
  show some (acc,l,false)=some (acc++[],l,false)
  rw [List.append_nil]
 | m + 1,n + 1,l,acc,hm,hl,ha,hn=>by
  have d:decide ((8:Int)≤((l.length:Nat):Int))=true:=decide_eq_true (by omega)
  have c1:(0:Int)≤0∧(0:Int)≤8∧(8:Int)≤((l.length:Nat):Int):=by omega
  have c2:(0:Int)≤8∧(8:Int)≤((l.length:Nat):Int):=by omega
  have ht:(l.take 8).length≤50000:=by rw [List.length_take]; omega
  have hacc:(acc++[qhc (l.take 8)]).length=acc.length + 1:=by rw [List.length_append]; rfl
  have cav:jF acc.length acc.length (acc++[qhc (l.take 8)]).length 36:=⟨rfl,by rw [hacc]; unfold zc; omega⟩
  obtain ⟨r,e⟩:=qJd m n (l.drop 8) (acc++[qhc (l.take 8)]) (by rw [List.length_drop]; omega) (by rw [List.length_drop]; omega) (by rw [hacc]; omega) (by omega)
  refine ⟨r,?_⟩
  rw [WN (v':=(acc++[qhc (l.take 8)],l.drop 8)) (by
   unfold qc2
   rw [qF,d,cond_true,qR,qg c1,run_bind,List.drop_zero,qOo ht,Option.bind_some,qR,qg cav,qR,qg c2,qO]) n,e]
  show some (acc++[qhc (l.take 8)]++qqg m (l.drop 8),r,false)=some (acc++qqg (m + 1) l,r,false)
  rw [List.append_assoc]
  rfl
 | _,0,_,_,_,_,_,hn=>by omega
theorem qI9 {l:List UInt8} (h:l.length≤50000):qqJ N l=some (qtd l):=by
 unfold qqJ qn7 qtd
 by_cases h24:l.length < 24
 ·have d:decide (((l.length:Nat):Int) < 24)=true:=decide_eq_true (by omega)
  rw [qF,d,cond_true,qO,if_pos h24]
 ·have d:decide (((l.length:Nat):Int) < 24)=false:=decide_eq_false (by omega)
  obtain ⟨r,e⟩:=qJd (N:=N) (l.length / 8) N l [] rfl h (by simp; omega) (by have:=big N; omega)
  have e':je [(([]:List q_).length,0)] (qlA N [] l)=some ([]++qqg (l.length / 8) l,r,false):=(zx rfl).trans e
  rw [qF,d,cond_false,if_neg h24,run_bind,e',Option.bind_some,qR,qg rfl,qO]
  rfl
def Q5 (f:qb):qn:=qn.mk f.No f.C.S ((f.C.V.length:Nat):Int) (ve f.C.V) (qtd f.C.V)
def zT (r:qa):ql:=ql.mk r.ID r.qH (r.F.map Q5)
theorem qOF {l : List qb} (h8 : l.length ≤ 8) (hc : ∀ k, k < l.length → Xd (l.getD k zF).C = true) (o1 o2 : List ql) (o3 o4 : Vector UInt8 32) (o5 : Vector UInt8 16) (o6 : qc) (R : List qa) (s20 s21 : Int) :
    qaj N o1 o2 o3 o4 o5 o6 R s20 s21 l ((l.length:Nat):Int) [] 0=some (l.map Q5,((l.length:Nat):Int),false):=by
 have key:∃ y,qY (WW N o1 o2 o3 o4 o5 o6 R s20 s21 l ((l.length:Nat):Int)) some N ([],((0:Nat):Int))=some y∧y=(l.map Q5,((l.length:Nat):Int),false):=by
  refine VC (I:=fun v=>∃ k:Nat,k≤l.length∧v=((l.take k).map Q5,(k:Int))) (fun v=>l.length - v.2.toNat) ?_ N _ ⟨0,Nat.zero_le _,rfl⟩ (by have:=big N; simp; omega)
  rintro v ⟨k,hk,rfl⟩
  by_cases h:k < l.length
  ·left
   have hV:(l.getD k zF).C.V.length≤50000:=by have:=qgS (hc k h); omega
   have h64:qt ((k:Int) + 1):=by unfold qt; omega
   have el:(l.take (k + 1)).map Q5=(l.take k).map Q5++[Q5 (l.getD k zF)]:=by
    rw [List.take_succ_eq_append_getElem h,List.map_append,List.getD_eq_getElem?_getD,List.getElem?_eq_getElem h]; rfl
   have hlen:((l.take k).map Q5++[Q5 (l.getD k zF)]).length≤8:=by rw [← el,List.length_map,List.length_take]; omega
   have cav:jF ((l.take k).map Q5).length ((l.take k).map Q5).length ((l.take k).map Q5++[Q5 (l.getD k zF)]).length 88:=⟨rfl,by unfold zc; omega⟩
   refine ⟨((l.take (k + 1)).map Q5,((k + 1:Nat):Int)),?_,⟨k + 1,h,rfl⟩,by simp only [Int.toNat_natCast]; omega⟩
   unfold WW
   rw [qF,dec_lt h,cond_true,run_bind,zV (d:=zF) h,Option.bind_some,run_bind,qgY hV,Option.bind_some,run_bind,qI9 hV,Option.bind_some,qR,el]
   show chk (jF ((l.take k).map Q5).length ((l.take k).map Q5).length ((l.take k).map Q5++[Q5 (l.getD k zF)]).length 88) _=_
   rw [qg cav,qR,qg h64,qO,zi]
   rfl
  ·right
   obtain rfl:k=l.length:=by omega
   refine ⟨(l.map Q5,((l.length:Nat):Int),false),_,?_,rfl,rfl⟩
   unfold WW
   rw [qF,zG (Nat.lt_irrefl _),cond_false,qO,List.take_of_length_le (Nat.le_refl _)]
 obtain ⟨y,e,rfl⟩:=key
 exact e
theorem qOG {R : List qa} (h10 : R.length ≤ 10) (hr : ∀ k, k < R.length → vg (R.getD k zR) = true) (o1 : List ql) (o3 o4 : Vector UInt8 32) (ho : o1 = []) :
    qam N o1 o3 o4 R ((R.length:Nat):Int) [] 0=some (R.map zT,((R.length:Nat):Int),false):=by
 have key:∃ y,qY (Yo N o1 o3 o4 R ((R.length:Nat):Int)) some N ([],((0:Nat):Int))=some y∧y=(R.map zT,((R.length:Nat):Int),false):=by
  refine VC (I:=fun v=>∃ k:Nat,k≤R.length∧v=((R.take k).map zT,(k:Int))) (fun v=>R.length - v.2.toNat) ?_ N _ ⟨0,Nat.zero_le _,rfl⟩ (by have:=big N; simp; omega)
  rintro v ⟨k,hk,rfl⟩
  by_cases h:k < R.length
  ·left
   have hrec:=hr k h
   have h64:qt ((k:Int) + 1):=by unfold qt; omega
   have el:(R.take (k + 1)).map zT=(R.take k).map zT++[zT (R.getD k zR)]:=by
    rw [List.take_succ_eq_append_getElem h,List.map_append,List.getD_eq_getElem?_getD,List.getElem?_eq_getElem h]; rfl
   have hlen:((R.take k).map zT++[zT (R.getD k zR)]).length≤10:=by rw [← el,List.length_map,List.length_take]; omega
   have cav:jF ((R.take k).map zT).length ((R.take k).map zT).length ((R.take k).map zT++[zT (R.getD k zR)]).length 56:=⟨rfl,by unfold zc; omega⟩
   have e9:=qOF (N:=N) (Vh hrec) (fun j hj=>(Zk.1 ((ZT.1 hrec).2.2 j hj)).2.2.1) o1 ((R.take k).map zT) o3 o4 (R.getD k zR).ID (R.getD k zR).qH R ((R.length:Nat):Int) (k:Int)
   refine ⟨((R.take (k + 1)).map zT,((k + 1:Nat):Int)),?_,⟨k + 1,h,rfl⟩,by simp only [Int.toNat_natCast]; omega⟩
   unfold Yo
   rw [qF,dec_lt h,cond_true,run_bind,zV (d:=zR) h,Option.bind_some,run_bind]
   rw [show je [(o1.length,o1.length),(((R.take k).map zT,(k:Int)).1.length,((R.take k).map zT,(k:Int)).1.length),(([]:List qn).length,0)] (qaj N o1 ((R.take k).map zT,(k:Int)).1 o3 o4 (qa.ID (R.getD k zR)) (qa.qH (R.getD k zR)) R ((R.length:Nat):Int) ((R.take k).map zT,(k:Int)).2 (qa.F (R.getD k zR)) (((qa.F (R.getD k zR)).length:Nat):Int) [] 0)=some ((R.getD k zR).F.map Q5,(((R.getD k zR).F.length:Nat):Int),false) from (zx rfl).trans ((zx rfl).trans ((zx rfl).trans e9)),Option.bind_some,qR,qg rfl,qR,el]
   show chk (jF ((R.take k).map zT).length ((R.take k).map zT).length ((R.take k).map zT++[zT (R.getD k zR)]).length 56) _=_
   rw [qg cav,qR,qg h64,qO,zi]
   rfl
  ·right
   obtain rfl:k=R.length:=by omega
   refine ⟨(R.map zT,((R.length:Nat):Int),false),_,?_,rfl,rfl⟩
   unfold Yo
   rw [qF,zG (Nat.lt_irrefl _),cond_false,qO,List.take_of_length_le (Nat.le_refl _)]
 obtain ⟨y,e,rfl⟩:=key
 exact e
theorem qOK {b:qe} (hf:vp N b) (h:ju b=false):Vc N b=some (qk.mk (Vector.replicate 32 0) [],false):=by
 unfold Vc qbu
 rw [run_bind,qiA hf,h,Option.bind_some,qF,Bool.not_false,cond_true,qR,qg rfl,qO]
theorem qOs {b:qe} (hf:vp N b) (h:ju b=true) {D:Vector UInt8 32} (hD:KG N b=some D):Vc N b=some (qk.mk D (b.R.map zT),true):=by
 have hb:=WI.1 h
 have e5:=qOG (N:=N) hb.2 (fun k hk=>(hb.1 k hk).1) [] (Vector.replicate 32 0) D rfl
 unfold Vc qbu
 rw [run_bind,qiA hf,h,Option.bind_some,qF,Bool.not_true,cond_false,run_bind,hD,Option.bind_some,run_bind]
 rw [show je [(([]:List ql).length,0),(([]:List ql).length,0)] (qam N [] (Vector.replicate 32 0) D (qe.R b) (((qe.R b).length:Nat):Int) [] 0)=some (b.R.map zT,((b.R.length:Nat):Int),false) from (zx rfl).trans ((zx rfl).trans e5),Option.bind_some,qR,qg rfl,qO]
end n
end Go.Rx
end
noncomputable section
namespace Go.Rx
section
variable {α R:Type} {n:α→Option R} {y:Option R}
theorem q9 {a:α} (h:n a=y):(Tree.ret a).run n=y:=h
theorem zl {p:Prop} [Decidable p] {t:Tree α} (h:p) (ht:t.run n=y):(Tree.chk p t).run n=y:=(qg h).trans ht
theorem qA {β:Type} {o:Option β} {k:β→Tree α} {x:β} (h:o=some x) (ht:(k x).run n=y):(Tree.bind o k).run n=y:=by subst h; exact ht
theorem w_t {b:Bool} {s t:Tree α} (h:b=true) (hs:s.run n=y):(Tree.cond b s t).run n=y:=by subst h; exact hs
theorem w_f {b:Bool} {s t:Tree α} (h:b=false) (ht:t.run n=y):(Tree.cond b s t).run n=y:=by subst h; exact ht
theorem qBw {β:Type} {o:Option β} {s:Tree α} {k:β→Tree α} (h:o=none) (hs:s.run n=y):(Tree.opt o s k).run n=y:=by subst h; exact hs
theorem qvL {β:Type} {o:Option β} {s:Tree α} {k:β→Tree α} {x:β} (h:o=some x) (hk:(k x).run n=y):(Tree.opt o s k).run n=y:=by subst h; exact hk
theorem w_l {β γ:Type} {z:β⊕γ} {f:β→Tree α} {g:γ→Tree α} {x:β} (h:z=.inl x) (hk:(f x).run n=y):(Tree.sum z f g).run n=y:=by subst h; exact hk
theorem w_r {β γ:Type} {z:β⊕γ} {f:β→Tree α} {g:γ→Tree α} {x:γ} (h:z=.inr x) (hk:(g x).run n=y):(Tree.sum z f g).run n=y:=by subst h; exact hk
theorem qwJ {b:Bool} {s t:Tree α} {c:Bool} (h:b=c) (hs:c=true→s.run n=y) (ht:c=false→t.run n=y):(Tree.cond b s t).run n=y:=by
 subst h; cases b
 ·exact ht rfl
 ·exact hs rfl
end
theorem vR {k:Nat} (h:k≤4611686018427387904):qt ((k:Int) + 1):=by unfold qt; omega
end Go.Rx
end
set_option maxRecDepth 100000
noncomputable section
namespace Go.Rx
open Go.Proofs
open Go.Lib (compareBytes)
theorem qEt:∀ l:List UInt8,compareBytes l l=0
 | []=>rfl
 | x::l=>by
  unfold compareBytes
  rw [if_neg (UInt8.lt_irrefl x),if_neg (UInt8.lt_irrefl x)]
  exact qEt l
theorem qCE:∀ a b c:List UInt8,compareBytes a b < 0→compareBytes b c < 0→compareBytes a c < 0
 | [],[],_,h,_=>by simp [compareBytes] at h
 | [],_::_,[],_,h=>by simp [compareBytes] at h
 | [],_::_,_::_,_,_=>by simp [compareBytes]
 | _::_,[],_,h,_=>by simp [compareBytes] at h
 | _::_,_::_,[],_,h=>by simp [compareBytes] at h
 | x::a,y::b,z::c,h1,h2=>by
  unfold compareBytes at h1 h2 ⊢
  simp only [UInt8.lt_iff_toNat_lt] at h1 h2 ⊢
  by_cases hxy:x.toNat < y.toNat
  ·by_cases hyz:y.toNat < z.toNat
   ·rw [if_pos (by omega)]; decide
   ·rw [if_neg hyz] at h2
    by_cases hzy:z.toNat < y.toNat
    ·rw [if_pos hzy] at h2; simp at h2
    ·rw [if_pos (by omega)]; decide
  ·rw [if_neg hxy] at h1
   by_cases hyx:y.toNat < x.toNat
   ·rw [if_pos hyx] at h1; simp at h1
   ·rw [if_neg hyx] at h1
    by_cases hyz:y.toNat < z.toNat
    ·rw [if_pos (by omega)]; decide
    ·rw [if_neg hyz] at h2
     by_cases hzy:z.toNat < y.toNat
     ·rw [if_pos hzy] at h2; simp at h2
     ·rw [if_neg hzy] at h2
      rw [if_neg (by omega),if_neg (by omega)]
      exact qCE a b c h1 h2
theorem qID:∀ a b:List UInt8,(compareBytes a b < 0∧compareBytes b a > 0)∨a=b∨(compareBytes b a < 0∧compareBytes a b > 0)
 | [],[]=>.inr (.inl rfl)
 | [],_::_=>.inl ⟨by simp [compareBytes],by simp [compareBytes]⟩
 | _::_,[]=>.inr (.inr ⟨by simp [compareBytes],by simp [compareBytes]⟩)
 | x::a,y::b=>by
  unfold compareBytes
  by_cases h:x < y
  ·have h':¬ y < x:=fun h'=>by rw [UInt8.lt_iff_toNat_lt] at h h'; omega
   rw [if_pos h,if_neg h',if_pos h]
   exact .inl ⟨by omega,by omega⟩
  ·by_cases h':y < x
   ·rw [if_neg h,if_pos h',if_pos h']
    exact .inr (.inr ⟨by omega,by omega⟩)
   ·rw [if_neg h,if_neg h',if_neg h',if_neg h]
    have e:x=y:=by
     apply UInt8.toNat_inj.1
     rw [UInt8.lt_iff_toNat_lt] at h h'; omega
    subst e
    rcases qID a b with h1 | h1 | h1
    ·exact .inl h1
    ·exact .inr (.inl (by rw [h1]))
    ·exact .inr (.inr h1)
theorem qKY {n:Nat} (h:n < 18446744073709551616):IntKind.u64.wrap ((n:Nat):Int)=((n:Nat):Int):=by
 have:IntKind.u64.wrap (n:Int)=(n:Int) % 18446744073709551616:=by simp [IntKind.wrap,IntKind.bits,IntKind.signed]
 rw [this]; omega
def ltB (a b:List UInt8):Bool:=decide (compareBytes a b < 0)
theorem X6 (a:List UInt8):ltB a a=false:=by unfold ltB; rw [qEt]; rfl
theorem qHr {a b c:List UInt8} (h1:ltB a b=true) (h2:ltB b c=true):ltB a c=true:=decide_eq_true (qCE a b c (of_decide_eq_true h1) (of_decide_eq_true h2))
theorem qgJ (a b:List UInt8):(ltB a b=true∧ltB b a=false)∨a=b∨(ltB b a=true∧ltB a b=false):=by
 rcases qID a b with h | h | h
 ·exact .inl ⟨decide_eq_true h.1,decide_eq_false (by omega)⟩
 ·exact .inr (.inl h)
 ·exact .inr (.inr ⟨decide_eq_true h.1,decide_eq_false (by omega)⟩)
theorem qvA:∀ a b:List UInt8,Op.bytesLess a b=ltB a b
 | [],[]=>rfl
 | [],_::_=>rfl
 | _::_,[]=>rfl
 | x::a,y::b=>by
  have ih:=qvA a b
  unfold Op.bytesLess
  rw [ih]
  unfold ltB
  rw [show compareBytes (x::a) (y::b)=if x < y then -1 else if y < x then 1 else compareBytes a b from rfl]
  by_cases h:x < y
  ·rw [if_pos h,decide_eq_true h]; rfl
  ·rw [if_neg h,decide_eq_false h,Bool.false_or]
   by_cases h':y < x
   ·rw [if_pos h']
    have:(x == y)=false:=by
     rw [beq_eq_false_iff_ne]
     intro e; subst e; exact h h'
    rw [this]; rfl
   ·have e : x = y := by
       apply UInt8.toNat_inj.1
       rw [UInt8.lt_iff_toNat_lt] at h h'; omega
    subst e
    rw [if_neg h]
    simp
theorem qqN (a b:Vector UInt8 16):lbB a b=ltB a.toList b.toList:=by
 unfold lbB
 by_cases h:a=b
 ·subst h; rw [decide_eq_true rfl,X6]; rfl
 ·rw [decide_eq_false h]; rfl
def ltD (a b:Vector UInt8 32):Bool:=ltB a.toList b.toList
theorem eqD (a b:Vector UInt8 32):eqE (.ba 32) a b=decide (a=b):=Bool.eq_iff_iff.2 ((VY (.ba 32) a b).trans (decide_eq_true_iff (p:=(a:Vector UInt8 32)=b)).symm)
def Qn (a b:qd):Bool:=if a.S=b.S then (if ve a.V=ve b.V then ltB a.V b.V else ltD (ve a.V) (ve b.V)) else slB a.S b.S
def cJ (a b:qd):qd:=if Qn a b=true then b else a
def mxS (a b:qc):qc:=if slB a b=true then b else a
theorem qdY (a b:qc):(slB a b=true∧slB b a=false)∨a=b∨(slB b a=true∧slB a b=false):=by
 obtain ⟨a1,a2⟩:=a
 obtain ⟨b1,b2⟩:=b
 unfold slB
 simp only [decide_eq_true_iff,decide_eq_false_iff_not,Prod.mk.injEq]
 omega
theorem Zq (a:qc):slB a a=false:=by
 unfold slB
 exact decide_eq_false (by omega)
theorem qyk {a b c:qc} (h1:slB a b=true) (h2:slB b c=true):slB a c=true:=by
 unfold slB at *
 rw [decide_eq_true_iff] at *
 omega
end Go.Rx
end
set_option maxRecDepth 100000
noncomputable section
namespace Go.Rx
open Go.Proofs
theorem qKX {α:Type} {x:Option α} [Decidable True]:chk True x=x:=if_pos trivial
theorem qB6 {n:Nat} [Decidable (((n:Nat):Int) < ((n:Nat):Int))]:decide (((n:Nat):Int) < ((n:Nat):Int))=false:=decide_eq_false (Int.lt_irrefl _)
theorem qIz {l:List q_} (h:l.length≤1000000):Zn l=some ():=by
 unfold Zn
 cases l with
 | nil=>kernel_rfl
 | cons x r=>
  show qbJ (x::r)=_
  unfold qbJ Ku
  have h2:jF ([]:List q_).length 0 ([]++x::r).length 36:=⟨rfl,by rw [List.nil_append]; unfold zc; omega⟩
  simp only [Tree.run,qg h2,List.isEmpty_cons,qKX]
theorem qH3 {l:List qn} (h:l.length≤1000000):Qs l=some ():=by
 unfold Qs
 cases l with
 | nil=>kernel_rfl
 | cons x r=>
  show Kz (x::r)=_
  unfold Kz W8
  have h2:jF ([]:List qn).length 0 ([]++x::r).length 88:=⟨rfl,by rw [List.nil_append]; unfold zc; omega⟩
  simp only [Tree.run,qg h2,List.isEmpty_cons,qKX]
theorem qIh {α:Type} {l:List α} {k:Nat} {d:α} (h:k < l.length):l.set k (l.getD k d)=l:=by
 rw [List.getD_eq_getElem?_getD,List.getElem?_eq_getElem h]; simp
section n
variable {N:Nat} [Vv N]
theorem qOm {x:ql} (h12:x.F.length≤12) (hB:∀ j,j < x.F.length→(x.F.getD j zE).B.length≤40):qc6 N x=some x:=by
 unfold qc6 qdP
 have key:qc9 N [] x.ID x.qH x.F.length (Vector.replicate 16 0) (qc.mk 0 0) ((x.F.length:Nat):Int) x.F 0=some (x.F,((x.F.length:Nat):Int),false):=by
  refine (vZ (σ:=Unit) (B:=XP N [] x.ID x.qH x.F.length (Vector.replicate 16 0) (qc.mk 0 0) ((x.F.length:Nat):Int)) (g:=some) (at_:=fun k _=>(x.F,(k:Int))) (I:=fun _ _=>True) (f:=fun _ s=>s) (n:=x.F.length)
   (fin:=fun _=>(x.F,((x.F.length:Nat):Int),false)) (fun k s hk _=>⟨?_,trivial⟩) (fun s _=>?_) N 0 () trivial (Nat.zero_le _) (by have:=big N; omega))
  ·unfold XP
   have c1:(0:Int)≤(k:Int)∧(k:Int) < ((x.F.length:Nat):Int):=by omega
   have h64:qt ((k + 1:Nat):Int):=qqw (by omega)
   have hb:=hB k hk
   simp only [Tree.run,dec_lt hk,cond_true,qg c1,Int.toNat_natCast,qI2 (d:=zE) rfl hk,Option.bind_some,qIz (show (x.F.getD k zE).B.length≤1000000 by omega),zi,qg h64,List.nil_append]
   have e:qn.mk (x.F.getD k zE).No (x.F.getD k zE).S (x.F.getD k zE).Len (x.F.getD k zE).D (x.F.getD k zE).B=x.F.getD k zE:=rfl
   rw [e,qIh hk]
  ·unfold XP
   simp only [Tree.run,qB6,cond_false]
 simp only [Tree.run,qH3 (show x.F.length≤1000000 by omega),Option.bind_some,List.nil_append,List.length_nil,zx,qxY,key,qKX]
 rfl
def qsH (l:List ql) (id:Vector UInt8 16):Option Nat:=vv (fun k=>decide ((l.getD k zL).ID=id)) l.length 0
def qpO (l:List qn) (no:Int):Option Nat:=vv (fun k=>decide ((l.getD k zE).No=no)) l.length 0
def qG1:Option Nat→Int
 | some i=>(i:Int)
 | none=>-1
def vN (m:qk) (id:Vector UInt8 16):ql×Bool:=match qsH m.L id with
 | some i=>(m.L.getD i zL,true)
 | none=>(zL,false)
theorem qHv {l:List ql} {id:Vector UInt8 16} (h:l.length≤600):Jr N id l=some (qG1 (qsH l id)):=by
 have key:=qb_ (B:=vz N id l ((l.length:Nat):Int)) (g:=some) (p:=fun k=>decide ((l.getD k zL).ID=id)) (n:=l.length) (hit:=fun k=>.inl (k:Int)) (fin:=.inr (((l.length:Nat):Int),false)) (fun k hk=>by
  unfold vz qdf qaO
  have h64:qt ((k + 1:Nat):Int):=qqw (by omega)
  simp only [Tree.run,dec_lt hk,cond_true,zV (d:=zL) hk,Option.bind_some,zi,qg h64,qGr]
  cases decide ((l.getD k zL).ID=id)<;>rfl) (by
  unfold vz
  simp only [Tree.run,qB6,cond_false]) N 0 (Nat.zero_le _) (by have:=big N; omega)
 have e:VI N id l ((l.length:Nat):Int) 0=qY (vz N id l ((l.length:Nat):Int)) some N ((0:Nat):Int):=rfl
 unfold Jr VU
 simp only [Tree.run]
 rw [e,key,Nat.sub_zero]
 unfold qsH
 cases vv (fun k=>decide ((l.getD k zL).ID=id)) l.length 0<;>rfl
theorem qhl {p:Nat→Bool} {n i:Nat} (h:vv p n 0=some i):i < n∧p i=true:=by
 obtain ⟨h1,_,h2,_⟩:=qjX h
 exact ⟨by omega,h1⟩
section f
variable {m:qk} (hf:qz7 m=true)
include hf
theorem qCG (id:Vector UInt8 16):YG N m id=some (vN m id):=by
 obtain ⟨h14,hF⟩:=qqE.1 hf
 unfold YG qcE vN
 simp only [Tree.run,qHv (show m.L.length≤600 by omega),Option.bind_some]
 cases e:qsH m.L id with
 | none=>rfl
 | some i=>
  have hi:=(qhl e).1
  have hx:=hF i hi
  have hn:¬ (((i:Nat):Int) < 0):=by omega
  show (bif decide (((i:Nat):Int) < 0) then _ else _)=_
  rw [decide_eq_false hn]
  show ((zh _ ((i:Nat):Int)).bind _)=_
  simp only [ zV (d:=zL) hi,Option.bind_some,qOm hx.1 hx.2]
theorem qIU (id:Vector UInt8 16):(vN m id).1.F.length≤12∧∀ j,j < (vN m id).1.F.length→((vN m id).1.F.getD j zE).B.length≤40:=by
 obtain ⟨h14,hF⟩:=qqE.1 hf
 unfold vN
 cases e:qsH m.L id with
 | none=>exact ⟨Nat.zero_le _,fun j hj=>absurd hj (Nat.not_lt_zero _)⟩
 | some i=>exact hF i (qhl e).1
end f
end n
end Go.Rx
end
set_option maxRecDepth 100000
noncomputable section
namespace Go.Rx
open Go.Proofs
section n
variable {N:Nat} [Vv N]
theorem qMA (r:qa):∃ b,QN N r=some b:=by
 unfold QN K7
 by_cases h:r.F.length≤12
 ·have d:decide ((12:Int) < ((r.F.length:Nat):Int))=false:=decide_eq_false (by omega)
  have key:Y0 N r 0=some (if Je (fun k=>decide ((r.F.getD k zF).C.V.length≤300)) r.F.length then .inr (((r.F.length:Nat):Int),false) else .inl ()):=by
   refine WM (B:=Jt N r) (g:=some) (q:=fun k=>decide ((r.F.getD k zF).C.V.length≤300)) (fun k hk=>?_) ?_ (by have:=big N; omega)
   ·unfold Jt
    have e:decide ((300:Int) < (((r.F.getD k zF).C.V.length:Nat):Int))=!decide ((r.F.getD k zF).C.V.length≤300):=qMe (c:=300)
    rw [qF,dec_lt hk,cond_true,run_bind,zV (d:=zF) hk,Option.bind_some,qF,qO,e,qR,qg (show qt ((k:Int) + 1) by unfold qt; omega),qO,zi]
    cases decide ((r.F.getD k zF).C.V.length≤300)<;>rfl
   ·unfold Jt
    rw [qF,zG (Nat.lt_irrefl _),cond_false,qO]
  rw [qF,d,cond_false,run_bind,key,Option.bind_some]
  cases Je (fun k=>decide ((r.F.getD k zF).C.V.length≤300)) r.F.length
  ·exact ⟨_,rfl⟩
  ·exact ⟨_,rfl⟩
 ·have d:decide ((12:Int) < ((r.F.length:Nat):Int))=true:=decide_eq_true (by omega)
  exact ⟨false,by rw [qF,d,cond_true,qO]⟩
theorem qEv (b:qe):∃ x,Vo N b=some x:=by
 unfold Vo KL
 by_cases h:b.R.length≤14
 ·have d:decide ((14:Int) < ((b.R.length:Nat):Int))=false:=decide_eq_false (by omega)
  have key:Y2 N b 0=some (if Je (fun k=>(QN N (b.R.getD k zR)).getD false) b.R.length then .inr (((b.R.length:Nat):Int),false) else .inl ()):=by
   refine WM (B:=Ju N b) (g:=some) (q:=fun k=>(QN N (b.R.getD k zR)).getD false) (fun k hk=>?_) ?_ (by have:=big N; omega)
   ·obtain ⟨x,e⟩:=qMA (N:=N) (b.R.getD k zR)
    unfold Ju
    rw [qF,dec_lt hk,cond_true,run_bind,zV (d:=zR) hk,Option.bind_some,run_bind,e,Option.bind_some,qF,qO,qR,qg (show qt ((k:Int) + 1) by unfold qt; omega),qO,zi]
    cases x<;>rfl
   ·unfold Ju
    rw [qF,zG (Nat.lt_irrefl _),cond_false,qO]
  rw [qF,d,cond_false,run_bind,key,Option.bind_some]
  cases Je (fun k=>(QN N (b.R.getD k zR)).getD false) b.R.length
  ·exact ⟨_,rfl⟩
  ·exact ⟨_,rfl⟩
 ·have d:decide ((14:Int) < ((b.R.length:Nat):Int))=true:=decide_eq_true (by omega)
  exact ⟨false,by rw [qF,d,cond_true,qO]⟩
end n
theorem Xw {α β:Type} {f:α→β} {l:List α} {k:Nat} {d:α} {e:β} (h:k < l.length):(l.map f).getD k e=f (l.getD k d):=by
 rw [List.getD_eq_getElem?_getD,List.getD_eq_getElem?_getD,List.getElem?_map,List.getElem?_eq_getElem h]; rfl
theorem qMa {l:List UInt8} (h:l.length≤200):(qtd l).length≤40:=by
 unfold qtd
 split
 ·exact Nat.zero_le _
 ·rw [qtf]; omega
theorem qLa {b:qe} (h:ju b=true):(b.R.map zT).length≤10∧∀ k,k < (b.R.map zT).length→((b.R.map zT).getD k zL).F.length≤8∧∀ j,j < ((b.R.map zT).getD k zL).F.length→(((b.R.map zT).getD k zL).F.getD j zE).B.length≤40:=by
 have hb:=WI.1 h
 rw [List.length_map]
 refine ⟨hb.2,fun k hk=>?_⟩
 have hrec:=(hb.1 k hk).1
 rw [Xw (d:=zR) hk]
 have e:(zT (b.R.getD k zR)).F=(b.R.getD k zR).F.map Q5:=rfl
 rw [e,List.length_map]
 refine ⟨Vh hrec,fun j hj=>?_⟩
 rw [Xw (d:=zF) hj]
 exact qMa (qgS (Zk.1 ((ZT.1 hrec).2.2 j hj)).2.2.1)
theorem qxO:∀ l:List qa,∃ M:Nat,∀ k,k < l.length→(l.getD k zR).F.length≤M
 | []=>⟨0,fun k hk=>by simp at hk⟩
 | r::l=>by
  obtain ⟨M,h⟩:=qxO l
  refine ⟨r.F.length + M,fun k hk=>?_⟩
  cases k with
  | zero=>simp
  | succ k=>
   have:=h k (by simpa using hk)
   simp only [List.getD_cons_succ]; omega
theorem qMw (b:qe) (h1:b.R.length≤4611686018427387904) (h2:∀ k,k < b.R.length→(b.R.getD k zR).F.length≤4611686018427387904):∃ M:Nat,∀ N,M≤N→vp N b:=by
 obtain ⟨M,h⟩:=qxO b.R
 refine ⟨M + b.R.length + 1,fun N hN=>⟨by omega,h1,fun k hk=>⟨by have:=h k hk; omega,h2 k hk⟩⟩⟩
end Go.Rx
end
set_option maxRecDepth 100000
noncomputable section
namespace Go.Rx
open Go.Proofs
def qhm (l:List qa) (id:Vector UInt8 16):Option Nat:=vv (fun k=>decide ((l.getD k zR).ID=id)) l.length 0
def qhQ (l:List qb) (no:Int):Option Nat:=vv (fun k=>decide ((l.getD k zF).No=no)) l.length 0
def recAt (b:qe) (id:Vector UInt8 16):qa×Bool:=match qhm b.R id with
 | some i=>(b.R.getD i zR,true)
 | none=>(zR,false)
def cellAt (r:qa) (no:Int):qd×Bool:=match qhQ r.F no with
 | some i=>((r.F.getD i zF).C,true)
 | none=>(qd.mk zSt [],false)
abbrev ji (D:Vector UInt8 32) (b:qe):qk:=qk.mk D (b.R.map zT)
theorem qOv {V:List UInt8}:(((qtd V).length:Nat):Int)=blk ((V.length:Nat):Int):=by
 unfold qtd blk
 by_cases h:V.length < 24
 ·rw [if_pos h,if_pos (by omega)]; rfl
 ·rw [if_neg h,if_neg (by omega),qtf]
  exact (qBY V.length 8).symm
theorem qG0 {r:qa} (h:vg r=true):qgq (zT r)=true:=by
 have hr:=ZT.1 h
 have e:(zT r).F=r.F.map Q5:=rfl
 refine qIS.2 ⟨fun k hk=>?_,hr.1,?_⟩
 ·rw [e,List.length_map] at hk
  rw [e]
  have hq:=Zk.1 (hr.2.2 k hk)
  unfold qsJ
  rw [Xw (d:=zF) hk,Bool.and_eq_true]
  constructor
  ·have hc:=hq.2.2.1
   have hV:=qgS hc
   unfold Xd at hc
   simp only [Bool.and_eq_true] at hc
   have h0:=qvQ h k hk
   unfold qCF
   simp only [Bool.and_eq_true,decide_eq_true_iff]
   refine ⟨?_,?_,?_,?_,?_,hc.2.1,hq.2.2.2⟩
   ·show 0≤(r.F.getD k zF).No; omega
   ·show (r.F.getD k zF).No < 8; exact hq.2.1
   ·show (0:Int)≤(((r.F.getD k zF).C.V.length:Nat):Int); omega
   ·show (((r.F.getD k zF).C.V.length:Nat):Int)≤200; omega
   ·exact qOv
  ·by_cases h0:k=0
   ·rw [decide_eq_true h0]; rfl
   ·have hlt:=hq.1
    rw [if_neg h0] at hlt
    have hk1:k - 1 < r.F.length:=by omega
    rw [Xw (d:=zF) hk1,decide_eq_false h0,Bool.false_or]
    have:decide ((r.F.getD k zF).No≤(r.F.getD (k - 1) zF).No)=false:=decide_eq_false (by omega)
    show (!decide ((r.F.getD k zF).No≤(r.F.getD (k - 1) zF).No))=true
    rw [this]; rfl
 ·rw [e,List.length_map]
  exact hr.2.1.imp (fun h=>by omega) fun h=>h
theorem qiM {b:qe} (h:ju b=true) (D:Vector UInt8 32):qwe (ji D b)=true:=by
 have hb:=WI.1 h
 have e:(ji D b).L=b.R.map zT:=rfl
 refine qKL.2 ⟨fun k hk=>?_,?_⟩
 ·rw [e,List.length_map] at hk
  rw [e,Xw (d:=zR) hk]
  refine ⟨qG0 (hb.1 k hk).1,?_⟩
  rcases (hb.1 k hk).2 with h0 | h1
  ·exact .inl h0
  ·by_cases h0:k=0
   ·exact .inl h0
   ·right
    rw [Xw (d:=zR) (show k - 1 < b.R.length by omega)]
    exact h1
 ·rw [e,List.length_map]; exact hb.2
theorem qis {b:qe} (h:ju b=true) (D:Vector UInt8 32):qz7 (ji D b)=true:=by
 have hs:=qLa h
 refine qqE.2 ⟨by show (b.R.map zT).length≤14; omega,fun k hk=>⟨by show ((b.R.map zT).getD k zL).F.length≤12; have:=(hs.2 k hk).1; omega,fun j hj=>(hs.2 k hk).2 j hj⟩⟩
theorem qHk {b:qe} (id:Vector UInt8 16):qsH (b.R.map zT) id=qhm b.R id:=by
 unfold qsH qhm
 rw [List.length_map]
 refine qhH fun k _ hk=>?_
 rw [Xw (d:=zR) (by omega)]
 rfl
theorem qNo {r:qa} (no:Int):qpO (r.F.map Q5) no=qhQ r.F no:=by
 unfold qpO qhQ
 rw [List.length_map]
 refine qhH fun k _ hk=>?_
 rw [Xw (d:=zF) (by omega)]
 rfl
theorem qGQ {b:qe} {D:Vector UInt8 32} (id:Vector UInt8 16):vN (ji D b) id=match qhm b.R id with | some i=>(zT (b.R.getD i zR),true) | none=>(zL,false):=by
 unfold vN
 rw [show (ji D b).L=b.R.map zT from rfl,qHk]
 cases e:qhm b.R id with
 | none=>rfl
 | some i=>
  have hi:=(qhl e).1
  show ((b.R.map zT).getD i zL,true)=_
  rw [Xw (d:=zR) hi]
end Go.Rx
end
set_option maxRecDepth 100000
noncomputable section
namespace Go.Rx
open Go.Proofs
theorem qo9 {α:Type} {d:α} {l:List α} {k:Nat} (h:k < l.length):l.drop k=l.getD k d::l.drop (k + 1):=by
 rw [List.drop_eq_getElem_cons h,List.getD_eq_getElem?_getD,List.getElem?_eq_getElem h]; rfl
theorem ql2 {α:Type} {p:α→Bool} {d:α} {l:List α}:∀ {m k:Nat},k + m=l.length→(vv (fun j=>p (l.getD j d)) m k).map (fun i=>l.getD i d)=(l.drop k).find? p
 | 0,k,h=>by rw [List.drop_of_length_le (by omega)]; rfl
 | m + 1,k,h=>by
  rw [qo9 (d:=d) (by omega),List.find?_cons]
  unfold vv
  cases hp:p (l.getD k d) with
  | true=>rw [if_pos rfl]; rfl
  | false=>rw [if_neg (by simp)]; exact ql2 (by omega)
def cO (l:List qb) (no:Int):Option qd:=(l.find? fun f=>decide (f.No=no)).map fun f=>f.C
theorem qG6 {l:List qb} {no:Int}:(qhQ l no).map (fun i=>(l.getD i zF).C)=cO l no:=by
 unfold qhQ cO
 have:=ql2 (p:=fun f:qb=>decide (f.No=no)) (d:=zF) (l:=l) (m:=l.length) (k:=0) (by omega)
 rw [List.drop_zero] at this
 rw [← this,Option.map_map]; rfl
theorem qkW {no:Int}:cO [] no=none:=rfl
theorem V0 {f:qb} {l:List qb} {no:Int}:cO (f::l) no=if f.No=no then some f.C else cO l no:=by
 unfold cO
 rw [List.find?_cons]
 by_cases h:f.No=no
 ·rw [decide_eq_true h,if_pos h]; rfl
 ·rw [decide_eq_false h,if_neg h]
theorem qcb {l:List qb} {no:Int} {c:qd} (h:cO l no=some c):∃ f,f∈l∧f.No=no∧f.C=c:=by
 unfold cO at h
 obtain ⟨f,h1,h2⟩:=Option.map_eq_some_iff.1 h
 exact ⟨f,List.mem_of_find?_eq_some h1,of_decide_eq_true (List.find?_some (p:=fun f:qb=>decide (f.No=no)) h1),h2⟩
def jC:Option qd→Option qd→Option qd
 | some x,some y=>some (cJ x y)
 | some x,none=>some x
 | none,y=>y
def Xt (g:Int→Option qd) (f:qb) (no:Int):Option qd:=if f.No=no then jC (g no) (some f.C) else g no
theorem qAS {g:Int→Option qd} {f:qb} {no:Int}:Xt g f no=if f.No=no then jC (g no) (some f.C) else g no:=rfl
theorem qws:∀ {l:List qb} {g:Int→Option qd} {no:Int},(l.map fun f=>f.No).Nodup→l.foldl Xt g no=jC (g no) (cO l no)
 | [],g,no,_=>by rw [qkW]; show g no=_; cases g no<;>rfl
 | f::l,g,no,h=>by
  rw [List.map_cons,List.nodup_cons] at h
  rw [List.foldl_cons,qws h.2,V0]
  unfold Xt
  by_cases e:f.No=no
  ·rw [if_pos e,if_pos e]
   have:cO l no=none:=by
    cases hc:cO l no with
    | none=>rfl
    | some c=>
     obtain ⟨x,hx,hx2,_⟩:=qcb hc
     exact (h.1 (List.mem_map.2 ⟨x,hx,by rw [hx2,e]⟩)).elim
   rw [this]
   cases g no<;>rfl
  ·rw [if_neg e,if_neg e]
def KM (no:Int) (M:List (Int×qd×Nat)):Option qd:=(fnd (β:=qd) (.i .i64) no M).map (·.1)
theorem qBq {q k:Int} {p:qd} {c:Nat} {M:List (Int×qd×Nat)}:KM q (Q7 (β:=qd) (.i .i64) k p c M).2=if q=k then some p else KM q M:=by
 have:=@qs3 (El (.i .i64)) qd (JC (.i .i64)) k q p c M
 rw [show KM q (Q7 (β:=qd) (.i .i64) k p c M).2=@qsv (El (.i .i64)) qd (JC (.i .i64)) q (@qhF (El (.i .i64)) qd (JC (.i .i64)) k p c M).2 from rfl,this]
 by_cases h:q=k
 ·rw [if_pos h]; exact if_pos h
 ·rw [if_neg h]; exact if_neg h
def qiZ (dead:qc) (k:Nat):Option qd→List qb
 | some c=>if slB dead c.S=true then [qb.mk (k:Int) c] else []
 | none=>[]
def Zr (g:Int→Option qd) (dead:qc):Nat→Nat→List qb
 | 0,_=>[]
 | m + 1,k=>qiZ dead k (g (k:Int))++Zr g dead m (k + 1)
theorem qoU {g:Int→Option qd} {dead:qc}:∀ {m k:Nat} {s:List qb},Zb (fun k s=>s++qiZ dead k (g (k:Int))) m k s=s++Zr g dead m k
 | 0,_,s=>by unfold Zb Zr; rw [List.append_nil]
 | m + 1,k,s=>by
  unfold Zb Zr
  rw [qoU,List.append_assoc]
theorem qxK {dead:qc} {k:Nat} {c:Option qd}:(qiZ dead k c).length≤1:=by
 cases c with
 | none=>exact Nat.zero_le _
 | some c=>
  show (if slB dead c.S=true then [qb.mk (k:Int) c] else []).length≤1
  by_cases h:slB dead c.S=true
  ·rw [if_pos h]; exact Nat.le_refl _
  ·rw [if_neg h]; exact Nat.zero_le _
def rJ (a b:qa):qa:=qa.mk a.ID (mxS a.qH b.qH) (Zr (fun no=>jC (cO a.F no) (cO b.F no)) (mxS a.qH b.qH) 8 0)
theorem qCa {r:qa} (h:vg r=true):(r.F.map fun f=>f.No).Nodup:=by
 have hlt:∀ (d a:Nat),a + d + 1 < r.F.length→(r.F.getD a zF).No < (r.F.getD (a + d + 1) zF).No:=by
  intro d
  induction d with
  | zero=>
   intro a ha
   have:=(Zk.1 ((ZT.1 h).2.2 (a + 0 + 1) ha)).1
   rw [if_neg (by omega),show a + 0 + 1 - 1=a by omega] at this
   exact this
  | succ d ih=>
   intro a ha
   have h1:=ih a (by omega)
   have:=(Zk.1 ((ZT.1 h).2.2 (a + (d + 1) + 1) ha)).1
   rw [if_neg (by omega),show a + (d + 1) + 1 - 1=a + d + 1 by omega] at this
   omega
 rw [List.nodup_iff_pairwise_ne,List.pairwise_iff_getElem]
 intro i j hi hj hij
 rw [List.length_map] at hi hj
 have:=hlt (j - i - 1) i (by omega)
 rw [show i + (j - i - 1) + 1=j by omega,List.getD_eq_getElem?_getD,List.getD_eq_getElem?_getD,List.getElem?_eq_getElem hi,List.getElem?_eq_getElem hj] at this
 rw [List.getElem_map,List.getElem_map]
 show r.F[i].No≠r.F[j].No
 have:r.F[i].No < r.F[j].No:=this
 omega
theorem qGX {r:qa} (h:vg r=true):∀ k,k < r.F.length→Xd (r.F.getD k zF).C=true:=fun j hj=>(Zk.1 ((ZT.1 h).2.2 j hj)).2.2.1
def qgy (g:Int→Option qd):Prop:=∀ no c,g no=some c→c.V.length≤200
theorem qMl (a b:qd):cJ a b=a∨cJ a b=b:=by
 unfold cJ
 split
 ·exact .inr rfl
 ·exact .inl rfl
theorem qFJ {g:Int→Option qd} {f:qb} (hg:qgy g) (hf:f.C.V.length≤200):qgy (Xt g f):=by
 intro no c h
 unfold Xt at h
 split at h
 ·cases e:g no with
  | none=>rw [e] at h; obtain rfl:=Option.some.inj h; exact hf
  | some x=>
   rw [e] at h
   obtain rfl:=Option.some.inj h
   rcases qMl x f.C with h1 | h1
   ·rw [h1]; exact hg no x e
   ·rw [h1]; exact hf
 ·exact hg no c h
end Go.Rx
end
set_option maxRecDepth 100000
noncomputable section
namespace Go.Rx
open Go.Proofs
open Go.Lib (compareBytes)
theorem qx0 {a b c:Vector UInt8 16} (h1:lbB a b=true) (h2:lbB b c=true):lbB a c=true:=by
 rw [qqN] at *; exact qHr h1 h2
theorem qNr (a b:Vector UInt8 16):(lbB a b=true∧lbB b a=false)∨a=b∨(lbB b a=true∧lbB a b=false):=by
 rw [qqN,qqN]
 rcases qgJ a.toList b.toList with h | h | h
 ·exact .inl h
 ·exact .inr (.inl (Vector.toList_inj.1 h))
 ·exact .inr (.inr h)
end Go.Rx
end
set_option maxRecDepth 100000
noncomputable section
namespace Go.Rx
open Go.Proofs
theorem qhV {α:Type} {l:List α} {d:α} {P:α→Prop}:(∀ k,k < l.length→P (l.getD k d))↔∀ x∈l,P x:=by
 constructor
 ·intro h x hx
  obtain ⟨i,hi,rfl⟩:=List.getElem_of_mem hx
  have:=h i hi
  rw [List.getD_eq_getElem?_getD,List.getElem?_eq_getElem hi] at this
  exact this
 ·intro h k hk
  rw [List.getD_eq_getElem?_getD,List.getElem?_eq_getElem hk]
  exact h _ (List.getElem_mem hk)
theorem qiE {α:Type} {R:α→α→Prop} (ht:∀ a b c,R a b→R b c→R a c) {d:α} {l:List α}:(∀ k,k + 1 < l.length→R (l.getD k d) (l.getD (k + 1) d))↔l.Pairwise R:=by
 have gd:∀ k (h:k < l.length),l.getD k d=l[k]:=fun k h=>by rw [List.getD_eq_getElem?_getD,List.getElem?_eq_getElem h]; rfl
 rw [List.pairwise_iff_getElem]
 constructor
 ·intro h i j hi hj hij
  have key:∀ m,∀ hm:i + m + 1 < l.length,R l[i] l[i + m + 1]:=by
   intro m
   induction m with
   | zero=>
    intro hm
    have:=h i hm
    rw [gd i hi,gd (i + 1) hm] at this; exact this
   | succ m ih=>
    intro hm
    have h1:=ih (by omega)
    have h2:=h (i + m + 1) hm
    rw [gd (i + m + 1) (by omega),gd (i + m + 1 + 1) hm] at h2
    exact ht _ _ _ h1 h2
  have:=key (j - i - 1) (by omega)
  have e:i + (j - i - 1) + 1=j:=by omega
  simp only [e] at this
  exact this
 ·intro h k hk
  rw [gd k (by omega),gd (k + 1) hk]
  exact h k (k + 1) (by omega) hk (by omega)
abbrev qkU (l:List qb):Prop:=l.Pairwise fun f g=>f.No < g.No
theorem V9 {r:qa}:vg r=true↔stB r.qH=true∧(r.F≠[]∨r.qH≠zSt)∧qkU r.F∧∀ f∈r.F,0≤f.No∧f.No < 8∧Xd f.C=true∧slB r.qH f.C.S=true:=by
 have hne:r.F.length≠0↔r.F≠[]:=by
  rw [Ne,Ne,List.length_eq_zero_iff]
 constructor
 ·intro h
  have hr:=ZT.1 h
  refine ⟨hr.1,hr.2.1.imp hne.1 id,(qiE (R:=fun f g:qb=>f.No < g.No) (fun a b c h1 h2=>Int.lt_trans h1 h2) (d:=zF)).1 fun k hk=>?_,(qhV (d:=zF)).1 fun k hk=>?_⟩
  ·have:=(Zk.1 (hr.2.2 (k + 1) hk)).1
   rw [if_neg (by omega)] at this
   exact this
  ·have h1:=Zk.1 (hr.2.2 k hk)
   have h2:=qvQ h k hk
   exact ⟨by omega,h1.2.1,h1.2.2.1,h1.2.2.2⟩
 ·rintro ⟨h1,h2,h3,h4⟩
  refine ZT.2 ⟨h1,h2.imp hne.2 id,fun k hk=>Zk.2 ⟨?_,?_⟩⟩
  ·by_cases h0:k=0
   ·rw [if_pos h0]; exact ((qhV (d:=zF)).2 h4 k hk).1
   ·rw [if_neg h0]
    have:=(qiE (R:=fun f g:qb=>f.No < g.No) (fun a b c h1 h2=>Int.lt_trans h1 h2) (d:=zF)).2 h3 (k - 1) (by omega)
    rw [show k - 1 + 1=k by omega] at this
    exact this
  ·have:=(qhV (d:=zF)).2 h4 k hk
   exact this.2
theorem qc3 {g:Int→Option qd} {dead:qc}:∀ {m k:Nat} {f:qb},f∈Zr g dead m k→(k:Int)≤f.No∧f.No < ((k + m:Nat):Int)∧g f.No=some f.C∧slB dead f.C.S=true
 | 0,_,_,h=>absurd h List.not_mem_nil
 | m + 1,k,f,h=>by
  unfold Zr at h
  rcases List.mem_append.1 h with h | h
  ·cases e:g (k:Int) with
   | none=>rw [e] at h; exact absurd h List.not_mem_nil
   | some c=>
    rw [e] at h
    have h:f∈(if slB dead c.S=true then [qb.mk (k:Int) c] else []):=h
    split at h
    ·rename_i hs
     obtain rfl:=List.mem_singleton.1 h
     exact ⟨Int.le_refl _,by show (k:Int) < _; omega,e,hs⟩
    ·exact absurd h List.not_mem_nil
  ·have:=qc3 h
   exact ⟨by omega,by omega,this.2.2⟩
theorem qnd {g:Int→Option qd} {dead:qc}:∀ {m k:Nat},qkU (Zr g dead m k)
 | 0,_=>List.Pairwise.nil
 | m + 1,k=>by
  unfold Zr
  refine List.pairwise_append.2 ⟨?_,qnd,fun a ha b hb=>?_⟩
  ·have:=qxK (dead:=dead) (k:=k) (c:=g (k:Int))
   match hk:qiZ dead k (g (k:Int)),this with
   | [],_=>exact List.Pairwise.nil
   | [x],_=>exact List.pairwise_singleton _ _
  ·have h1:=qc3 hb
   cases e:g (k:Int) with
   | none=>rw [e] at ha; exact absurd ha List.not_mem_nil
   | some c=>
    rw [e] at ha
    have ha:a∈(if slB dead c.S=true then [qb.mk (k:Int) c] else []):=ha
    split at ha
    ·obtain rfl:=List.mem_singleton.1 ha
     show (k:Int) < b.No
     omega
    ·exact absurd ha List.not_mem_nil
theorem qeL {l:List qb} (h:qkU l) {f:qb} (hf:f∈l):cO l f.No=some f.C:=by
 induction l with
 | nil=>exact absurd hf List.not_mem_nil
 | cons x l ih=>
  rw [V0]
  have hp:=List.pairwise_cons.1 h
  rcases List.mem_cons.1 hf with rfl | hf
  ·rw [if_pos rfl]
  ·have:=hp.1 f hf
   rw [if_neg (by omega),ih hp.2 hf]
theorem qtM {r:qa} (h:vg r=true) {no:Int} {c:qd} (hc:cO r.F no=some c):0≤no∧no < 8∧Xd c=true∧slB r.qH c.S=true:=by
 obtain ⟨f,hf,rfl,rfl⟩:=qcb hc
 exact (V9.1 h).2.2.2 f hf
theorem qHl {g:Int→Option qd} {dead:qc} {no:Int} (h0:0≤no) (h8:no < 8):cO (Zr g dead 8 0) no=(g no).filter fun c=>slB dead c.S:=by
 have key:∀ (m k:Nat),(k:Int)≤no→no < ((k + m:Nat):Int)→cO (Zr g dead m k) no=(g no).filter fun c=>slB dead c.S:=by
  intro m
  induction m with
  | zero=>intro k h1 h2; omega
  | succ m ih=>
   intro k h1 h2
   unfold Zr
   have app:∀ (a b:List qb),cO (a++b) no=(cO a no).or (cO b no):=by
    intro a b
    unfold cO
    rw [List.find?_append]
    cases List.find? (fun f:qb=>decide (f.No=no)) a<;>rfl
   rw [app]
   by_cases e:no=(k:Int)
   ·subst e
    have hn:cO (Zr g dead m (k + 1)) (k:Int)=none:=by
     cases hc:cO (Zr g dead m (k + 1)) (k:Int) with
     | none=>rfl
     | some c=>
      obtain ⟨f,hf,h3,_⟩:=qcb hc
      have:=(qc3 hf).1
      omega
    rw [hn]
    cases hg:g (k:Int) with
    | none=>rfl
    | some c=>
     show (cO (if slB dead c.S=true then [qb.mk (k:Int) c] else []) (k:Int)).or none=_
     rw [Option.or_none]
     by_cases hs:slB dead c.S=true
     ·rw [if_pos hs,V0,if_pos (show (qb.mk (k:Int) c).No=(k:Int) from rfl),Option.filter_some,if_pos hs]; rfl
     ·rw [if_neg hs,qkW,Option.filter_some,if_neg hs]
   ·have hn : cO (qiZ dead k (g (k : Int))) no = none := by
       cases hg:g (k:Int) with
       | none=>rfl
       | some c=>
        show cO (if slB dead c.S=true then [qb.mk (k:Int) c] else []) no=none
        by_cases hs:slB dead c.S=true
        ·rw [if_pos hs,V0,if_neg (fun h=>e h.symm),qkW]
        ·rw [if_neg hs,qkW]
    rw [hn,Option.none_or,ih (k + 1) (by omega) (by omega)]
 exact key 8 0 (by omega) (by omega)
theorem qNI (a b:qc):mxS a b=a∨mxS a b=b:=by
 unfold mxS
 split
 ·exact .inr rfl
 ·exact .inl rfl
theorem qBW {s:qc} (h:stB s=true) (hz:s≠zSt):slB zSt s=true:=by
 unfold stB at h
 rw [decide_eq_false hz] at h
 simp only [Bool.false_or,Bool.and_eq_true,decide_eq_true_iff] at h
 unfold slB
 exact decide_eq_true (.inl h.1.1.1)
theorem qO1 {x y:qd}:slB (cJ x y).S x.S=false∧slB (cJ x y).S y.S=false:=by
 unfold cJ
 by_cases h:Qn x y=true
 ·rw [if_pos h]
  unfold Qn at h
  by_cases e:x.S=y.S
  ·rw [e]; exact ⟨Zq _,Zq _⟩
  ·rw [if_neg e] at h
   rcases qdY x.S y.S with h1 | h1 | h1
   ·exact ⟨h1.2,Zq _⟩
   ·exact (e h1).elim
   ·rw [h] at h1; simp at h1
 ·rw [if_neg h]
  unfold Qn at h
  by_cases e:x.S=y.S
  ·rw [e]; exact ⟨Zq _,Zq _⟩
  ·rw [if_neg e] at h
   rcases qdY x.S y.S with h1 | h1 | h1
   ·exact (h h1.1).elim
   ·exact (e h1).elim
   ·exact ⟨Zq _,h1.2⟩
theorem qIy {a b c:qc} (h1:slB b a=false) (h2:slB c a=true):slB c b=true:=by
 rcases qdY a b with h | h | h
 ·exact qyk h2 h.1
 ·subst h; exact h2
 ·rw [h1] at h; simp at h
theorem qBd {a b:qa} (ha:vg a=true) (hb:vg b=true) {no:Int} {c:qd} (h:jC (cO a.F no) (cO b.F no)=some c):0≤no∧no < 8∧Xd c=true:=by
 cases ea:cO a.F no with
 | none=>
  rw [ea] at h
  cases eb:cO b.F no with
  | none=>rw [eb] at h; cases h
  | some y=>
   rw [eb] at h
   obtain rfl:=Option.some.inj h
   have:=qtM hb eb; exact ⟨this.1,this.2.1,this.2.2.1⟩
 | some x=>
  have hx:=qtM ha ea
  rw [ea] at h
  cases eb:cO b.F no with
  | none=>
   rw [eb] at h
   obtain rfl:=Option.some.inj h
   exact ⟨hx.1,hx.2.1,hx.2.2.1⟩
  | some y=>
   have hy:=qtM hb eb
   rw [eb] at h
   obtain rfl:=Option.some.inj h
   refine ⟨hx.1,hx.2.1,?_⟩
   rcases qMl x y with e | e
   ·rw [e]; exact hx.2.2.1
   ·rw [e]; exact hy.2.2.1
theorem qF0 (a b:qa):(rJ a b).F=Zr (fun no=>jC (cO a.F no) (cO b.F no)) (mxS a.qH b.qH) 8 0:=rfl
theorem qzQ {a b:qa} (ha:vg a=true) (hb:vg b=true) (no:Int):cO (rJ a b).F no=(jC (cO a.F no) (cO b.F no)).filter fun c=>slB (mxS a.qH b.qH) c.S:=by
 by_cases h:0≤no∧no < 8
 ·rw [qF0,qHl h.1 h.2]
 ·have e1 : jC (cO a.F no) (cO b.F no) = none := by
     cases e:jC (cO a.F no) (cO b.F no) with
     | none=>rfl
     | some c=>have:=qBd ha hb e; exact (h ⟨this.1,this.2.1⟩).elim
  rw [e1]
  cases e:cO (rJ a b).F no with
  | none=>rfl
  | some c=>
   obtain ⟨f,hf,h3,_⟩:=qcb e
   rw [qF0] at hf
   have:=qc3 (m:=8) (k:=0) hf
   exact (h ⟨by omega,by omega⟩).elim
theorem qOR (a b:qa):(rJ a b).ID=a.ID:=rfl
theorem qwH (a b:qa):(rJ a b).qH=mxS a.qH b.qH:=rfl
theorem qJR {a b:qc} (ha:stB a=true) (hb:stB b=true) (h:mxS a b=zSt):a=zSt∧b=zSt:=by
 by_cases e:b=zSt
 ·subst e
  unfold mxS at h
  by_cases hs:slB a zSt=true
  ·exfalso
   by_cases ea:a=zSt
   ·subst ea; rw [Zq] at hs; simp at hs
   ·have:=qyk (qBW ha ea) hs
    rw [Zq] at this; simp at this
  ·rw [if_neg hs] at h; exact ⟨h,rfl⟩
 ·exfalso
  unfold mxS at h
  by_cases hs:slB a b=true
  ·rw [if_pos hs] at h; exact e h
  ·rw [if_neg hs] at h
   subst h
   exact hs (qBW hb e)
theorem ql6 {a b:qa} (ha:vg a=true) (hb:vg b=true):vg (rJ a b)=true:=by
 have hA:=V9.1 ha
 have hB:=V9.1 hb
 refine V9.2 ⟨?_,?_,by rw [qF0]; exact qnd,fun f hf=>?_⟩
 ·rw [qwH]
  rcases qNI a.qH b.qH with e | e
  ·rw [e]; exact hA.1
  ·rw [e]; exact hB.1
 ·by_cases hz:(rJ a b).qH=zSt
  ·left
   intro hF
   obtain ⟨za,zb⟩:=qJR hA.1 hB.1 hz
   have hne:a.F≠[]:=hA.2.1.resolve_right (fun h=>h za)
   obtain ⟨f,l,e⟩:=List.exists_cons_of_ne_nil hne
   have hf:f∈a.F:=by rw [e]; exact List.mem_cons_self ..
   have hca:=qeL hA.2.2.1 hf
   have hfl:=(hA.2.2.2 f hf).2.2.2
   have hn:cO (rJ a b).F f.No=none:=by rw [hF]; rfl
   rw [qzQ ha hb,hca] at hn
   rw [qwH] at hz
   rw [hz] at hn
   rw [za] at hfl
   cases hcb:cO b.F f.No with
   | none=>
    rw [hcb] at hn
    have hn:(some f.C).filter (fun c=>slB zSt c.S)=none:=hn
    rw [Option.filter_some,if_pos hfl] at hn; cases hn
   | some y=>
    rw [hcb] at hn
    have hn:(some (cJ f.C y)).filter (fun c=>slB zSt c.S)=none:=hn
    rw [Option.filter_some,if_pos (qIy qO1.1 hfl)] at hn; cases hn
  ·exact .inr hz
 ·rw [qF0] at hf
  have h1:=qc3 (m:=8) (k:=0) hf
  have h2:=qBd ha hb h1.2.2.1
  exact ⟨h2.1,h2.2.1,h2.2.2,h1.2.2.2⟩
theorem quH:∀ {l l':List qb},qkU l→qkU l'→(∀ no,cO l no=cO l' no)→l=l'
 | [],[],_,_,_=>rfl
 | [],y::l',_,h',h=>by
  have:=h y.No
  rw [qkW,V0,if_pos rfl] at this; cases this
 | x::l,[],hl,_,h=>by
  have:=h x.No
  rw [qkW,V0,if_pos rfl] at this; cases this
 | x::l,y::l',hl,hl',h=>by
  have pl:=List.pairwise_cons.1 hl
  have pl':=List.pairwise_cons.1 hl'
  have hno:x.No=y.No:=by
   have h1:=h x.No
   rw [V0,if_pos rfl] at h1
   have h2:=h y.No
   rw [V0 (f:=y),if_pos rfl] at h2
   obtain ⟨f,hf,e,_⟩:=qcb h1.symm
   obtain ⟨g,hg,e',_⟩:=qcb h2
   rcases List.mem_cons.1 hf with rfl | hf
   ·exact e.symm
   ·rcases List.mem_cons.1 hg with rfl | hg
    ·exact e'
    ·have:=pl'.1 f hf
     have:=pl.1 g hg
     omega
  have hc:x.C=y.C:=by
   have h1:=h x.No
   rw [V0,if_pos rfl,V0,if_pos hno.symm] at h1
   exact Option.some.inj h1
  have hxy:x=y:=by
   obtain ⟨n,c⟩:=x
   obtain ⟨n',c'⟩:=y
   have hno:n=n':=hno
   have hc:c=c':=hc
   rw [hno,hc]
  subst hxy
  rw [quH pl.2 pl'.2 fun no=>?_]
  by_cases e:x.No=no
  ·have n1 : cO l no = none := by
      cases hc:cO l no with
      | none=>rfl
      | some c=>
       obtain ⟨f,hf,e',_⟩:=qcb hc
       have:=pl.1 f hf; omega
   have n2:cO l' no=none:=by
    cases hc:cO l' no with
    | none=>rfl
    | some c=>
     obtain ⟨f,hf,e',_⟩:=qcb hc
     have:=pl'.1 f hf; omega
   rw [n1,n2]
  ·have:=h no
   rw [V0,V0,if_neg e,if_neg e] at this; exact this
theorem qM_ {r s:qa} (hr:vg r=true) (hs:vg s=true) (h1:r.ID=s.ID) (h2:r.qH=s.qH) (h3:∀ no,cO r.F no=cO s.F no):r=s:=by
 have:=quH (V9.1 hr).2.2.1 (V9.1 hs).2.2.1 h3
 obtain ⟨a,b,c⟩:=r
 obtain ⟨a',b',c'⟩:=s
 have h1:a=a':=h1
 have h2:b=b':=h2
 have this:c=c':=this
 rw [h1,h2,this]
def rO (l:List qa) (id:Vector UInt8 16):Option qa:=l.find? fun r=>decide (r.ID=id)
theorem qN9 {id:Vector UInt8 16}:rO [] id=none:=rfl
theorem qxp {r:qa} {l:List qa} {id:Vector UInt8 16}:rO (r::l) id=if r.ID=id then some r else rO l id:=by
 unfold rO
 rw [List.find?_cons]
 by_cases h:r.ID=id
 ·rw [decide_eq_true h,if_pos h]
 ·rw [decide_eq_false h,if_neg h]
theorem qb5 {l:List qa} {id:Vector UInt8 16} {r:qa} (h:rO l id=some r):r∈l∧r.ID=id:=
 ⟨List.mem_of_find?_eq_some h,of_decide_eq_true (List.find?_some (p:=fun r:qa=>decide (r.ID=id)) h)⟩
theorem qG9 {l:List qa} {id:Vector UInt8 16}:(qhm l id).map (fun i=>l.getD i zR)=rO l id:=by
 unfold qhm rO
 have:=ql2 (p:=fun r:qa=>decide (r.ID=id)) (d:=zR) (l:=l) (m:=l.length) (k:=0) (by omega)
 rw [List.drop_zero] at this
 exact this
abbrev qkl (l:List qa):Prop:=l.Pairwise fun a b=>lbB a.ID b.ID=true
def qvC (l:List qa):Prop:=qkl l∧∀ r∈l,vg r=true
theorem Xb {b:qe}:ju b=true↔qvC b.R∧b.R.length≤10:=by
 rw [WI]
 refine and_congr ?_ Iff.rfl
 have ht:∀ a b c:qa,lbB a.ID b.ID=true→lbB b.ID c.ID=true→lbB a.ID c.ID=true:=fun _ _ _ h1 h2=>qx0 h1 h2
 constructor
 ·intro h
  refine ⟨(qiE (R:=fun a b:qa=>lbB a.ID b.ID=true) ht (d:=zR)).1 fun k hk=>?_,(qhV (d:=zR)).1 fun k hk=>(h k hk).1⟩
  rcases (h (k + 1) hk).2 with e | e
  ·omega
  ·exact e
 ·rintro ⟨h1,h2⟩ k hk
  refine ⟨(qhV (d:=zR)).2 h2 k hk,?_⟩
  by_cases h0:k=0
  ·exact .inl h0
  ·have:=(qiE (R:=fun a b:qa=>lbB a.ID b.ID=true) ht (d:=zR)).2 h1 (k - 1) (by omega)
   rw [show k - 1 + 1=k by omega] at this
   exact .inr this
theorem qeD {l:List qa} (h:qkl l) {r:qa} (hr:r∈l):rO l r.ID=some r:=by
 induction l with
 | nil=>exact absurd hr List.not_mem_nil
 | cons x l ih=>
  rw [qxp]
  have hp:=List.pairwise_cons.1 h
  rcases List.mem_cons.1 hr with rfl | hr
  ·rw [if_pos rfl]
  ·have:=hp.1 r hr
   rw [if_neg (fun e=>by rw [e,qB9] at this; cases this),ih hp.2 hr]
def jR:Option qa→Option qa→Option qa
 | some x,some y=>some (rJ x y)
 | some x,none=>some x
 | none,y=>y
def qt2 (a b c:List qa):Prop:=qkl c∧∀ id,rO c id=jR (rO a id) (rO b id)
theorem qI0 {a b c:List qa} (ha:qvC a) (hb:qvC b) (h:qt2 a b c):qvC c:=by
 refine ⟨h.1,fun r hr=>?_⟩
 have e:=h.2 r.ID
 rw [qeD h.1 hr] at e
 cases ea:rO a r.ID with
 | none=>
  rw [ea] at e
  have e:some r=rO b r.ID:=e
  exact hb.2 r (qb5 e.symm).1
 | some x=>
  rw [ea] at e
  cases eb:rO b r.ID with
  | none=>
   rw [eb] at e
   obtain rfl:=Option.some.inj e
   exact ha.2 r (qb5 ea).1
  | some y=>
   rw [eb] at e
   obtain rfl:=Option.some.inj e
   exact ql6 (ha.2 x (qb5 ea).1) (hb.2 y (qb5 eb).1)
end Go.Rx
end
set_option maxRecDepth 100000
noncomputable section
namespace Go.Rx
open Go.Proofs
theorem qNf {a b:qd} (h1:a.S=b.S) (h2:a.V=b.V):a=b:=by
 obtain ⟨s,v⟩:=a
 obtain ⟨s',v'⟩:=b
 have h1:s=s':=h1
 have h2:v=v':=h2
 rw [h1,h2]
theorem qM6 (a b:Vector UInt8 32):(ltD a b=true∧ltD b a=false)∨a=b∨(ltD b a=true∧ltD a b=false):=by
 rcases qgJ a.toList b.toList with h | h | h
 ·exact .inl h
 ·exact .inr (.inl (Vector.toList_inj.1 h))
 ·exact .inr (.inr h)
theorem qof (a b:qd):(Qn a b=true∧Qn b a=false)∨a=b∨(Qn b a=true∧Qn a b=false):=by
 unfold Qn
 by_cases h1:a.S=b.S
 ·rw [if_pos h1,if_pos h1.symm]
  by_cases h2:ve a.V=ve b.V
  ·rw [if_pos h2,if_pos h2.symm]
   rcases qgJ a.V b.V with h | h | h
   ·exact .inl h
   ·exact .inr (.inl (qNf h1 h))
   ·exact .inr (.inr h)
  ·rw [if_neg h2,if_neg (fun h=>h2 h.symm)]
   rcases qM6 (ve a.V) (ve b.V) with h | h | h
   ·exact .inl h
   ·exact (h2 h).elim
   ·exact .inr (.inr h)
 ·rw [if_neg h1,if_neg (fun h=>h1 h.symm)]
  rcases qdY a.S b.S with h | h | h
  ·exact .inl h
  ·exact (h1 h).elim
  ·exact .inr (.inr h)
theorem qe6 (a:qd):Qn a a=false:=by
 rcases qof a a with h | h | h
 ·exact h.2
 ·unfold Qn; rw [if_pos rfl,if_pos rfl,X6]
 ·exact h.2
theorem qCf {a b:qd} (h:Qn a b=true):cJ a b=b:=if_pos h
theorem qv9 {a b:qd} (h:Qn a b=false):cJ a b=a:=if_neg (by rw [h]; simp)
theorem qNA (a:qd):cJ a a=a:=qv9 (qe6 a)
theorem qND (a b:qd):cJ a b=cJ b a:=by
 rcases qof a b with h | h | h
 ·rw [qCf h.1,qv9 h.2]
 ·subst h; rfl
 ·rw [qv9 h.2,qCf h.1]
theorem qMu (a b:qd):Qn (cJ a b) a=false:=by
 rcases qof a b with h | h | h
 ·rw [qCf h.1]; exact h.2
 ·subst h; rw [qNA,qe6]
 ·rw [qv9 h.2,qe6]
theorem qMM (o p:Option qd):jC o p=jC p o:=by
 cases o<;>cases p<;>first | rfl | exact congrArg some (qND _ _)
theorem qxm {a b:qc} (h:slB a b=true):mxS a b=b:=if_pos h
theorem qqM {a b:qc} (h:slB a b=false):mxS a b=a:=if_neg (by rw [h]; simp)
theorem qKg (a:qc):mxS a a=a:=qqM (Zq a)
theorem qBj (a b:qc):mxS a b=mxS b a:=by
 rcases qdY a b with h | h | h
 ·rw [qxm h.1,qqM h.2]
 ·subst h; rfl
 ·rw [qqM h.2,qxm h.1]
theorem qNM (a b:qc):slB (mxS a b) a=false:=by
 rcases qdY a b with h | h | h
 ·rw [qxm h.1]; exact h.2
 ·subst h; rw [qKg,Zq]
 ·rw [qqM h.2,Zq]
abbrev fl (d:qc) (o:Option qd):Option qd:=o.filter fun c=>slB d c.S
theorem qEn {d:qc} {c:qd}:fl d (some c)=if slB d c.S=true then some c else none:=by
 show Option.filter _ (some c)=_
 rw [Option.filter_some]
theorem qNa {a b:qd} (h:Qn a b=false):slB a.S b.S=false:=by
 unfold Qn at h
 by_cases e:a.S=b.S
 ·rw [e,Zq]
 ·rw [if_neg e] at h; exact h
theorem qNw {r s:qa} (h:vg r=true) (h':vg s=true) (hid:r.ID=s.ID):rJ r s=rJ s r:=
 qM_ (ql6 h h') (ql6 h' h) hid (qBj _ _) fun no=>by rw [qzQ h h',qzQ h' h,qMM,qBj]
def VO (id:Vector UInt8 16) (o:Option qa):Prop:=∀ r,o=some r→vg r=true∧r.ID=id
theorem qGV {l:List qa} (h:∀ r∈l,vg r=true) (id:Vector UInt8 16):VO id (rO l id):=fun r hr=>⟨h r (qb5 hr).1,(qb5 hr).2⟩
theorem qNd {id:Vector UInt8 16} {o p:Option qa} (ho:VO id o) (hp:VO id p):jR o p=jR p o:=by
 cases o with
 | none=>cases p<;>rfl
 | some r=>
  cases p with
  | none=>rfl
  | some s=>exact congrArg some (qNw (ho r rfl).1 (hp s rfl).1 ((ho r rfl).2.trans (hp s rfl).2.symm))
end Go.Rx
end
set_option maxRecDepth 100000
noncomputable section
namespace Go.Rx
open Go.Proofs
open Go.Lib (compareBytes)
section g
variable {α:Type}
theorem qBk {p q:List α} {x:α} {n:Nat} (h:(p++x::q).length=n):Xu (p++x::q) n p.length=some x:=by
 unfold Xu
 rw [if_pos h,List.getElem?_append_right (Nat.le_refl _),Nat.sub_self]; rfl
theorem qwd {x y:α} {q:List α}:∀ {p:List α},(p++x::q).set p.length y=p++y::q
 | []=>rfl
 | z::p=>by
  show z::(p++x::q).set p.length y=_
  rw [qwd]; rfl
end g
def X3 (rp:List (Vector UInt8 16)) (x:Vector UInt8 16) (q:List (Vector UInt8 16)):List (Vector UInt8 16):=match rp with
 | []=>x::q
 | y::r=>if lbB x y=true then X3 r x (y::q) else (y::r).reverse++x::q
def Qg (l:List (Vector UInt8 16)):List (Vector UInt8 16):=l.foldl (fun p x=>X3 p.reverse x []) []
theorem qn9 {x:Vector UInt8 16}:∀ {rp q:List (Vector UInt8 16)},(X3 rp x q).Perm (x::(rp++q))
 | [],q=>List.Perm.refl _
 | y::r,q=>by
  unfold X3
  split
  ·exact qn9.trans (List.Perm.cons _ List.perm_middle)
  ·exact List.perm_middle.trans (List.Perm.cons _ ((List.reverse_perm _).append_right _))
theorem qym {x:Vector UInt8 16} {s:List (Vector UInt8 16)}:∀ {rp q:List (Vector UInt8 16)},X3 rp x (q++s)=X3 rp x q++s
 | [],q=>rfl
 | y::r,q=>by
  unfold X3
  split
  ·exact qym (q:=y::q)
  ·rw [List.append_assoc]; rfl
abbrev qgE (l:List (Vector UInt8 16)):Prop:=l.Pairwise fun a b=>lbB a b=true
theorem qr9 {x:Vector UInt8 16}:∀ {rp q:List (Vector UInt8 16)},qgE (rp.reverse++q)→(∀ y∈q,lbB x y=true)→x∉rp→qgE (X3 rp x q)
 | [],q,h,hq,_=>List.pairwise_cons.2 ⟨hq,h⟩
 | y::r,q,h,hq,hx=>by
  rw [List.mem_cons,not_or] at hx
  unfold X3
  split
  ·rename_i hlt
   refine qr9 (rp:=r) (q:=y::q) ?_ (fun z hz=>?_) hx.2
   ·rw [List.reverse_cons,List.append_assoc] at h; exact h
   ·rcases List.mem_cons.1 hz with rfl | hz
    ·exact hlt
    ·exact hq z hz
  ·rename_i hlt
   have hyx:lbB y x=true:=by
    rcases qNr x y with h1 | h1 | h1
    ·exact (hlt h1.1).elim
    ·exact (hx.1 h1).elim
    ·exact h1.1
   obtain ⟨h1,h2,h3⟩:=List.pairwise_append.1 h
   refine List.pairwise_append.2 ⟨h1,List.pairwise_cons.2 ⟨hq,h2⟩,fun a ha b hb=>?_⟩
   have hay:lbB a x=true:=by
    rw [List.reverse_cons,List.mem_append,List.mem_singleton] at ha
    rcases ha with ha | rfl
    ·rw [List.reverse_cons] at h1
     exact qx0 ((List.pairwise_append.1 h1).2.2 a ha y (List.mem_singleton.2 rfl)) hyx
    ·exact hyx
   rcases List.mem_cons.1 hb with rfl | hb
   ·exact hay
   ·exact h3 a ha b hb
theorem qx6:∀ {l p:List (Vector UInt8 16)},qgE p→(p++l).Nodup→qgE (l.foldl (fun p x=>X3 p.reverse x []) p)∧(l.foldl (fun p x=>X3 p.reverse x []) p).Perm (p++l)
 | [],p,h,_=>⟨h,by rw [List.append_nil]; exact List.Perm.refl _⟩
 | x::l,p,h,hn=>by
  have hp:(X3 p.reverse x []).Perm (x::p):=qn9.trans (List.Perm.cons _ (by rw [List.append_nil]; exact List.reverse_perm _))
  have hx:x∉p:=fun hx=>by
   have:=(List.nodup_append.1 hn).2.2 x hx x (List.mem_cons_self ..)
   exact this rfl
  have hs:qgE (X3 p.reverse x []):=qr9 (by rw [List.reverse_reverse,List.append_nil]; exact h) (fun y hy=>absurd hy (List.not_mem_nil)) (by rw [List.mem_reverse]; exact hx)
  have hpl:(X3 p.reverse x []++l).Perm (p++x::l):=(hp.append_right l).trans List.perm_middle.symm
  obtain ⟨h1,h2⟩:=qx6 (l:=l) hs (hpl.nodup_iff.2 hn)
  exact ⟨h1,h2.trans hpl⟩
theorem qJZ {l:List (Vector UInt8 16)} (h:l.Nodup):qgE (Qg l)∧(Qg l).Perm l:=by
 have:=qx6 (l:=l) (p:=[]) List.Pairwise.nil (by simpa using h)
 rw [List.nil_append] at this
 exact this
section
variable {N:Nat} [Vv N]
theorem qJK (a b:Vector UInt8 16):∃ n:Int,qhZ a b=some n∧decide (n < 0)=lbB a b:=by
 refine ⟨compareBytes a.toList b.toList,rfl,?_⟩
 rw [qqN]; rfl
theorem qEZ {s2 s8 : Int} : ∀ (rp : List (Vector UInt8 16)) (x : Vector UInt8 16) (q : List (Vector UInt8 16)) (n m : Nat), (rp.reverse ++ x :: q).length = n → n ≤ 1000 → rp.length < m →
    ∃ j b,qY (jf N n 0 s2 s8) some m (rp.reverse++x::q,(rp.length:Int))=some (X3 rp x q,j,b)
 | _,_,_,_,0,_,_,hm=>by omega
 | [],x,q,n,m + 1,hn,hs,hm=>by
  refine ⟨((0:Nat):Int),false,?_⟩
  rw [jq (x:=(([]:List (Vector UInt8 16)).reverse++x::q,((0:Nat):Int),false)) (by unfold jf; exact w_f rfl (q9 rfl)) m]
  rfl
 | y::r,x,q,n,m + 1,hn,hs,hm=>by
  have hl:(y::r).reverse.length=r.length + 1:=by simp
  have e0:(y::r).reverse++x::q=r.reverse++y::(x::q):=by rw [List.reverse_cons,List.append_assoc]; rfl
  have hrl:r.reverse.length=r.length:=List.length_reverse
  have hnl:r.length + 1 < n:=by rw [← hn,List.length_append,hl,List.length_cons]; omega
  obtain ⟨c,hc,hlt⟩:=qJK x y
  have c0:(0:Int)≤((r.length + 1:Nat):Int)∧((r.length + 1:Nat):Int) < ((n:Nat):Int):=by omega
  have c1:qt (((r.length + 1:Nat):Int) - 1):=by unfold qt; omega
  have c2:(0:Int)≤((r.length + 1:Nat):Int) - 1∧((r.length + 1:Nat):Int) - 1 < ((n:Nat):Int):=by omega
  have g1:Xu ((y::r).reverse++x::q) n (((r.length + 1:Nat):Int)).toNat=some x:=by
   have:=qBk (p:=(y::r).reverse) (x:=x) (q:=q) hn
   rw [hl] at this; exact this
  have t1:(((r.length + 1:Nat):Int) - 1).toNat=r.length:=by omega
  have g2:Xu ((y::r).reverse++x::q) n (((r.length + 1:Nat):Int) - 1).toNat=some y:=by
   rw [t1,e0]
   have:=qBk (p:=r.reverse) (x:=y) (q:=x::q) (n:=n) (by rw [← e0]; exact hn)
   rw [hrl] at this; exact this
  cases hb:lbB x y with
  | false=>
   refine ⟨((r.length + 1:Nat):Int),decide (c < 0),?_⟩
   rw [jq (x:=((y::r).reverse++x::q,((r.length + 1:Nat):Int),decide (c < 0))) (by
    unfold jf
    exact w_t (decide_eq_true (by show (0:Int) < ((r.length + 1:Nat):Int); omega)) (zl c0 (qA g1 (zl c1 (zl c2 (qA g2 (qA hc (w_f (hlt.trans hb) (q9 rfl)))))))) ) m]
   unfold X3
   rw [if_neg (by rw [hb]; simp)]
  | true=>
   obtain ⟨j,b,h⟩:=qEZ r x (y::q) n m (by rw [← hn,e0]; simp) hs (by simp at hm; omega)
   refine ⟨j,b,?_⟩
   have s1:((y::r).reverse++x::q).set (((r.length + 1:Nat):Int)).toNat y=(y::r).reverse++y::q:=by
    have:=qwd (p:=(y::r).reverse) (x:=x) (y:=y) (q:=q)
    rw [hl] at this; exact this
   have s2:((y::r).reverse++y::q).set (((r.length + 1:Nat):Int) - 1).toNat x=r.reverse++x::(y::q):=by
    rw [t1,show (y::r).reverse++y::q=r.reverse++y::(y::q) by rw [List.reverse_cons,List.append_assoc]; rfl]
    have:=qwd (p:=r.reverse) (x:=y) (y:=x) (q:=y::q)
    rw [hrl] at this; exact this
   have v1:qbs ((y::r).reverse++x::q).length n (((r.length + 1:Nat):Int)).toNat:=⟨hn,by omega⟩
   have v2:qbs (((y::r).reverse++x::q).set (((r.length + 1:Nat):Int)).toNat y).length n (((r.length + 1:Nat):Int) - 1).toNat:=⟨by rw [List.length_set]; exact hn,by omega⟩
   rw [WN (v':=(r.reverse++x::(y::q),(r.length:Int))) (by
    unfold jf
    refine w_t (decide_eq_true (by show (0:Int) < ((r.length + 1:Nat):Int); omega)) (zl c0 (qA g1 (zl c1 (zl c2 (qA g2 (qA hc (w_t (hlt.trans hb) (zl c1 (zl c1 (zl c2 (qA g2 (zl c0 (qA g1 (zl c0 (zl v1 (zl c2 (zl v2 (zl c1 (q9 ?_)))))))))))))))))))
    show some (Sum.inl ((((y::r).reverse++x::q).set (((r.length + 1:Nat):Int)).toNat y).set (((r.length + 1:Nat):Int) - 1).toNat x,((r.length + 1:Nat):Int) - 1))=_
    rw [s1,s2,show ((r.length + 1:Nat):Int) - 1=(r.length:Int) by omega]) m]
   unfold X3
   rw [if_pos hb]
   exact h
theorem qGl {l:List (Vector UInt8 16)} (hs:l.length≤1000) (h0:l≠[]):zQ N l 0 (l.length:Int)=some (Qg l):=by
 have hN:=big N
 have hpos:0 < l.length:=List.length_pos_iff.2 h0
 have key:vb N l.length 0 (l.length:Int) l 1=some (Qg l,(l.length:Int),false):=by
  have h:=VC (B:=zC N l.length 0 (l.length:Int)) (g:=some) (I:=fun v=>∃ k:Nat,1≤k∧k≤l.length∧v=(Qg (l.take k)++l.drop k,(k:Int))) (Q:=fun y=>y=(Qg l,(l.length:Int),false)) (fun v=>l.length - v.2.toNat) ?_ N (l,((1:Nat):Int))
   ⟨1,Nat.le_refl _,hpos,by
    cases l with
    | nil=>exact (h0 rfl).elim
    | cons x r=>rfl⟩ (by simp; omega)
  ·obtain ⟨y,e,rfl⟩:=h
   exact e
  rintro v ⟨k,h1,hk,rfl⟩
  have hlen:∀ j,j≤l.length→(Qg (l.take j)).length=j:=by
   intro j hj
   have:∀ (m p:List (Vector UInt8 16)),(m.foldl (fun p x=>X3 p.reverse x []) p).length=p.length + m.length:=by
    intro m
    induction m with
    | nil=>intro p; rfl
    | cons x m ih=>
     intro p
     rw [List.foldl_cons,ih,qn9.length_eq]
     simp; omega
   unfold Qg
   rw [this]; simp; omega
  by_cases h:k < l.length
  ·left
   have ed:l.drop k=l.getD k (Vector.replicate 16 0)::l.drop (k + 1):=by
    rw [List.drop_eq_getElem_cons h,List.getD_eq_getElem?_getD,List.getElem?_eq_getElem h]; rfl
   have et:Qg (l.take (k + 1))=X3 (Qg (l.take k)).reverse (l.getD k (Vector.replicate 16 0)) []:=by
    unfold Qg
    rw [List.take_succ_eq_append_getElem h,List.foldl_append,List.getD_eq_getElem?_getD,List.getElem?_eq_getElem h]; rfl
   have hll:(Qg (l.take k)).reverse.length=k:=by rw [List.length_reverse,hlen k hk]
   obtain ⟨j,b,e⟩:=qEZ (N:=N) (s2:=(l.length:Int)) (s8:=(k:Int)) (Qg (l.take k)).reverse (l.getD k (Vector.replicate 16 0)) (l.drop (k + 1)) l.length N (by
    rw [List.reverse_reverse,← ed,List.length_append,hlen k hk,List.length_drop]; omega) hs (by omega)
   rw [List.reverse_reverse,← ed,hll] at e
   have er:X3 (Qg (l.take k)).reverse (l.getD k (Vector.replicate 16 0)) (l.drop (k + 1))=Qg (l.take (k + 1))++l.drop (k + 1):=by
    rw [et,← qym]; rfl
   rw [er] at e
   refine ⟨(Qg (l.take (k + 1))++l.drop (k + 1),((k + 1:Nat):Int)),?_,⟨k + 1,by omega,h,rfl⟩,by simp only [Int.toNat_natCast]; omega⟩
   unfold zC
   exact w_t (dec_lt h) (qA e (zl (vR (by omega)) (q9 (by rw [zi]))))
  ·right
   obtain rfl:k=l.length:=by omega
   refine ⟨(Qg l,(l.length:Int),false),_,?_,rfl,rfl⟩
   unfold zC
   refine w_f (zG (Nat.lt_irrefl _)) (q9 ?_)
   dsimp only
   rw [zG (Nat.lt_irrefl _),List.take_of_length_le (Nat.le_refl _),List.drop_of_length_le (Nat.le_refl _),List.append_nil]
 unfold zQ vn
 exact zl (by unfold qt; omega) (qA key (q9 rfl))
theorem qDU:zQ N [] 0 ((([]:List (Vector UInt8 16)).length:Nat):Int)=some []:=by
 have key:vb N 0 0 ((0:Nat):Int) [] 1=some ([],1,false):=by
  obtain ⟨M,hM⟩:∃ M,N=M + 1:=⟨N - 1,by have:=big N; omega⟩
  show qY (zC N 0 0 ((0:Nat):Int)) some N ([],1)=_
  have:∀ K,K=M + 1→qY (zC N 0 0 ((0:Nat):Int)) some K ([],1)=some ([],1,false):=by
   rintro K rfl
   rw [jq (x:=([],1,false)) (by unfold zC; exact w_f rfl (q9 rfl))]
  exact this N hM
 unfold zQ vn
 exact zl (by unfold qt; omega) (qA key (q9 rfl))
theorem qNE {l:List (Vector UInt8 16)} (h:l.length≤12):Xj N l=some (Qg l):=by
 have e1:zQ N l 0 ((l.length:Nat):Int)=some (Qg l):=by
  cases l with
  | nil=>exact qDU
  | cons x r=>exact qGl (by omega) (by simp)
 have e2:∀ z:Int,Zi N l 0 ((l.length:Nat):Int) z=some (Qg l):=fun z=>by
  have key:Ja N l 0 ((l.length:Nat):Int) z=some (Qg l):=by
   obtain ⟨M,hM⟩:∃ M,N=M + 1:=⟨N - 1,by have:=big N; omega⟩
   show qY (vX N l 0 ((l.length:Nat):Int) z) some N ()=_
   have:∀ K,K=M + 1→qY (vX N l 0 ((l.length:Nat):Int) z) some K ()=some (Qg l):=by
    rintro K rfl
    rw [jq (x:=Qg l) (by unfold vX; exact zl (by unfold qt; omega) (w_t (decide_eq_true (by omega)) (qA ((zx rfl).trans e1) (q9 rfl))))]
   exact this N hM
  unfold Zi Jz
  exact qA ((zx rfl).trans key) (q9 rfl)
 have e3:∃ z,qbr (IntKind.u64.wrap ((l.length:Nat):Int))=some z:=by
  rw [qKY (by omega)]
  have:∀ k,k≤12→(qbr ((k:Nat):Int)).isSome=true:=by decide +kernel
  exact Option.isSome_iff_exists.1 (this _ h)
 obtain ⟨z,e3⟩:=e3
 unfold Xj WU
 exact qA e3 (qA ((zx rfl).trans (e2 z)) (q9 rfl))
end
end Go.Rx
end
set_option maxRecDepth 100000
noncomputable section
namespace Go.Rx
open Go.Proofs
open Go.Lib (compareBytes)
section
variable {N:Nat} [Vv N]
theorem qli (a b:Vector UInt8 32):qdB a b=some (ltD a b):=by
 unfold qdB qmG ltD
 rw [qF,eqD]
 by_cases h:a=b
 ·subst h; rw [decide_eq_true rfl,X6]; rfl
 ·rw [decide_eq_false h]; rfl
end
end Go.Rx
end
set_option maxRecDepth 100000
noncomputable section
namespace Go.Rx
open Go.Proofs
open Go.Lib (compareBytes)
section
variable {N:Nat} [Vv N]
theorem qKp {x y : Bool} {p : Prop} (h : (x = true ∧ y = false) ∨ p ∨ (y = true ∧ x = false)) (hp : p → x = false ∧ y = false) :
    ∃ n:Int,(Tree.cond x (.ret (-1:Int)) (.cond y (.ret 1) (.ret 0))).run some=some n∧(decide (n=0)=true↔p)∧(¬ p→decide (n < 0)=x):=by
 rcases h with ⟨h1,h2⟩ | h1 | ⟨h1,h2⟩
 ·subst h1; subst h2
  exact ⟨-1,rfl,⟨fun h=>by simp at h,fun h=>by have:=(hp h).1; simp at this⟩,fun _=>rfl⟩
 ·obtain ⟨h2,h3⟩:=hp h1
  subst h2; subst h3
  exact ⟨0,rfl,⟨fun _=>h1,fun _=>rfl⟩,fun h=>(h h1).elim⟩
 ·subst h1; subst h2
  exact ⟨1,rfl,⟨fun h=>by simp at h,fun h=>by have:=(hp h).2; simp at this⟩,fun _=>rfl⟩
theorem qHb (a b:qc):∃ n:Int,W0 N a b=some n∧(decide (n=0)=true↔a=b)∧(a≠b→decide (n < 0)=slB a b):=by
 obtain ⟨n,h1,h2,h3⟩:=qKp (qdY a b) fun h=>by subst h; exact ⟨Zq a,Zq a⟩
 refine ⟨n,?_,h2,h3⟩
 unfold W0 KF
 rw [run_bind,Vb,Option.bind_some,← h1,qF,qF,run_bind,Vb,Option.bind_some]
theorem qIm (a b:Vector UInt8 32):∃ n:Int,XY a b=some n∧(decide (n=0)=true↔a=b)∧(a≠b→decide (n < 0)=ltD a b):=by
 have ht:(ltD a b=true∧ltD b a=false)∨a=b∨(ltD b a=true∧ltD a b=false):=by
  rcases qgJ a.toList b.toList with h | h | h
  ·exact .inl h
  ·exact .inr (.inl (Vector.toList_inj.1 h))
  ·exact .inr (.inr h)
 obtain ⟨n,h1,h2,h3⟩:=qKp ht fun h=>by subst h; exact ⟨X6 _,X6 _⟩
 refine ⟨n,?_,h2,h3⟩
 unfold XY Y6
 rw [run_bind,qli,Option.bind_some,← h1,qF,qF,run_bind,qli,Option.bind_some]
theorem qMF (a b:List UInt8):∃ n:Int,Xk a b=some n∧(decide (n=0)=true↔a=b)∧(a≠b→decide (n < 0)=ltB a b):=by
 have e:∀ x:List UInt8,WY x=some ():=fun x=>rfl
 have g:(!(Op.bytesLess a b||decide (a=b)))=ltB b a:=by
  rw [qvA]
  rcases qgJ a b with h | h | h
  ·rw [h.1,h.2]; rfl
  ·subst h; rw [decide_eq_true rfl,X6]; rfl
  ·have:a≠b:=fun e=>by subst e; rw [X6] at h; simp at h
   rw [h.1,h.2,decide_eq_false this]; rfl
 obtain ⟨n,h1,h2,h3⟩:=qKp (qgJ a b) fun h=>by subst h; exact ⟨X6 _,X6 _⟩
 refine ⟨n,?_,h2,h3⟩
 unfold Xk WQ
 refine qA (e a) (qA (e b) (w_f (by rw [decide_eq_true rfl]; rfl) (w_f (by rw [decide_eq_true rfl]; rfl) ?_)))
 rw [← h1,qF,qF,qF,qF,qvA a b,← g,qvA a b]
theorem qK5 {a b:qd} (ha:a.V.length≤50000) (hb:b.V.length≤50000):qiJ N a b=some (Qn a b):=by
 obtain ⟨n1,e1,z1,l1⟩:=qHb (N:=N) a.S b.S
 obtain ⟨n2,e2,z2,l2⟩:=qIm (ve a.V) (ve b.V)
 obtain ⟨n3,e3,z3,l3⟩:=qMF a.V b.V
 have f1:qej N a b=some n1:=by unfold qej qfc; exact qA e1 (q9 rfl)
 have f2:qer N a b=some n2:=by unfold qer qfv; exact qA (qgY ha) (qA (qgY hb) (qA e2 (q9 rfl)))
 have f3:qee a b=some n3:=by unfold qee qfi; exact qA e3 (q9 rfl)
 have key:∃ M,N=M + 1:=⟨N - 1,by have:=big N; omega⟩
 obtain ⟨M,hM⟩:=key
 have z:∀ {n:Int} {p:Prop},(decide (n=0)=true↔p)→p→(!decide (n=0))=false:=fun h hp=>by rw [h.2 hp]; rfl
 have nz:∀ {n:Int} {p:Prop},(decide (n=0)=true↔p)→¬ p→(!decide (n=0))=true:=fun {n} {p} h hp=>by
  cases e:decide (n=0) with
  | false=>rfl
  | true=>exact (hp (h.1 e)).elim
 have hl:qcr N a b=some (if a.S=b.S∧ve a.V=ve b.V∧a.V=b.V then .inr () else .inl (Qn a b)):=by
  have s1:qcr N a b=qY (qad N a b) (qd2 N N (a,b)) (M + 1) ():=by rw [← hM]; rfl
  rw [s1]
  by_cases h1:a.S=b.S
  ·rw [jq (x:=.inl ()) (by unfold qad; exact zl (by omega) (qA f1 (w_f (z z1 h1) (q9 rfl))))]
   show qY (Zm N a b) (JO N N (a,b)) N ()=_
   rw [show qY (Zm N a b) (JO N N (a,b)) N ()=qY (Zm N a b) (JO N N (a,b)) (M + 1) () by rw [← hM]]
   by_cases h2:ve a.V=ve b.V
   ·rw [jq (x:=.inl ()) (by unfold Zm; exact zl (by omega) (qA f2 (w_f (z z2 h2) (q9 rfl))))]
    show qY (Zp N a b) (JV N N (a,b)) N ()=_
    rw [show qY (Zp N a b) (JV N N (a,b)) N ()=qY (Zp N a b) (JV N N (a,b)) (M + 1) () by rw [← hM]]
    by_cases h3:a.V=b.V
    ·rw [jq (x:=.inl ()) (by unfold Zp; exact zl (by omega) (qA f3 (w_f (z z3 h3) (q9 rfl))))]
     show qY (JN N a b) some N ()=_
     rw [show qY (JN N a b) some N ()=qY (JN N a b) some (M + 1) () by rw [← hM]]
     rw [jq (x:=.inr ()) (by unfold JN; exact q9 rfl),if_pos ⟨h1,h2,h3⟩]
    ·rw [jq (x:=.inr (.inl (decide (n3 < 0)))) (by unfold Zp; exact zl (by omega) (qA f3 (w_t (nz z3 h3) (q9 rfl)))),if_neg (fun h=>h3 h.2.2)]
     show some (Sum.inl (decide (n3 < 0)))=_
     rw [l3 h3]
     unfold Qn
     rw [if_pos h1,if_pos h2]
   ·rw [jq (x:=.inr (.inl (decide (n2 < 0)))) (by unfold Zm; exact zl (by omega) (qA f2 (w_t (nz z2 h2) (q9 rfl)))),if_neg (fun h=>h2 h.2.1)]
    show some (Sum.inl (decide (n2 < 0)))=_
    rw [l2 h2]
    unfold Qn
    rw [if_pos h1,if_neg h2]
  ·rw [jq (x:=.inr (.inl (decide (n1 < 0)))) (by unfold qad; exact zl (by omega) (qA f1 (w_t (nz z1 h1) (q9 rfl)))),if_neg (fun h=>h1 h.1)]
   show some (Sum.inl (decide (n1 < 0)))=_
   rw [l1 h1]
   unfold Qn
   rw [if_neg h1]
 unfold qiJ qjZ
 refine qA hl ?_
 by_cases h:a.S=b.S∧ve a.V=ve b.V∧a.V=b.V
 ·rw [if_pos h]
  show some false=_
  unfold Qn
  rw [if_pos h.1,if_pos h.2.1,h.2.2,X6]
 ·rw [if_neg h]; rfl
theorem qOL {a b:qd} (ha:a.V.length≤50000) (hb:b.V.length≤50000):qiX N a b=some (cJ a b):=by
 unfold qiX qj_ cJ
 refine qA (qK5 ha hb) ?_
 cases Qn a b<;>rfl
theorem qNZ (a b:qc):qiF N a b=some (mxS a b):=by
 unfold qiF qjR mxS
 refine qA (Vb _ _) ?_
 cases slB a b<;>rfl
end
end Go.Rx
end
set_option maxRecDepth 100000
noncomputable section
namespace Go.Rx
open Go.Proofs
section
variable {N:Nat} [Vv N]
theorem qMZ {l : List qb} (h8 : l.length ≤ 600) (hV : ∀ k, k < l.length → (l.getD k zF).C.V.length ≤ 200) {c : Nat} {M : List (Int × qd × Nat)} {g : Int → Option qd} (hM : ∀ no, KM no M = g no) (hg : qgy g) :
    ∃ c' M',Y3 N l ((l.length:Nat):Int) c M 0=some (c',M',((l.length:Nat):Int),false)∧(∀ no,KM no M'=l.foldl Xt g no)∧qgy (l.foldl Xt g):=by
 have key:∃ y,qY (QS N l ((l.length:Nat):Int)) some N (c,M,((0:Nat):Int))=some y∧∃ c' M',y=(c',M',((l.length:Nat):Int),false)∧(∀ no,KM no M'=l.foldl Xt g no)∧qgy (l.foldl Xt g):=by
  refine VC (I:=fun v=>∃ (k c':Nat) (M':List (Int×qd×Nat)),k≤l.length∧v=(c',M',(k:Int))∧(∀ no,KM no M'=(l.take k).foldl Xt g no)∧qgy ((l.take k).foldl Xt g)) (fun v=>l.length - v.2.2.toNat) ?_ N _ ⟨0,c,M,Nat.zero_le _,rfl,hM,hg⟩ (by have:=big N; simp; omega)
  rintro v ⟨k,c',M',hk,rfl,hi,hs⟩
  by_cases h:k < l.length
  ·left
   have et:(l.take (k + 1)).foldl Xt g=Xt ((l.take k).foldl Xt g) (l.getD k zF):=by
    rw [List.take_succ_eq_append_getElem h,List.foldl_append,List.getD_eq_getElem?_getD,List.getElem?_eq_getElem h]; rfl
   have hs':qgy ((l.take (k + 1)).foldl Xt g):=by rw [et]; exact qFJ hs (hV k h)
   have hno:=hi (l.getD k zF).No
   unfold KM at hno
   cases e:fnd (β:=qd) (.i .i64) (l.getD k zF).No M' with
   | none=>
    rw [e] at hno
    refine ⟨((Q7 (.i .i64) (qb.No (l.getD k zF)) (qb.C (l.getD k zF)) c' M').1,(Q7 (.i .i64) (qb.No (l.getD k zF)) (qb.C (l.getD k zF)) c' M').2,((k + 1:Nat):Int)),?_,⟨k + 1,_,_,h,rfl,?_,hs'⟩,by simp only [Int.toNat_natCast]; omega⟩
    ·unfold QS
     exact w_t (dec_lt h) (qA (zV (d:=zF) h) (qBw e (zl (vR (by omega)) (q9 (by rw [zi])))))
    ·intro no
     rw [qBq,et,qAS]
     by_cases hq:no=(l.getD k zF).No
     ·rw [if_pos hq,if_pos hq.symm,hq,← hno]; rfl
     ·rw [if_neg hq,if_neg (fun e=>hq e.symm),hi no]
   | some x=>
    rw [e] at hno
    have hx:x.1.V.length≤200:=hs _ _ hno.symm
    refine ⟨((Q7 (.i .i64) (qb.No (l.getD k zF)) (cJ x.1 (qb.C (l.getD k zF))) c' M').1,(Q7 (.i .i64) (qb.No (l.getD k zF)) (cJ x.1 (qb.C (l.getD k zF))) c' M').2,((k + 1:Nat):Int)),?_,⟨k + 1,_,_,h,rfl,?_,hs'⟩,by simp only [Int.toNat_natCast]; omega⟩
    ·unfold QS
     exact w_t (dec_lt h) (qA (zV (d:=zF) h) (qvL e (qA (qOL (by omega) (by have:(l.getD k zF).C.V.length≤200:=hV k h; omega)) (zl (vR (by omega)) (q9 (by rw [zi]))))))
    ·intro no
     rw [qBq,et,qAS]
     by_cases hq:no=(l.getD k zF).No
     ·rw [if_pos hq,if_pos hq.symm,hq,← hno]; rfl
     ·rw [if_neg hq,if_neg (fun e=>hq e.symm),hi no]
  ·right
   obtain rfl:k=l.length:=by omega
   refine ⟨(c',M',((l.length:Nat):Int),false),_,?_,rfl,c',M',rfl,?_⟩
   ·unfold QS
    exact w_f (zG (Nat.lt_irrefl _)) (q9 (by rw [zG (Nat.lt_irrefl _)]))
   ·rw [List.take_of_length_le (Nat.le_refl _)] at hi hs
    exact ⟨hi,hs⟩
 obtain ⟨y,e,c',M',rfl,h⟩:=key
 exact ⟨c',M',e,h⟩
theorem qEU {r : qa} (hr : vg r = true) {c : Nat} {M : List (Int × qd × Nat)} {g : Int → Option qd} (hM : ∀ no, KM no M = g no) (hg : qgy g) :
    ∃ c' M',Vs N c M r=some (c',M')∧(∀ no,KM no M'=jC (g no) (cO r.F no))∧qgy (r.F.foldl Xt g):=by
 have h8:=Vh hr
 obtain ⟨c',M',e,h,hs⟩:=qMZ (N:=N) (l:=r.F) (by omega) (fun k hk=>qgS (Zk.1 ((ZT.1 hr).2.2 k hk)).2.2.1) (c:=c) hM hg
 refine ⟨c',M',?_,fun no=>?_,hs⟩
 ·unfold Vs KQ
  exact qA e (q9 rfl)
 ·rw [h,qws (qCa hr)]
theorem qIb {o : List qb} {c : Nat} {M : List (Int × qd × Nat)} {o5 : Vector UInt8 16} {o6 : qc} {o7 : Vector UInt8 16} {o8 dead : qc} :
    Jo N o [] c M o5 o6 o7 o8 dead=some (Zr (fun no=>KM no M) dead 8 0):=by
 have key:VH N o c M o5 o6 o7 o8 dead [] 0=some (Zb (fun k s=>s++qiZ dead k (KM (k:Int) M)) 8 0 [],(8:Int),false):=by
  refine vZ (σ:=List qb) (B:=QK N o c M o5 o6 o7 o8 dead) (g:=some) (at_:=fun k s=>(s,(k:Int))) (I:=fun k s=>s.length≤k) (f:=fun k s=>s++qiZ dead k (KM (k:Int) M)) (n:=8)
   (fin:=fun s=>(s,(8:Int),false)) (fun k s hk hs=>⟨?_,?_⟩) (fun s _=>?_) N 0 [] (Nat.le_refl _) (Nat.zero_le _) (by have:=big N; omega)
  ·have d8:decide ((k:Int) < 8)=true:=decide_eq_true (by omega)
   unfold QK
   refine w_t d8 ?_
   unfold KM
   cases e:fnd (β:=qd) (.i .i64) (k:Int) M with
   | none=>exact qBw rfl (zl (vR (by omega)) (q9 (by rw [zi]; show _=some (Sum.inl (s++[],_)); rw [List.append_nil])))
   | some x=>
    refine qvL rfl (qA (Vb _ _) ?_)
    have hk2:qiZ dead k (Option.map (fun x=>x.1) (some x))=if slB dead x.1.S=true then [qb.mk (k:Int) x.1] else []:=rfl
    rw [hk2]
    cases hb:slB dead (qd.S x.1) with
    | false=>
     rw [if_neg (by simp),List.append_nil]
     exact w_f rfl (zl (vR (by omega)) (q9 (by rw [zi])))
    | true=>
     rw [if_pos rfl]
     have er:Ym o s c M o5 o6 o7 o8 dead (qb.mk (k:Int) x.1)=some ():=by
      unfold Ym K1
      exact zl ⟨rfl,by rw [List.length_append]; unfold zc; simp; omega⟩ (q9 rfl)
     exact w_t rfl (qA ((zx rfl).trans ((zx rfl).trans er)) (zl (vR (by omega)) (q9 (by rw [zi]))))
  ·have:=qxK (dead:=dead) (k:=k) (c:=KM (k:Int) M)
   rw [List.length_append]; omega
  ·unfold QK
   exact w_f rfl (q9 rfl)
 unfold Jo VS
 refine qA ((zx rfl).trans ((zx rfl).trans key)) (q9 ?_)
 rw [qoU (g:=fun no=>KM no M),List.nil_append]
theorem qOM {a b:qa} (ha:vg a=true) (hb:vg b=true) (hid:a.ID=b.ID):qmo N a b=some (rJ a b,true):=by
 have hN:=big N
 have h8a:=Vh ha
 have h8b:=Vh hb
 obtain ⟨c1,M1,e1,h1,s1⟩:=qEU (N:=N) ha (c:=0) (M:=[]) (g:=fun _=>none) (fun no=>rfl) (fun no c h=>by cases h)
 obtain ⟨c2,M2,e2,h2,_⟩:=qEU (N:=N) hb (c:=c1) (M:=M1) (g:=fun no=>cO a.F no) (fun no=>by rw [h1]; rfl) (by
  have:(a.F.foldl Xt fun _=>none)=fun no=>cO a.F no:=by funext no; rw [qws (qCa ha)]; rfl
  rw [← this]; exact s1)
 have ef:=qIb (N:=N) (o:=[]) (c:=c2) (M:=M2) (o5:=Vector.replicate 16 0) (o6:=qc.mk 0 0) (o7:=a.ID) (o8:=mxS a.qH b.qH) (dead:=mxS a.qH b.qH)
 have eg:(fun no=>KM no M2)=fun no=>jC (cO a.F no) (cO b.F no):=funext h2
 rw [eg] at ef
 unfold qmo qmm
 exact qA (qwl (by omega) (by omega)) (w_f (by rw [ha]; rfl) (qA (qwl (by omega) (by omega)) (w_f (by rw [hb]; rfl) (w_f (by rw [qGr]; show (!decide (a.ID=b.ID))=false; rw [decide_eq_true hid]; rfl)
  (qA e1 (qA e2 (qA (qNZ _ _) (qA rfl (qA ((zx rfl).trans ((zx rfl).trans ef)) (zl rfl (q9 rfl)))))))))))
end
end Go.Rx
end
set_option maxRecDepth 100000
noncomputable section
namespace Go.Rx
open Go.Proofs
section n
variable {N:Nat} [Vv N]
theorem qIl {l:List qa} {id:Vector UInt8 16} (h:l.length≤600):J3 N id l=some (qG1 (qhm l id)):=by
 have key:=qb_ (B:=vM N id l ((l.length:Nat):Int)) (g:=some) (p:=fun k=>decide ((l.getD k zR).ID=id)) (n:=l.length) (hit:=fun k=>.inl (k:Int)) (fin:=.inr (((l.length:Nat):Int),false)) (fun k hk=>by
  unfold vM qjP qfl
  rw [qF,dec_lt hk,cond_true,run_bind,zV (d:=zR) hk,Option.bind_some,run_bind,qO,Option.bind_some,qF,qGr,qO,qR,qg (show qt ((k:Int) + 1) by unfold qt; omega),qO,zi]
  cases decide ((l.getD k zR).ID=id)<;>rfl) (by
  unfold vM
  rw [qF,zG (Nat.lt_irrefl _),cond_false,qO]) N 0 (Nat.zero_le _) (by have:=big N; omega)
 have e:VR N id l ((l.length:Nat):Int) 0=qY (vM N id l ((l.length:Nat):Int)) some N ((0:Nat):Int):=rfl
 unfold J3 XK
 rw [run_bind,e,key,Nat.sub_zero]
 unfold qhm
 cases vv (fun k=>decide ((l.getD k zR).ID=id)) l.length 0<;>rfl
theorem qHS {l:List qb} {no:Int} (h:l.length≤600):Z3 N no l=some (qG1 (qhQ l no)):=by
 have key:=qb_ (B:=vi N no l ((l.length:Nat):Int)) (g:=some) (p:=fun k=>decide ((l.getD k zF).No=no)) (n:=l.length) (hit:=fun k=>.inl (k:Int)) (fin:=.inr (((l.length:Nat):Int),false)) (fun k hk=>by
  unfold vi qmC qg2
  rw [qF,dec_lt hk,cond_true,run_bind,zV (d:=zF) hk,Option.bind_some,run_bind,qO,Option.bind_some,qF,qO,qR,qg (show qt ((k:Int) + 1) by unfold qt; omega),qO,zi]
  cases decide ((l.getD k zF).No=no)<;>rfl) (by
  unfold vi
  rw [qF,zG (Nat.lt_irrefl _),cond_false,qO]) N 0 (Nat.zero_le _) (by have:=big N; omega)
 have e:J5 N no l ((l.length:Nat):Int) 0=qY (vi N no l ((l.length:Nat):Int)) some N ((0:Nat):Int):=rfl
 unfold Z3 Vq
 rw [run_bind,e,key,Nat.sub_zero]
 unfold qhQ
 cases vv (fun k=>decide ((l.getD k zF).No=no)) l.length 0<;>rfl
theorem qyq {l:List qb} (h:l.length≤1000000):Qv l=some ():=by
 unfold Qv
 cases l with
 | nil=>kernel_rfl
 | cons x r=>
  show Kp (x::r)=_
  unfold Kp W7
  have h2:jF ([]:List qb).length 0 ([]++x::r).length 40:=⟨rfl,by rw [List.nil_append]; unfold zc; omega⟩
  rw [qR,qg (List.isEmpty_cons),qR,qg h2,qR,qg rfl,qO]
theorem qJz {b:qe} (h:ju b=true) (id:Vector UInt8 16):qeO N b id=some (recAt b id):=by
 have hb:=WI.1 h
 unfold qeO qjH recAt
 rw [run_bind,qIl (by omega),Option.bind_some]
 cases e:qhm b.R id with
 | none=>rfl
 | some i=>
  have hi:=(qhl e).1
  have hn:decide (((i:Nat):Int) < 0)=false:=decide_eq_false (by omega)
  have hF:=Vh (hb.1 i hi).1
  have ho:qbL (b.R.getD i zR)=some ():=by
   unfold qbL qgs
   rw [run_bind,qyq (by omega),Option.bind_some,qO]
  show (Tree.cond (decide (((i:Nat):Int) < 0)) _ (Tree.bind (zh (qe.R b) ((i:Nat):Int)) _)).run some=_
  rw [qF,hn,cond_false,run_bind,zV (d:=zR) hi,Option.bind_some,run_bind,ho,Option.bind_some,qO]
  rfl
theorem qKQ {r:qa} (h:r.F.length≤8) (no:Int):qlH N r no=some (cellAt r no):=by
 unfold qlH qmP cellAt
 rw [run_bind,qHS (by omega),Option.bind_some]
 cases e:qhQ r.F no with
 | none=>rfl
 | some i=>
  have hi:=(qhl e).1
  have hn:decide (((i:Nat):Int) < 0)=false:=decide_eq_false (by omega)
  show (Tree.cond (decide (((i:Nat):Int) < 0)) _ (Tree.bind (zh (qa.F r) ((i:Nat):Int)) _)).run some=_
  rw [qF,hn,cond_false,run_bind,zV (d:=zF) hi,Option.bind_some,qO]
end n
end Go.Rx
end
set_option maxRecDepth 100000
noncomputable section
namespace Go.Rx
open Go.Proofs
theorem qtD {α:Type} {d:α} {l:List α} {k:Nat} (h:k < l.length):l.take (k + 1)=l.take k++[l.getD k d]:=by
 rw [List.take_succ_eq_append_getElem h,List.getD_eq_getElem?_getD,List.getElem?_eq_getElem h]; rfl
def qqC (g:Vector UInt8 16→Option qa) (r:qa) (id:Vector UInt8 16):Option qa:=if r.ID=id then jR (g id) (some r) else g id
theorem qsG {g:Vector UInt8 16→Option qa} {r:qa} {id:Vector UInt8 16}:qqC g r id=if r.ID=id then jR (g id) (some r) else g id:=rfl
theorem qEy {x:Option qa}:jR x none=x:=by cases x<;>rfl
theorem qwZ:∀ {l:List qa} {g:Vector UInt8 16→Option qa} {id:Vector UInt8 16},qkl l→l.foldl qqC g id=jR (g id) (rO l id)
 | [],g,id,_=>by rw [qN9,qEy]; rfl
 | r::l,g,id,h=>by
  have hp:=List.pairwise_cons.1 h
  rw [List.foldl_cons,qwZ hp.2,qxp,qsG]
  by_cases e:r.ID=id
  ·rw [if_pos e,if_pos e]
   have:rO l id=none:=by
    cases hc:rO l id with
    | none=>rfl
    | some x=>
     have:=hp.1 x (qb5 hc).1
     rw [e,(qb5 hc).2,qB9] at this; cases this
   rw [this,qEy]
  ·rw [if_neg e,if_neg e]
def J0 (id:Vector UInt8 16) (M:List (Vector UInt8 16×qa×Nat)):Option qa:=(fnd (β:=qa) (.ba 16) id M).map (·.1)
theorem qBf {q k:Vector UInt8 16} {p:qa} {c:Nat} {M:List (Vector UInt8 16×qa×Nat)}:J0 q (Q7 (β:=qa) (.ba 16) k p c M).2=if q=k then some p else J0 q M:=by
 have:=@qs3 (El (.ba 16)) qa (JC (.ba 16)) k q p c M
 rw [show J0 q (Q7 (β:=qa) (.ba 16) k p c M).2=@qsv (El (.ba 16)) qa (JC (.ba 16)) q (@qhF (El (.ba 16)) qa (JC (.ba 16)) k p c M).2 from rfl,this]
 by_cases h:q=k
 ·rw [if_pos h]; exact if_pos h
 ·rw [if_neg h]; exact if_neg h
structure qLu (l:List qa) (nm:List (Vector UInt8 16)) (M:List (Vector UInt8 16×qa×Nat)):Prop where
 nd:nm.Nodup
 val:∀ id,J0 id M=l.foldl qqC (fun _=>none) id
 mem:∀ id,id∈nm↔J0 id M≠none
 ok:∀ id r,J0 id M=some r→vg r=true∧r.ID=id
 len:nm.length≤l.length
def qaK (M:List (Vector UInt8 16×qa×Nat)) (l:List (Vector UInt8 16)):List qa:=l.map fun id=>(J0 id M).getD zR
theorem qIA {M:List (Vector UInt8 16×qa×Nat)} {id:Vector UInt8 16}:∀ {l:List (Vector UInt8 16)},(∀ i∈l,∃ r,J0 i M=some r∧r.ID=i)→rO (qaK M l) id=if id∈l then J0 id M else none
 | [],_=>by rw [if_neg List.not_mem_nil]; rfl
 | i::l,h=>by
  obtain ⟨r,e,hr⟩:=h i (List.mem_cons_self ..)
  show rO ((J0 i M).getD zR::qaK M l) id=_
  rw [e,qxp,qIA fun j hj=>h j (List.mem_cons_of_mem _ hj)]
  by_cases c:i=id
  ·subst c
   rw [if_pos (show (Option.getD (some r) zR).ID=i from hr),if_pos (List.mem_cons_self ..),e]; rfl
  ·rw [if_neg (show ¬ (Option.getD (some r) zR).ID=id from fun h'=>c (hr.symm.trans h'))]
   by_cases m:id∈l
   ·rw [if_pos m,if_pos (List.mem_cons_of_mem _ m)]
   ·rw [if_neg m,if_neg (fun hm=>by rcases List.mem_cons.1 hm with e' | e'; exact c e'.symm; exact m e')]
section
variable {N:Nat} [Vv N]
theorem qxQ {α:Type} {l:List (List α)} {k:Nat} (h:k < l.length):(l.take (k + 1)).flatten=(l.take k).flatten++l.getD k []:=by
 rw [qtD (d:=[]) h,List.flatten_append]; simp
theorem qEK {α:Type} {l:List (List α)} {k:Nat}:(l.take k).flatten.length≤l.flatten.length:=by
 have:(l.take k).flatten++(l.drop k).flatten=l.flatten:=by rw [← List.flatten_append,List.take_append_drop]
 rw [← this,List.length_append]; omega
theorem qGy {l:List (List qa)} (hl:l.length≤1000) (hf:l.flatten.length≤1000):XU N l=some l.flatten:=by
 have hN:=big N
 have k1:WT N l l ((l.length:Nat):Int) 0 0=some (((l.flatten.length:Nat):Int),((l.length:Nat):Int),false):=by
  refine vZ (σ:=Unit) (B:=Z0 N l l ((l.length:Nat):Int)) (g:=some) (at_:=fun k _=>((((l.take k).flatten.length:Nat):Int),(k:Int))) (I:=fun _ _=>True) (f:=fun _ s=>s) (n:=l.length)
   (fin:=fun _=>(((l.flatten.length:Nat):Int),((l.length:Nat):Int),false)) (fun k s hk _=>⟨?_,trivial⟩) (fun s _=>?_) N 0 () trivial (Nat.zero_le _) (by omega)
  ·have e1:(((l.take k).flatten.length:Nat):Int) + (((l.getD k []).length:Nat):Int)=(((l.take (k + 1)).flatten.length:Nat):Int):=by rw [qxQ hk,List.length_append]; omega
   have h2:=qEK (l:=l) (k:=k + 1)
   unfold Z0
   refine w_t (dec_lt hk) (qA (zV (d:=[]) hk) ?_)
   dsimp only
   rw [e1]
   exact zl (by unfold qt; omega) (w_f (decide_eq_false (by omega)) (zl (vR (by omega)) (q9 (by rw [zi]))))
  ·unfold Z0
   exact w_f (zG (Nat.lt_irrefl _)) (q9 (by rw [zG (Nat.lt_irrefl _),List.take_of_length_le (Nat.le_refl _)]))
 have k2:Jw N l ((l.length:Nat):Int) [] 0=some (l.flatten,((l.length:Nat):Int),false):=by
  refine vZ (σ:=Unit) (B:=ZA N l ((l.length:Nat):Int)) (g:=some) (at_:=fun k _=>((l.take k).flatten,(k:Int))) (I:=fun _ _=>True) (f:=fun _ s=>s) (n:=l.length)
   (fin:=fun _=>(l.flatten,((l.length:Nat):Int),false)) (fun k s hk _=>⟨?_,trivial⟩) (fun s _=>?_) N 0 () trivial (Nat.zero_le _) (by omega)
  ·have h2:=qEK (l:=l) (k:=k + 1)
   unfold ZA
   refine w_t (dec_lt hk) (qA (zV (d:=[]) hk) ?_)
   dsimp only
   rw [← qxQ hk]
   exact zl ⟨rfl,by unfold zc; omega⟩ (zl (vR (by omega)) (q9 (by rw [zi])))
  ·unfold ZA
   exact w_f (zG (Nat.lt_irrefl _)) (q9 (by rw [zG (Nat.lt_irrefl _),List.take_of_length_le (Nat.le_refl _)]))
 unfold XU Y4
 refine qA k1 ?_
 by_cases h0:l.flatten.length=0
 ·have kg : Jk ((l.flatten.length : Nat) : Int) = some (.inr ()) := by
     unfold Jk XX
     exact w_f (decide_eq_false (by omega)) (zl (by unfold qt; omega) (w_f (decide_eq_false (by omega)) (q9 rfl)))
  exact qA kg (w_r rfl (qA ((zx rfl).trans k2) (zl rfl (q9 rfl))))
 ·have kg : Jk ((l.flatten.length : Nat) : Int) = some (.inl ()) := by
     unfold Jk XX
     exact w_f (decide_eq_false (by omega)) (zl (by unfold qt; omega) (w_t (decide_eq_true (by omega)) (zl ⟨by omega,by unfold zc; omega⟩ (q9 rfl))))
  exact qA kg (w_l rfl (qA ((zx rfl).trans k2) (zl rfl (q9 rfl))))
theorem qMY {r:qa} (h:vg r=true):qbL r=some ():=by
 unfold qbL qgs
 exact qA (qyq (by have:=Vh h; omega)) (q9 rfl)
theorem qLd {L : List qa} (hl : L.length ≤ 1000) (hr : ∀ r ∈ L, vg r = true) :
    ∃ nm c M,qgZ N [] L ((L.length:Nat):Int) [] 0 [] 0=some (nm,c,M,((L.length:Nat):Int),false)∧qLu L nm M:=by
 have hN:=big N
 have key:∃ y,qY (X4 N [] L ((L.length:Nat):Int)) some N ([],0,[],((0:Nat):Int))=some y∧∃ nm c M,y=(nm,c,M,((L.length:Nat):Int),false)∧qLu L nm M:=by
  refine VC (I:=fun v=>∃ (k:Nat) (nm:List (Vector UInt8 16)) (c:Nat) (M:List (Vector UInt8 16×qa×Nat)),k≤L.length∧v=(nm,c,M,(k:Int))∧qLu (L.take k) nm M) (fun v=>L.length - v.2.2.2.toNat) ?_ N _ ⟨0,[],0,[],Nat.zero_le _,rfl,⟨List.nodup_nil,fun _=>rfl,fun id=>⟨fun h=>absurd h List.not_mem_nil,fun h=>(h rfl).elim⟩,fun _ _ h=>(by cases h),Nat.le_refl _⟩⟩ (by simp; omega)
  rintro v ⟨k,nm,c,M,hk,rfl,hi⟩
  by_cases h:k < L.length
  ·left
   have hmem:L.getD k zR∈L:=by rw [List.getD_eq_getElem?_getD,List.getElem?_eq_getElem h]; exact List.getElem_mem h
   have hrec:=hr _ hmem
   have et:∀ id,(L.take (k + 1)).foldl qqC (fun _=>none) id=qqC ((L.take k).foldl qqC fun _=>none) (L.getD k zR) id:=fun id=>by
    rw [qtD (d:=zR) h,List.foldl_append]; rfl
   have hlk:(L.take k).length=k:=by rw [List.length_take]; omega
   have hlk1:(L.take (k + 1)).length=k + 1:=by rw [List.length_take]; omega
   have hv:=hi.val (L.getD k zR).ID
   have hnl:=hi.len
   cases e:fnd (β:=qa) (.ba 16) (L.getD k zR).ID M with
   | none=>
    have hn:J0 (L.getD k zR).ID M=none:=by unfold J0; rw [e]; rfl
    rw [hn] at hv
    refine ⟨(nm++[(L.getD k zR).ID],(Q7 (.ba 16) (qa.ID (L.getD k zR)) (L.getD k zR) c M).1,(Q7 (.ba 16) (qa.ID (L.getD k zR)) (L.getD k zR) c M).2,((k + 1:Nat):Int)),?_,⟨k + 1,_,_,_,h,rfl,?_⟩,by simp only [Int.toNat_natCast]; omega⟩
    ·unfold X4
     exact w_t (dec_lt h) (qA (zV (d:=zR) h) (qBw e (zl ⟨rfl,by rw [List.length_append]; unfold zc; simp; omega⟩ (qA (qMY hrec) (zl (vR (by omega)) (q9 (by rw [zi]; rfl)))))))
    ·have hpv:∀ id,J0 id (Q7 (.ba 16) (qa.ID (L.getD k zR)) (L.getD k zR) c M).2=if id=(L.getD k zR).ID then some (L.getD k zR) else J0 id M:=fun id=>qBf
     refine ⟨?_,fun id=>?_,fun id=>?_,fun id r hr'=>?_,?_⟩
     ·refine List.nodup_append.2 ⟨hi.nd,List.nodup_cons.2 ⟨List.not_mem_nil,List.nodup_nil⟩,fun a ha b hb=>?_⟩
      obtain rfl:=List.mem_singleton.1 hb
      intro hab
      rw [hab] at ha
      exact (hi.mem _).1 ha hn
     ·rw [hpv,et,qsG]
      by_cases q:id=(L.getD k zR).ID
      ·rw [if_pos q,if_pos q.symm,q,← hv]; rfl
      ·rw [if_neg q,if_neg (fun x=>q x.symm),hi.val]
     ·rw [hpv,List.mem_append,List.mem_singleton,hi.mem]
      by_cases q:id=(L.getD k zR).ID
      ·rw [if_pos q]; exact ⟨fun _=>by simp,fun _=>.inr q⟩
      ·rw [if_neg q]; exact ⟨fun x=>x.resolve_right q,fun x=>.inl x⟩
     ·rw [hpv] at hr'
      by_cases q:id=(L.getD k zR).ID
      ·rw [if_pos q] at hr'
       obtain rfl:=Option.some.inj hr'
       exact ⟨hrec,q.symm⟩
      ·rw [if_neg q] at hr'; exact hi.ok id r hr'
     ·rw [hlk1,List.length_append]; simp; omega
   | some x=>
    have hn:J0 (L.getD k zR).ID M=some x.1:=by unfold J0; rw [e]; rfl
    rw [hn] at hv
    have hx:=hi.ok _ _ hn
    have ej:=qOM (N:=N) hx.1 hrec hx.2
    refine ⟨(nm,(Q7 (.ba 16) (qa.ID (L.getD k zR)) (rJ x.1 (L.getD k zR)) c M).1,(Q7 (.ba 16) (qa.ID (L.getD k zR)) (rJ x.1 (L.getD k zR)) c M).2,((k + 1:Nat):Int)),?_,⟨k + 1,_,_,_,h,rfl,?_⟩,by simp only [Int.toNat_natCast]; omega⟩
    ·unfold X4
     exact w_t (dec_lt h) (qA (zV (d:=zR) h) (qvL e (qA ej (zl (vR (by omega)) (q9 (by rw [zi]))))))
    ·have hpv:∀ id,J0 id (Q7 (.ba 16) (qa.ID (L.getD k zR)) (rJ x.1 (L.getD k zR)) c M).2=if id=(L.getD k zR).ID then some (rJ x.1 (L.getD k zR)) else J0 id M:=fun id=>qBf
     refine ⟨hi.nd,fun id=>?_,fun id=>?_,fun id r hr'=>?_,?_⟩
     ·rw [hpv,et,qsG]
      by_cases q:id=(L.getD k zR).ID
      ·rw [if_pos q,if_pos q.symm,q,← hv]; rfl
      ·rw [if_neg q,if_neg (fun x=>q x.symm),hi.val]
     ·rw [hpv,hi.mem]
      by_cases q:id=(L.getD k zR).ID
      ·rw [if_pos q,q,hn]; simp
      ·rw [if_neg q]
     ·rw [hpv] at hr'
      by_cases q:id=(L.getD k zR).ID
      ·rw [if_pos q] at hr'
       obtain rfl:=Option.some.inj hr'
       exact ⟨ql6 hx.1 hrec,by rw [qOR,hx.2,q]⟩
      ·rw [if_neg q] at hr'; exact hi.ok id r hr'
     ·rw [hlk1]; omega
  ·right
   obtain rfl:k=L.length:=by omega
   rw [List.take_of_length_le (Nat.le_refl _)] at hi
   refine ⟨(nm,c,M,((L.length:Nat):Int),false),_,?_,rfl,nm,c,M,rfl,hi⟩
   unfold X4
   exact w_f (zG (Nat.lt_irrefl _)) (q9 (by rw [zG (Nat.lt_irrefl _)]))
 obtain ⟨y,e,nm,c,M,rfl,h⟩:=key
 exact ⟨nm,c,M,e,h⟩
theorem qMU {nm : List (Vector UInt8 16)} {c n : Nat} {M : List (Vector UInt8 16 × qa × Nat)} (hn : nm.length = n) (hl : n ≤ 1000) (h : ∀ i ∈ nm, ∃ r, J0 i M = some r ∧ r.ID = i) :
    qfb N [] nm c M n ((n:Nat):Int) [] 0=some (qaK M nm,((n:Nat):Int),false):=by
 subst hn
 have hN:=big N
 refine vZ (σ:=Unit) (B:=Kc N [] nm c M nm.length ((nm.length:Nat):Int)) (g:=some) (at_:=fun k _=>(qaK M (nm.take k),(k:Int))) (I:=fun _ _=>True) (f:=fun _ s=>s) (n:=nm.length)
  (fin:=fun _=>(qaK M nm,((nm.length:Nat):Int),false)) (fun k s hk _=>⟨?_,trivial⟩) (fun s _=>?_) N 0 () trivial (Nat.zero_le _) (by omega)
 ·have hmem:nm.getD k (Vector.replicate 16 0)∈nm:=by rw [List.getD_eq_getElem?_getD,List.getElem?_eq_getElem hk]; exact List.getElem_mem hk
  obtain ⟨r,hr,_⟩:=h _ hmem
  have hf:∃ x,fnd (β:=qa) (.ba 16) (nm.getD k (Vector.replicate 16 0)) M=some x∧x.1=r:=by
   unfold J0 at hr
   cases e:fnd (β:=qa) (.ba 16) (nm.getD k (Vector.replicate 16 0)) M with
   | none=>rw [e] at hr; cases hr
   | some x=>rw [e] at hr; exact ⟨x,rfl,Option.some.inj hr⟩
  obtain ⟨x,ex,hx⟩:=hf
  have eo:qaK M (nm.take (k + 1))=qaK M (nm.take k)++[x.1]:=by
   unfold qaK
   rw [qtD (d:=Vector.replicate 16 0) hk,List.map_append,List.map_cons,hr,hx]; rfl
  have cav:jF (qaK M (nm.take k)).length (qaK M (nm.take k)).length (qaK M (nm.take k)++[x.1]).length 56:=⟨rfl,by
   rw [List.length_append]; unfold qaK; rw [List.length_map,List.length_take]; unfold zc; simp; omega⟩
  unfold Kc
  exact w_t (dec_lt hk) (zl ⟨by show (0:Int)≤(k:Int); omega,by show (k:Int) < _; omega⟩ (qA (qI2 rfl hk) (qvL ex (zl cav (zl (vR (by omega)) (q9 (by rw [zi,eo])))))))
 ·unfold Kc
  exact w_f (zG (Nat.lt_irrefl _)) (q9 (by rw [zG (Nat.lt_irrefl _),List.take_of_length_le (Nat.le_refl _)]))
theorem qxs {b:qe} (h:ju b=true):vp N b:=by
 have hN:=big N
 have hb:=WI.1 h
 exact ⟨by omega,by omega,fun k hk=>by have:=Vh (hb.1 k hk).1; exact ⟨by omega,by omega⟩⟩
def qvq (c:List qa):qe×Int:=if c.length≤10 then (qe.mk c,0) else (qe.mk [],4)
theorem qBF {a b:qe} (ha:ju a=true) (hb:ju b=true):∃ c,qt2 a.R b.R c∧WL N a b=some (qvq c):=by
 have hA:=Xb.1 ha
 have hB:=Xb.1 hb
 have hfl:[a.R,b.R].flatten=a.R++b.R:=by simp
 have hll:(a.R++b.R).length≤20:=by rw [List.length_append]; omega
 have ec:=qGy (N:=N) (l:=[a.R,b.R]) (by simp) (by rw [hfl]; omega)
 rw [hfl] at ec
 obtain ⟨nm,c,M,el,hi⟩:=qLd (N:=N) (L:=a.R++b.R) (by omega) (fun r hr=>by
  rcases List.mem_append.1 hr with h | h
  ·exact hA.1.2 r h
  ·exact hB.1.2 r h)
 have hval:∀ id,J0 id M=jR (rO a.R id) (rO b.R id):=fun id=>by
  rw [hi.val,List.foldl_append,qwZ hB.1.1,qwZ hA.1.1]; rfl
 obtain ⟨hs,hp⟩:=qJZ hi.nd
 have hin:∀ i∈Qg nm,∃ r,J0 i M=some r∧r.ID=i:=fun i h=>by
  have:=(hi.mem i).1 (hp.mem_iff.1 h)
  cases e:J0 i M with
  | none=>exact (this e).elim
  | some r=>exact ⟨r,rfl,(hi.ok i r e).2⟩
 have hlen:(qaK M (Qg nm)).length=nm.length:=by unfold qaK; rw [List.length_map,hp.length_eq]
 refine ⟨qaK M (Qg nm),⟨?_,fun id=>?_⟩,?_⟩
 ·unfold qkl qaK
  rw [List.pairwise_map]
  refine (List.Pairwise.and_mem.1 hs).imp fun {i j} h=>?_
  obtain ⟨r,e1,h1⟩:=hin i h.1
  obtain ⟨s,e2,h2⟩:=hin j h.2.1
  rw [e1,e2]
  show lbB r.ID s.ID=true
  rw [h1,h2]; exact h.2.2
 ·rw [qIA hin,← hval]
  by_cases m:id∈Qg nm
  ·rw [if_pos m]
  ·rw [if_neg m]
   cases e:J0 id M with
   | none=>rfl
   | some r=>exact (m (hp.mem_iff.2 ((hi.mem id).2 (by rw [e]; simp)))).elim
 ·have hnl:=hi.len
  unfold WL qen
  refine qA (qiA (qxs ha)) (w_f (by rw [ha]; rfl) (qA (qiA (qxs hb)) (w_f (by rw [hb]; rfl) (qA ec (qA ((zx rfl).trans ((zx rfl).trans el)) ?_)))))
  unfold qvq
  rw [hlen]
  by_cases h10:nm.length≤10
  ·rw [if_pos h10]
   exact w_f (decide_eq_false (by show ¬ (10:Int) < ((nm.length:Nat):Int); omega)) (qA ((zx rfl).trans (qNE (by show nm.length≤12; omega))) (qA ((zx rfl).trans ((zx rfl).trans (qMU hp.length_eq (by show nm.length≤1000; omega) hin))) (zl rfl (q9 rfl))))
  ·rw [if_neg h10]
   exact w_t (decide_eq_true (by show (10:Int) < ((nm.length:Nat):Int); omega)) (zl rfl (q9 rfl))
theorem qBm {a b:qe} (fa:vp N a) (fb:vp N b) (h:¬ (ju a=true∧ju b=true)):WL N a b=some (qe.mk [],1):=by
 unfold WL qen
 refine qA (qiA fa) ?_
 cases ha:ju a with
 | false=>exact w_t rfl (zl rfl (q9 rfl))
 | true=>
  refine w_f rfl (qA (qiA fb) ?_)
  cases hb:ju b with
  | false=>exact w_t rfl (zl rfl (q9 rfl))
  | true=>exact (h ⟨ha,hb⟩).elim
end
end Go.Rx
end
set_option maxRecDepth 100000
noncomputable section
namespace Go.Rx
open Go.Proofs
def exB (c:qd) (x:ql) (no:Int):Bool:=slB x.qH c.S&&(match qpO x.F no with
 | none=>true
 | some i=>if (x.F.getD i zE).S=c.S then ltD (x.F.getD i zE).D (ve c.V) else slB (x.F.getD i zE).S c.S)
def partOf (m:qk) (r:qa):qa:=
 qa.mk r.ID (if slB (vN m r.ID).1.qH r.qH=true then r.qH else zSt) (r.F.filter fun f=>exB f.C (vN m r.ID).1 f.No)
def Yd (p:qa):Bool:=decide (p.qH=zSt)&&decide (p.F.length=0)
def J2 (m:qk) (r:qa):List qa:=if Yd (partOf m r)=true then [] else [partOf m r]
def jj (m:qk) (l:List qa):List qa:=l.flatMap (J2 m)
theorem qyd {m:qk} {r:qa}:(J2 m r).length≤1:=by
 unfold J2
 split
 ·exact Nat.zero_le _
 ·exact Nat.le_refl _
theorem qvP {m:qk}:∀ {l:List qa},(jj m l).length≤l.length
 | []=>Nat.le_refl _
 | r::l=>by
  unfold jj
  rw [List.flatMap_cons,List.length_append,List.length_cons]
  have h1:=qyd (m:=m) (r:=r)
  have h2:=qvP (m:=m) (l:=l)
  unfold jj at h2
  omega
theorem qCW {α:Type} {p:α→Bool} {d:α} {l:List α} {k:Nat} (h:k < l.length):(l.take (k + 1)).filter p=(l.take k).filter p++(if p (l.getD k d)=true then [l.getD k d] else []):=by
 rw [List.take_succ_eq_append_getElem h,List.filter_append,List.getD_eq_getElem?_getD,List.getElem?_eq_getElem h]
 show _++List.filter p [l[k]]=_++(if p l[k]=true then [l[k]] else [])
 cases hp:p l[k]<;>simp [hp]
theorem qAP {α β:Type} {f:α→List β} {d:α} {l:List α} {k:Nat} (h:k < l.length):(l.take (k + 1)).flatMap f=(l.take k).flatMap f++f (l.getD k d):=by
 rw [List.take_succ_eq_append_getElem h,List.flatMap_append,List.getD_eq_getElem?_getD,List.getElem?_eq_getElem h]
 simp
end Go.Rx
end
set_option maxRecDepth 100000
noncomputable section
namespace Go.Rx
open Go.Proofs
def jB (N:Nat) (a b:qe):qe×Int:=(WL N a b).getD (qe.mk [],0)
section
variable {N:Nat} [Vv N]
theorem qOI {a b:qe} (fa:vp N a) (fb:vp N b):WL N a b=some (jB N a b):=by
 unfold jB
 by_cases h:ju a=true∧ju b=true
 ·obtain ⟨c,_,e⟩:=qBF (N:=N) h.1 h.2
  rw [e]; rfl
 ·rw [qBm fa fb h]; rfl
theorem qHf {a b:qe} (ha:ju a=true) (hb:ju b=true):∃ c,qt2 a.R b.R c∧jB N a b=qvq c:=by
 obtain ⟨c,hc,e⟩:=qBF (N:=N) ha hb
 exact ⟨c,hc,by unfold jB; rw [e]; rfl⟩
theorem qMv {a b:qe} (fa:vp N a) (fb:vp N b) (h:¬ (ju a=true∧ju b=true)):jB N a b=(qe.mk [],1):=by
 unfold jB
 rw [qBm fa fb h]; rfl
theorem qEl {a b:qe} (fa:vp N a) (fb:vp N b) (h:(jB N a b).2=0):ju a=true∧ju b=true∧qt2 a.R b.R (jB N a b).1.R∧ju (jB N a b).1=true:=by
 by_cases hab:ju a=true∧ju b=true
 ·obtain ⟨c,hc,e⟩:=qHf (N:=N) hab.1 hab.2
  rw [e] at h ⊢
  unfold qvq at h ⊢
  by_cases h10:c.length≤10
  ·rw [if_pos h10] at h ⊢
   exact ⟨hab.1,hab.2,hc,Xb.2 ⟨qI0 (Xb.1 hab.1).1 (Xb.1 hab.2).1 hc,h10⟩⟩
  ·rw [if_neg h10] at h; cases h
 ·rw [qMv fa fb hab] at h; cases h
theorem qNX {a b:qe} (h:(jB N a b).2≠0):(jB N a b).1=qe.mk []∨¬ (vp N a∧vp N b):=by
 by_cases f:vp N a∧vp N b
 ·left
  by_cases hab:ju a=true∧ju b=true
  ·obtain ⟨c,hc,e⟩:=qHf (N:=N) hab.1 hab.2
   rw [e] at h ⊢
   unfold qvq at h ⊢
   by_cases h10:c.length≤10
   ·rw [if_pos h10] at h; exact (h rfl).elim
   ·rw [if_neg h10]
  ·rw [qMv f.1 f.2 hab]
 ·exact .inr f
end
end Go.Rx
end
set_option maxRecDepth 100000
noncomputable section
namespace Go.Rx
open Go.Proofs
theorem qxL {r:qa} {no:Int} {c:qd} (h:cO r.F no=some c):∃ i,qhQ r.F no=some i∧(r.F.getD i zF).C=c:=by
 rw [← qG6] at h
 obtain ⟨i,h1,h2⟩:=Option.map_eq_some_iff.1 h
 exact ⟨i,h1,h2⟩
theorem qHp {r:qa} {no:Int} (h:cO r.F no=none):qhQ r.F no=none:=by
 rw [← qG6] at h
 exact Option.map_eq_none_iff.1 h
def qgp:Option qa→qc
 | some r=>r.qH
 | none=>zSt
def qMr (o:Option qa) (no:Int):Option qd:=o.bind fun r=>cO r.F no
def exK (c:qd) (o:Option qa) (no:Int):Bool:=slB (qgp o) c.S&&(match qMr o no with
 | none=>true
 | some d=>if d.S=c.S then ltD (ve d.V) (ve c.V) else slB d.S c.S)
theorem qMB {c:qd} {r:qa} {no:Int}:exB c (zT r) no=exK c (some r) no:=by
 unfold exB exK
 have e:qpO (zT r).F no=qhQ r.F no:=qNo no
 rw [e]
 show (slB r.qH c.S&&_)=(slB r.qH c.S&&(match cO r.F no with | none=>true | some d=>if d.S=c.S then ltD (ve d.V) (ve c.V) else slB d.S c.S))
 cases h:cO r.F no with
 | none=>rw [qHp h]
 | some d=>
  obtain ⟨i,h1,h2⟩:=qxL h
  rw [h1]
  have hi:=(qhl h1).1
  have eg:(zT r).F.getD i zE=Q5 (r.F.getD i zF):=Xw (d:=zF) hi
  show (_&&(if ((zT r).F.getD i zE).S=c.S then _ else _))=_
  rw [eg]
  show (_&&(if (r.F.getD i zF).C.S=c.S then ltD (ve (r.F.getD i zF).C.V) (ve c.V) else slB (r.F.getD i zF).C.S c.S))=_
  rw [h2]
theorem qEs {b:qe} {D:Vector UInt8 32} {id:Vector UInt8 16}:(vN (ji D b) id).1=match rO b.R id with | some r=>zT r | none=>zL:=by
 rw [qGQ,← qG9]
 cases qhm b.R id<;>rfl
theorem qI4 {b:qe} {D:Vector UInt8 32} {id:Vector UInt8 16} {c:qd} {no:Int}:exB c (vN (ji D b) id).1 no=exK c (rO b.R id) no:=by
 rw [qEs]
 cases rO b.R id with
 | none=>rfl
 | some r=>exact qMB
theorem qGR {b:qe} {D:Vector UInt8 32} {id:Vector UInt8 16}:(vN (ji D b) id).1.qH=qgp (rO b.R id):=by
 rw [qEs]
 cases rO b.R id<;>rfl
def qgt (o:Option qa) (r:qa):qa:=qa.mk r.ID (if slB (qgp o) r.qH=true then r.qH else zSt) (r.F.filter fun f=>exK f.C o f.No)
theorem qwa {b:qe} {D:Vector UInt8 32} {r:qa}:partOf (ji D b) r=qgt (rO b.R r.ID) r:=by
 unfold partOf qgt
 rw [qGR]
 congr 1
 refine List.filter_congr fun f _=>?_
 rw [qI4]
theorem qE2 (d:Vector UInt8 32):ltD d d=false:=X6 _
theorem qHa {r:qa} (h:vg r=true):Yd (qgt (some r) r)=true:=by
 have hr:=V9.1 h
 have e2:(r.F.filter fun f=>exK f.C (some r) f.No)=[]:=by
  rw [List.filter_eq_nil_iff]
  intro f hf
  have hc:=qeL hr.2.2.1 hf
  show ¬ (slB r.qH f.C.S&&(match cO r.F f.No with | none=>true | some d=>if d.S=f.C.S then ltD (ve d.V) (ve f.C.V) else slB d.S f.C.S))=true
  rw [hc]
  show ¬ (_&&(if f.C.S=f.C.S then ltD (ve f.C.V) (ve f.C.V) else slB f.C.S f.C.S))=true
  rw [if_pos rfl,qE2,Bool.and_false]; simp
 have e1:(if slB r.qH r.qH=true then r.qH else zSt)=zSt:=by rw [Zq]; rfl
 unfold qgt
 rw [show qgp (some r)=r.qH from rfl,e1,e2]
 rfl
theorem qJe {m:qk} {r:qa} (h:Yd (partOf m r)=true):J2 m r=[]:=if_pos h
theorem qls {a b:qe} {D:Vector UInt8 32} (h:∀ r∈a.R,Yd (qgt (rO b.R r.ID) r)=true):jj (ji D b) a.R=[]:=by
 have key:∀ l:List qa,(∀ r∈l,Yd (qgt (rO b.R r.ID) r)=true)→jj (ji D b) l=[]:=by
  intro l
  induction l with
  | nil=>intro _; rfl
  | cons r l ih=>
   intro h
   show J2 _ r++jj _ l=_
   rw [qJe (by rw [qwa]; exact h r (List.mem_cons_self ..)),ih fun x hx=>h x (List.mem_cons_of_mem _ hx)]; rfl
 exact key a.R h
end Go.Rx
end
set_option maxRecDepth 100000
noncomputable section
namespace Go.Rx
open Go.Proofs
section
variable {N:Nat} [Vv N]
theorem qH0 {l:List qn} {no:Int} (h:l.length≤600):ZF N no l=some (qG1 (qpO l no)):=by
 have key:=qb_ (B:=jV N no l ((l.length:Nat):Int)) (g:=some) (p:=fun k=>decide ((l.getD k zE).No=no)) (n:=l.length) (hit:=fun k=>.inl (k:Int)) (fin:=.inr (((l.length:Nat):Int),false)) (fun k hk=>by
  unfold jV
  refine w_t (dec_lt hk) <| qA (zV (d:=zE) hk) <| qA (show qc7 no (l.getD k zE)=some () from rfl) <| qwJ (c:=decide ((l.getD k zE).No=no)) rfl (fun h=>q9 ?_) fun h=>zl (vR (by omega)) <| q9 ?_
  ·rw [h]; rfl
  ·rw [h,zi]; rfl) (by
  unfold jV
  exact w_f (zG (Nat.lt_irrefl _)) (q9 (by rw [zG (Nat.lt_irrefl _)]))) N 0 (Nat.zero_le _) (by have:=big N; omega)
 rw [Nat.sub_zero] at key
 have e:JJ N no l ((l.length:Nat):Int) 0=qY (jV N no l ((l.length:Nat):Int)) some N ((0:Nat):Int):=rfl
 unfold ZF JY
 refine qA (e.trans key) ?_
 unfold qpO
 cases vv (fun k=>decide ((l.getD k zE).No=no)) l.length 0<;>rfl
theorem qOu {c:qd} {x:ql} {no:Int} (hx:x.F.length≤600) (hc:c.V.length≤50000):YH N c x no=some (exB c x no):=by
 unfold YH qcN exB
 refine qA (qH0 hx) (qA (Vb _ _) ?_)
 cases slB (ql.qH x) (qd.S c) with
 | false=>rfl
 | true=>
  refine w_f rfl ?_
  show _=some (match qpO x.F no with | none=>true | some i=>if (x.F.getD i zE).S=c.S then ltD (x.F.getD i zE).D (ve c.V) else slB (x.F.getD i zE).S c.S)
  cases e:qpO x.F no with
  | none=>rfl
  | some i=>
   have hi:=(qhl e).1
   have g:=zV (d:=zE) hi
   refine w_f (decide_eq_false (by show ¬ ((i:Nat):Int) < 0; omega)) (qA g ?_)
   show _=some (if (x.F.getD i zE).S=c.S then ltD (x.F.getD i zE).D (ve c.V) else slB (x.F.getD i zE).S c.S)
   by_cases h:(x.F.getD i zE).S=c.S
   ·rw [if_pos h]
    exact w_f (by rw [qfH]; show (!decide ((x.F.getD i zE).S=c.S))=false; rw [decide_eq_true h]; rfl) <| qA g <| qA (qgY hc) <| qA (qli _ _) <| q9 rfl
   ·rw [if_neg h]
    exact w_t (by rw [qfH]; show (!decide ((x.F.getD i zE).S=c.S))=true; rw [decide_eq_false h]; rfl) <| qA g <| qA (Vb _ _) <| q9 rfl
end
end Go.Rx
end
set_option maxRecDepth 100000
noncomputable section
namespace Go.Rx
open Go.Proofs
section
variable {N:Nat} [Vv N]
theorem qEp (p:qa):qcA p=some (Yd p):=by
 have e:eqE qi (qa.qH p) (qc.mk 0 0)=decide (p.qH=zSt):=qfH _ _
 have e2:decide (((p.F.length:Nat):Int)=0)=decide (p.F.length=0):=decide_eq_decide.2 (by omega)
 unfold qcA qha Yd
 refine qwJ e (fun h=>q9 ?_) fun h=>q9 ?_
 ·rw [h]; exact congrArg some e2
 ·rw [h]; rfl
theorem qEB {b : qe} {m : qk} {x : ql} {o5 : Vector UInt8 16} {o6 : qc} {s12 : List qa} {s13 s14 : Int} {l : List qb} (hx : x.F.length ≤ 600) (hl : l.length ≤ 600) (hV : ∀ k, k < l.length → (l.getD k zF).C.V.length ≤ 200) :
    V6 N b m x o5 o6 s12 s13 s14 l ((l.length:Nat):Int) [] 0=some (l.filter fun f=>exB f.C x f.No,((l.length:Nat):Int),false):=by
 refine vZ (σ:=Unit) (B:=XR N b m x o5 o6 s12 s13 s14 l ((l.length:Nat):Int)) (g:=some) (at_:=fun k _=>((l.take k).filter fun f=>exB f.C x f.No,(k:Int))) (I:=fun _ _=>True) (f:=fun _ s=>s) (n:=l.length)
  (fin:=fun _=>(l.filter fun f=>exB f.C x f.No,((l.length:Nat):Int),false)) (fun k s hk _=>⟨?_,trivial⟩) (fun s _=>?_) N 0 () trivial (Nat.zero_le _) (by have:=big N; omega)
 ·have hle:((l.take k).filter fun f=>exB f.C x f.No).length≤600:=Nat.le_trans (List.length_filter_le _ _) (by rw [List.length_take]; omega)
  have hVk:=hV k hk
  unfold XR
  rw [qCW (d:=zF) hk]
  refine w_t (dec_lt hk) <| qA (zV (d:=zF) hk) <| qA (qOu hx (by show (l.getD k zF).C.V.length≤_; omega)) <| qwJ rfl (fun h=>?_) fun h=>?_
  ·rw [if_pos (show (fun f:qb=>exB f.C x f.No) (l.getD k zF)=true from h)]
   exact zl ⟨rfl,by rw [List.length_append]; unfold zc; simp; omega⟩ <| zl (vR (by omega)) <| q9 (by rw [zi])
  ·rw [if_neg (show ¬ (fun f:qb=>exB f.C x f.No) (l.getD k zF)=true from fun h'=>by rw [show (fun f:qb=>exB f.C x f.No) (l.getD k zF)=false from h] at h'; cases h'),List.append_nil]
   exact zl (vR (by omega)) <| q9 (by rw [zi])
 ·unfold XR
  exact w_f (zG (Nat.lt_irrefl _)) (q9 (by rw [zG (Nat.lt_irrefl _),List.take_of_length_le (Nat.le_refl _)]))
theorem qxT {o2 : List qa} {b : qe} {m : qk} {x : ql} {o5 : Vector UInt8 16} {o6 : qc} {s12 : List qa} {s13 s14 : Int} {l : List qb} (hx : x.F.length ≤ 600) (hl : l.length ≤ 600) (hV : ∀ k, k < l.length → (l.getD k zF).C.V.length ≤ 200) :
    X1 N o2 b m x o5 o6 s12 s13 s14 l ((l.length:Nat):Int) [] 0=some (l.filter fun f=>exB f.C x f.No,((l.length:Nat):Int),false):=qEB (b:=b) (m:=m) (o5:=o5) (o6:=o6) (s12:=s12) (s13:=s13) (s14:=s14) hx hl hV
section f
variable {m:qk} (hf:qz7 m=true)
include hf
theorem qmE {a:qe} (ha:ju a=true) (hm:qwe m=true):XA N a m=some (jj m a.R):=by
 have hN:=big N
 have hA:=WI.1 ha
 have hfm:=qqE.1 hf
 have fits:vp N a:=⟨by omega,by omega,fun k hk=>by have:=Vh (hA.1 k hk).1; exact ⟨by omega,by omega⟩⟩
 have hpart:∀ k,k < a.R.length→∀ D,(qa.mk (a.R.getD k zR).ID D ((a.R.getD k zR).F.filter fun f=>exB f.C (vN m (a.R.getD k zR).ID).1 f.No))=partOf m (a.R.getD k zR)∨D≠(if slB (vN m (a.R.getD k zR).ID).1.qH (a.R.getD k zR).qH=true then (a.R.getD k zR).qH else zSt):=fun k hk D=>by
  by_cases h:D=(if slB (vN m (a.R.getD k zR).ID).1.qH (a.R.getD k zR).qH=true then (a.R.getD k zR).qH else zSt)
  ·left; rw [h]; rfl
  ·exact .inr h
 have hrec:∀ k,k < a.R.length→(a.R.getD k zR).F.length≤600∧∀ j,j < (a.R.getD k zR).F.length→((a.R.getD k zR).F.getD j zF).C.V.length≤200:=fun k hk=>⟨by have:=Vh (hA.1 k hk).1; omega,fun j hj=>qgS (qGX (hA.1 k hk).1 j hj)⟩
 have hlx:∀ id,(vN m id).1.F.length≤600:=fun id=>by have:=(qIU hf id).1; omega
 have s1:∀ (s:List qa) (k:Nat),s.length≤k→k≤a.R.length→qY (Zf N a m a.R ((a.R.length:Nat):Int)) some N (s,(k:Int))=some (.inr (s++(a.R.drop k).flatMap (J2 m),((a.R.length:Nat):Int),false)):=fun s k hs hk=>by
  have:=vZ (σ:=List qa) (B:=Zf N a m a.R ((a.R.length:Nat):Int)) (g:=some) (at_:=fun k s=>(s,(k:Int))) (I:=fun k s=>s.length≤k) (f:=fun k s=>s++J2 m (a.R.getD k zR)) (n:=a.R.length)
   (fin:=fun s=>.inr (s,((a.R.length:Nat):Int),false)) (fun k s hk hs=>⟨?_,?_⟩) (fun s _=>?_) N k s hs hk (by omega)
  ·rw [this]
   have key:∀ (m' k:Nat) (s:List qa),k + m'=a.R.length→Zb (fun k s=>s++J2 m (a.R.getD k zR)) m' k s=s++(a.R.drop k).flatMap (J2 m):=by
    intro m'
    induction m' with
    | zero=>intro k s h; rw [List.drop_of_length_le (by omega)]; show s=s++[]; rw [List.append_nil]
    | succ m' ih=>
     intro k s h
     rw [qo9 (d:=zR) (show k < a.R.length by omega),List.flatMap_cons]
     unfold Zb
     rw [ih (k + 1) _ (by omega),List.append_assoc]
   rw [key _ k s (by omega)]
  ·have hr:=hrec k hk
   have keep:∀ D,D=(if slB (vN m (a.R.getD k zR).ID).1.qH (a.R.getD k zR).qH=true then (a.R.getD k zR).qH else zSt)→Q1 s a m (qa.mk (a.R.getD k zR).ID D ((a.R.getD k zR).F.filter fun f=>exB f.C (vN m (a.R.getD k zR).ID).1 f.No))=some (s++J2 m (a.R.getD k zR)):=fun D hD=>by
    rw [(hpart k hk D).resolve_right (fun h=>h hD)]
    unfold Q1 VN J2
    refine qA (qEp _) ?_
    cases Yd (partOf m (a.R.getD k zR)) with
    | true=>exact w_f rfl <| q9 (by rw [if_pos rfl,List.append_nil])
    | false=>exact w_t rfl <| zl ⟨rfl,by rw [List.length_append]; unfold zc; simp; omega⟩ <| q9 (by rw [if_neg (by simp)])
   unfold Zf
   refine w_t (dec_lt hk) <| qA (zV (d:=zR) hk) <| qA (qCG hf _) <| qA (Vb _ _) <| qwJ rfl (fun h=>?_) fun h=>?_
   ·exact qA ((zx rfl).trans ((zx rfl).trans (qxT (hlx _) hr.1 hr.2))) <| zl rfl <| qA ((zx rfl).trans (keep _ (by rw [if_pos (show slB (vN m (a.R.getD k zR).ID).1.qH (a.R.getD k zR).qH=true from h)]))) <| zl (vR (by omega)) <| q9 (by rw [zi])
   ·exact qA ((zx rfl).trans ((zx rfl).trans (qxT (hlx _) hr.1 hr.2))) <| zl rfl <| qA ((zx rfl).trans (keep _ (by rw [if_neg (show ¬ slB (vN m (a.R.getD k zR).ID).1.qH (a.R.getD k zR).qH=true from fun h'=>by rw [show slB (vN m (a.R.getD k zR).ID).1.qH (a.R.getD k zR).qH=false from h] at h'; cases h')]; rfl))) <| zl (vR (by omega)) <| q9 (by rw [zi])
  ·rw [List.length_append]
   have:=qyd (m:=m) (r:=a.R.getD k zR)
   omega
  ·unfold Zf
   exact w_f (zG (Nat.lt_irrefl _)) (q9 (by rw [zG (Nat.lt_irrefl _)]))
 have l1:∃ z,qcI N a m a.R ((a.R.length:Nat):Int) 0=some z∧(match z with | .inl _=>[] | .inr w=>w.1)=jj m a.R:=by
  refine VC (B:=JW N a m a.R ((a.R.length:Nat):Int)) (g:=qaN N N (a,m,a.R,((a.R.length:Nat):Int))) (I:=fun v=>∃ k:Nat,k≤a.R.length∧v=(k:Int)∧(a.R.take k).flatMap (J2 m)=[]) (Q:=fun z=>(match z with | .inl _=>[] | .inr w=>w.1)=jj m a.R) (fun v=>a.R.length - v.toNat) ?_ N ((0:Nat):Int) ⟨0,Nat.zero_le _,rfl,rfl⟩ (by simp; omega)
  rintro v ⟨k,hk,rfl,h0⟩
  by_cases h:k < a.R.length
  ·have hr:=hrec k h
   have hall:jj m a.R=(a.R.take k).flatMap (J2 m)++(J2 m (a.R.getD k zR)++(a.R.drop (k + 1)).flatMap (J2 m)):=by
    have:a.R=a.R.take k++(a.R.getD k zR::a.R.drop (k + 1)):=by rw [← qo9 (d:=zR) h,List.take_append_drop]
    unfold jj
    conv=>lhs; rw [this]
    rw [List.flatMap_append,List.flatMap_cons]
   have roundS:∀ D,D=(if slB (vN m (a.R.getD k zR).ID).1.qH (a.R.getD k zR).qH=true then (a.R.getD k zR).qH else zSt)→Qr a m (qa.mk (a.R.getD k zR).ID D ((a.R.getD k zR).F.filter fun f=>exB f.C (vN m (a.R.getD k zR).ID).1 f.No))=some (if Yd (partOf m (a.R.getD k zR))=true then .inr () else .inl ()):=fun D hD=>by
    rw [(hpart k h D).resolve_right (fun h=>h hD)]
    unfold Qr Wb
    refine qA (qEp _) ?_
    cases Yd (partOf m (a.R.getD k zR)) with
    | true=>rfl
    | false=>exact w_t rfl <| zl (by unfold qwM; unfold zc; decide) <| q9 rfl
   have both : ∀ D, D = (if slB (vN m (a.R.getD k zR).ID).1.qH (a.R.getD k zR).qH = true then (a.R.getD k zR).qH else zSt) →
       (Tree.bind (je [(([]:List qb).length,0)] (V6 N a m (vN m (a.R.getD k zR).ID).1 (a.R.getD k zR).ID D a.R ((a.R.length:Nat):Int) (k:Int) (a.R.getD k zR).F (((a.R.getD k zR).F.length:Nat):Int) [] 0)) fun z4=>Tree.chk (z4.1.length=z4.1.length) <|
        .bind (Qr a m (qa.mk (a.R.getD k zR).ID D z4.1)) fun r5=>.sum r5 (fun _=>.chk (qt ((k:Int) + 1)) (.ret (.inr (.inl ([qa.mk (a.R.getD k zR).ID D z4.1],(k:Int) + 1))))) fun _=>.chk (qt ((k:Int) + 1)) (.ret (.inl ((k:Int) + 1):Int⊕XS))).run some =
       some (if Yd (partOf m (a.R.getD k zR))=true then .inl ((k + 1:Nat):Int) else .inr (.inl ([partOf m (a.R.getD k zR)],((k + 1:Nat):Int)))):=fun D hD=>by
    refine qA ((zx rfl).trans (qEB (hlx _) hr.1 hr.2)) <| zl rfl <| qA (roundS D hD) ?_
    cases hn:Yd (partOf m (a.R.getD k zR)) with
    | true=>exact w_r rfl <| zl (vR (by omega)) <| q9 (by rw [zi]; rfl)
    | false=>
     refine w_l rfl <| zl (vR (by omega)) <| q9 ?_
     rw [zi,← (hpart k h D).resolve_right (fun h=>h hD)]; rfl
   have step:(JW N a m a.R ((a.R.length:Nat):Int) (k:Int)).run some=some (if Yd (partOf m (a.R.getD k zR))=true then .inl ((k + 1:Nat):Int) else .inr (.inl ([partOf m (a.R.getD k zR)],((k + 1:Nat):Int)))):=by
    unfold JW
    refine w_t (dec_lt h) <| qA (zV (d:=zR) h) <| qA (qCG hf _) <| qA (Vb _ _) <| qwJ rfl (fun h=>?_) fun h=>?_
    ·exact both _ (by rw [if_pos (show slB (vN m (a.R.getD k zR).ID).1.qH (a.R.getD k zR).qH=true from h)])
    ·exact both _ (by rw [if_neg (show ¬ slB (vN m (a.R.getD k zR).ID).1.qH (a.R.getD k zR).qH=true from fun h'=>by rw [show slB (vN m (a.R.getD k zR).ID).1.qH (a.R.getD k zR).qH=false from h] at h'; cases h')]; rfl)
   cases hn:Yd (partOf m (a.R.getD k zR)) with
   | true=>
    left
    rw [hn,if_pos rfl] at step
    exact ⟨_,step,⟨k + 1,h,rfl,by rw [qAP (d:=zR) h,h0]; unfold J2; rw [if_pos hn]; rfl⟩,by simp only [Int.toNat_natCast]; omega⟩
   | false=>
    right
    rw [hn,if_neg (by simp)] at step
    refine ⟨_,_,step,s1 _ (k + 1) (by show (1:Nat)≤k + 1; omega) h,?_⟩
    show [partOf m (a.R.getD k zR)]++(a.R.drop (k + 1)).flatMap (J2 m)=_
    rw [hall,h0]
    unfold J2
    rw [if_neg (by rw [hn]; simp)]; rfl
  ·right
   obtain rfl:k=a.R.length:=by omega
   rw [List.take_of_length_le (Nat.le_refl _)] at h0
   refine ⟨.inr (.inl (((a.R.length:Nat):Int),false)),_,?_,rfl,h0.symm⟩
   unfold JW
   exact w_f (zG (Nat.lt_irrefl _)) (q9 (by rw [zG (Nat.lt_irrefl _)]))
 obtain ⟨z,ez,hz⟩:=l1
 unfold XA qfe
 refine qA (qiA fits) <| w_f (by rw [ha]; rfl) <| qA (qOx (by omega) (fun k hk=>by have:=(hfm.2 k hk).1; omega)) <| w_f (by rw [hm]; rfl) <| qA (show qlS a m=some () from rfl) ?_
 rw [← hz]
 cases z with
 | inl w=>
  have e1:Wp N a m=some (.inl ()):=by
   unfold Wp qar
   exact qA ez <| w_l rfl <| q9 rfl
  exact qA e1 <| w_l rfl <| q9 rfl
 | inr w=>
  have e1:Wp N a m=some (.inr w.1):=by
   unfold Wp qar
   exact qA ez <| w_r rfl <| q9 rfl
  exact qA e1 <| w_r rfl <| zl rfl <| q9 rfl
end f
end
end Go.Rx
end
set_option maxRecDepth 100000
noncomputable section
namespace Go.Rx
open Go.Proofs
theorem qKV {α:Type} {d:α} {l:List α} {k:Nat} (h:k < l.length):l.getD k d∈l:=by
 rw [List.getD_eq_getElem?_getD,List.getElem?_eq_getElem h]; exact List.getElem_mem h
theorem qK2 {b:qe} {id:Vector UInt8 16} {r:qa} (h:rO b.R id=some r):recAt b id=(r,true):=by
 rw [← qG9] at h
 obtain ⟨i,h1,h2⟩:=Option.map_eq_some_iff.1 h
 unfold recAt
 rw [h1]
 show (b.R.getD i zR,true)=_
 rw [h2]
theorem qIJ {r:qa} {no:Int} {c:qd} (h:cO r.F no=some c):cellAt r no=(c,true):=by
 obtain ⟨i,h1,h2⟩:=qxL h
 unfold cellAt
 rw [h1]
 show ((r.F.getD i zF).C,true)=_
 rw [h2]
theorem qOd {c:qd} {o:Option qa} {no:Int} (h:slB (qgp o) c.S=true→∃ d,qMr o no=some d∧Qn d c=false):exK c o no=false:=by
 unfold exK
 cases hs:slB (qgp o) c.S with
 | false=>rfl
 | true=>
  obtain ⟨d,hd,hl⟩:=h hs
  rw [hd,Bool.true_and]
  show (if d.S=c.S then ltD (ve d.V) (ve c.V) else slB d.S c.S)=false
  unfold Qn at hl
  by_cases e:d.S=c.S
  ·rw [if_pos e] at hl ⊢
   by_cases e2:ve d.V=ve c.V
   ·rw [e2]; exact qE2 _
   ·rw [if_neg e2] at hl; exact hl
  ·rw [if_neg e] at hl ⊢; exact hl
theorem qxN {r:qa} {o:Option qa} (hr:vg r=true) (ho:VO r.ID o):Yd (qgt (jR (some r) o) r)=true:=by
 have hR:=V9.1 hr
 obtain ⟨j,hj,hd,hc⟩:∃ j,jR (some r) o=some j∧slB j.qH r.qH=false∧∀ f∈r.F,slB j.qH f.C.S=true→∃ d,cO j.F f.No=some d∧Qn d f.C=false:=by
  cases o with
  | none=>exact ⟨r,rfl,Zq _,fun f hf _=>⟨f.C,qeL hR.2.2.1 hf,qe6 _⟩⟩
  | some s=>
   have hs:=(ho s rfl).1
   refine ⟨rJ r s,rfl,qNM _ _,fun f hf hD=>?_⟩
   rw [qwH] at hD
   rw [qzQ hr hs,qeL hR.2.2.1 hf]
   cases cO s.F f.No with
   | none=>exact ⟨f.C,by show fl (mxS r.qH s.qH) (some f.C)=_; rw [qEn,if_pos hD],qe6 _⟩
   | some y=>
    refine ⟨cJ f.C y,?_,qMu _ _⟩
    show fl (mxS r.qH s.qH) (some (cJ f.C y))=_
    rw [qEn,if_pos (qIy (qNa (qMu _ _)) hD)]
 rw [hj]
 have e2:(r.F.filter fun f=>exK f.C (some j) f.No)=[]:=by
  rw [List.filter_eq_nil_iff]
  intro f hf
  rw [show exK f.C (some j) f.No=false from qOd fun h=>hc f hf h]; simp
 have e1:(if slB j.qH r.qH=true then r.qH else zSt)=zSt:=by rw [hd]; rfl
 unfold qgt
 rw [show qgp (some j)=j.qH from rfl,e1,e2]
 rfl
theorem qII {a b:qe} {D:Vector UInt8 32} {x:qa} (h:x∈jj (ji D b) a.R):∃ r∈a.R,x=qgt (rO b.R r.ID) r:=by
 obtain ⟨r,hr,hx⟩:=List.mem_flatMap.1 h
 refine ⟨r,hr,?_⟩
 unfold J2 at hx
 split at hx
 ·exact absurd hx List.not_mem_nil
 ·rw [List.mem_singleton.1 hx,qwa]
section
variable {N:Nat} [Vv N]
theorem qMd {a b : qe} {m n : qk} {r : qa} {l : List qa} {k : Nat} (hk : k < l.length) (hr : vg r = true) (hl : (l.getD k zR).F.length ≤ 600) (hf : ∀ f ∈ (l.getD k zR).F, f ∈ r.F) :
    QI N a b m n r l (k:Int) 0=some (.inr ((((l.getD k zR).F.length:Nat):Int),false)):=by
 have hN:=big N
 have hR:=V9.1 hr
 have:=WM (B:=Qa N a b m n r l (k:Int)) (g:=some) (q:=fun _=>true) (n:=(l.getD k zR).F.length) (hit:=()) (fun j hj=>by
  have hmem:(l.getD k zR).F.getD j zF∈(l.getD k zR).F:=qKV hj
  have hc:=qIJ (qeL hR.2.2.1 (hf _ hmem))
  have gk:=zV (d:=zR) hk
  have gj:=zV (d:=zF) hj
  unfold Qa
  exact qA gk <| w_t (dec_lt hj) <| qA gk <| qA gj <| qA ((qKQ (Vh hr) _).trans (congrArg some hc)) <| w_f rfl <| qA gk <| qA gj <| w_f (by rw [show eqE qp ((l.getD k zR).F.getD j zF).C ((l.getD k zR).F.getD j zF).C=true from (VY qp _ _).2 rfl]; rfl) <| zl (vR (by omega)) <| q9 (by rw [zi]; rfl)) (by
  unfold Qa
  exact qA (zV (d:=zR) hk) <| w_f (zG (Nat.lt_irrefl _)) (q9 (by rw [zG (Nat.lt_irrefl _)]))) (show _ < N by omega)
 rw [show Je (fun _=>true) (l.getD k zR).F.length=true from XG.2 fun _ _=>rfl] at this
 exact this
theorem qKT {a b:qe} {D:Vector UInt8 32} {m n:qk} (ha:ju a=true):∃ z,JH N a b m n (jj (ji D b) a.R) 0=some (.inr z):=by
 have hN:=big N
 have hA:=Xb.1 ha
 have hlen:(jj (ji D b) a.R).length≤10:=Nat.le_trans qvP hA.2
 refine ⟨((((jj (ji D b) a.R).length:Nat):Int),false),?_⟩
 have:=WM (B:=Qb N a b m n (jj (ji D b) a.R)) (g:=some) (q:=fun _=>true) (n:=(jj (ji D b) a.R).length) (hit:=()) (fun k hk=>by
  have hmem:(jj (ji D b) a.R).getD k zR∈jj (ji D b) a.R:=by rw [List.getD_eq_getElem?_getD,List.getElem?_eq_getElem hk]; exact List.getElem_mem hk
  obtain ⟨r,hr,e⟩:=qII hmem
  have hrec:=hA.1.2 r hr
  have g:=zV (d:=zR) hk
  have hid:((jj (ji D b) a.R).getD k zR).ID=r.ID:=by rw [e]; rfl
  have hF:((jj (ji D b) a.R).getD k zR).F=r.F.filter fun f=>exK f.C (rO b.R r.ID) f.No:=by rw [e]; rfl
  have hD:((jj (ji D b) a.R).getD k zR).qH=r.qH∨((jj (ji D b) a.R).getD k zR).qH=zSt:=by
   rw [e]
   show (if slB (qgp (rO b.R r.ID)) r.qH=true then r.qH else zSt)=r.qH∨(if slB (qgp (rO b.R r.ID)) r.qH=true then r.qH else zSt)=zSt
   split
   ·exact .inl rfl
   ·exact .inr rfl
  have hfl:((jj (ji D b) a.R).getD k zR).F.length≤r.F.length:=by rw [hF]; exact List.length_filter_le _ _
  have h8:=Vh hrec
  have e17:=qMd (N:=N) (a:=a) (b:=b) (m:=m) (n:=n) hk hrec (by omega) (fun f hf=>by rw [hF] at hf; exact (List.mem_filter.1 hf).1)
  have hfind:qeO N a (qa.ID ((jj (ji D b) a.R).getD k zR))=some (r,true):=by
   have:=qJz (N:=N) ha ((jj (ji D b) a.R).getD k zR).ID
   rw [hid,qK2 (qeD hA.1.1 hr)] at this
   rw [show qa.ID ((jj (ji D b) a.R).getD k zR)=r.ID from hid]
   exact this
  have hlt:decide ((((qa.F r).length:Nat):Int) < (((qa.F ((jj (ji D b) a.R).getD k zR)).length:Nat):Int))=false:=decide_eq_false (by
   have h1:(qa.F ((jj (ji D b) a.R).getD k zR)).length≤(qa.F r).length:=hfl
   omega)
  have ns:qt ((k:Int) + 1):=vR (by omega)
  unfold Qb
  refine w_t (dec_lt hk) <| qA g <| qA hfind <| w_f rfl <| qA g ?_
  rcases hD with h | h
  ·exact w_f (by rw [qfH]; show (!decide (((jj (ji D b) a.R).getD k zR).qH=r.qH))=false; rw [decide_eq_true h]; rfl) <| qA g <| w_f hlt <| qA e17 <| w_r rfl <| zl ns <| q9 (by rw [zi]; rfl)
  ·refine qwJ (c:=!decide (((jj (ji D b) a.R).getD k zR).qH=r.qH)) (by rw [qfH]) (fun _=>?_) fun _=>?_
   ·exact qA g <| w_f (by rw [qfH]; show (!decide (((jj (ji D b) a.R).getD k zR).qH=zSt))=false; rw [decide_eq_true h]; rfl) <| qA g <| w_f hlt <| qA e17 <| w_r rfl <| zl ns <| q9 (by rw [zi]; rfl)
   ·exact qA g <| w_f hlt <| qA e17 <| w_r rfl <| zl ns <| q9 (by rw [zi]; rfl)) (by
  unfold Qb
  exact w_f (zG (Nat.lt_irrefl _)) (q9 (by rw [zG (Nat.lt_irrefl _)]))) (show _ < N by omega)
 rw [show Je (fun _=>true) (jj (ji D b) a.R).length=true from XG.2 fun _ _=>rfl] at this
 exact this
theorem qBE {a b:qe} (fa:vp N a) (fb:vp N b):vF N a b=some true:=by
 obtain ⟨x,ex⟩:=qEv (N:=N) a
 obtain ⟨y,ey⟩:=qEv (N:=N) b
 have fe:vp N (qe.mk []):=⟨by have:=big N; show 0 < N; omega,Nat.zero_le _,fun k hk=>absurd hk (Nat.not_lt_zero _)⟩
 have fj:vp N (jB N a b).1:=by
  by_cases hz:(jB N a b).2=0
  ·exact qxs (qEl fa fb hz).2.2.2
  ·rw [(qNX hz).resolve_right (fun h=>h ⟨fa,fb⟩)]; exact fe
 unfold vF Vp
 refine qA (show qFu=some true from rfl) <| qA ex <| qA ey ?_
 have ofx:∀ {c:qe},vp N c→∃ q,Vc N c=some q∧(q.2=true→ju c=true∧∃ D,q.1=ji D c):=fun {c} fc=>by
  cases hc:ju c with
  | false=>exact ⟨_,qOK fc hc,fun h=>by cases h⟩
  | true=>
   obtain ⟨D,eD⟩:=qOa fc hc
   exact ⟨_,qOs fc hc eD,fun _=>⟨rfl,D,rfl⟩⟩
 obtain ⟨q1,eq1,hq1⟩:=ofx fb
 obtain ⟨q2,eq2,hq2⟩:=ofx fj
 refine qA eq1 <| qA (qOI fa fb) <| qA eq2 <| w_f rfl ?_
 cases x with
 | false=>rfl
 | true=>
  refine w_f rfl ?_
  cases y with
  | false=>rfl
  | true=>
   refine w_f rfl ?_
   cases h1:q1.2 with
   | false=>exact w_t rfl rfl
   | true=>
    refine w_f rfl ?_
    cases h2:q2.2 with
    | false=>exact w_t rfl rfl
    | true=>
     refine w_f rfl ?_
     by_cases hz:(jB N a b).2=0
     ·obtain ⟨ha,hb,hJ,hj⟩:=qEl fa fb hz
      obtain ⟨_,D,e1⟩:=hq1 h1
      obtain ⟨_,D',e2⟩:=hq2 h2
      have hA:=Xb.1 ha
      have hB:=Xb.1 hb
      have p1:=qmE (N:=N) (qis hb D) ha (qiM hb D)
      have p2:=qmE (N:=N) (qis hj D') ha (qiM hj D')
      have p3:=qmE (N:=N) (qis hj D') hb (qiM hj D')
      have p4:=qmE (N:=N) (qis hb D) hb (qiM hb D)
      rw [qls fun r hr=>by
       rw [hJ.2,qeD hA.1.1 hr]
       exact qxN (hA.1.2 r hr) (qGV hB.1.2 _)] at p2
      rw [qls fun r hr=>by
       have v1:=qGV hA.1.2 r.ID
       have v2:=qGV hB.1.2 r.ID
       rw [hJ.2,qNd v1 v2,qeD hB.1.1 hr]
       exact qxN (hB.1.2 r hr) v1] at p3
      rw [qls fun r hr=>by rw [qeD hB.1.1 hr]; exact qHa (hB.1.2 r hr)] at p4
      obtain ⟨z,ez⟩:=qKT (N:=N) (b:=b) (D:=D) (m:=q1.1) (n:=q2.1) ha
      exact w_f (by rw [decide_eq_true hz]; rfl) <| qA (by rw [e1]; exact p1) <| qA ez <| w_r rfl <| qA (by rw [e2]; exact p2) <| w_t rfl <| qA (by rw [e2]; exact p3) <| w_t rfl <| qA (by rw [e1]; exact p4) <| q9 rfl
     ·exact w_t (by rw [decide_eq_false hz]; rfl) <| q9 rfl
end
theorem qHh (a b : qe) (ha1 : a.R.length ≤ 4611686018427387904) (ha2 : ∀ k, k < a.R.length → (a.R.getD k zR).F.length ≤ 4611686018427387904) (hb1 : b.R.length ≤ 4611686018427387904) (hb2 : ∀ k, k < b.R.length → (b.R.getD k zR).F.length ≤ 4611686018427387904) :
    ∃ N:Nat,vF N a b=some true:=by
 obtain ⟨M,hM⟩:=qMw a ha1 ha2
 obtain ⟨M',hM'⟩:=qMw b hb1 hb2
 have:Vv (100000 + M + M'):=Vv.of (by omega)
 exact ⟨_,qBE (hM (100000 + M + M') (by omega)) (hM' (100000 + M + M') (by omega))⟩
end Go.Rx
end
