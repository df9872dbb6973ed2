/- A part of the proof of ChooseWholeUpto: the law returns true for every input of its bounded bulk, and its arguments read as before. No condition beyond that bound. -/
import Derived.Test.YtjnpkbemmgkpiaaGreatChooseWholeUptoG
set_option linter.unusedSimpArgs false
set_option linter.unusedVariables false
set_option linter.unusedSectionVars false
set_option maxRecDepth 100000
noncomputable section
namespace Go.Rx
open Go.Proofs
def qY5:Vector UInt32 8:=#v[1779033703,3144134277,1013904242,2773480762,1359893119,2600822924,528734635,1541459225]
def qY8:Vector UInt32 64:=#v[1116352408,1899447441,3049323471,3921009573,961987163,1508970993,2453635748,2870763221,
 3624381080,310598401,607225278,1426881987,1925078388,2162078206,2614888103,3248222580,
 3835390401,4022224774,264347078,604807628,770255983,1249150122,1555081692,1996064986,
 2554220882,2821834349,2952996808,3210313671,3336571891,3584528711,113926993,338241895,
 666307205,773529912,1294757372,1396182291,1695183700,1986661051,2177026350,2456956037,
 2730485921,2820302411,3259730800,3345764771,3516065817,3600352804,4094571909,275423344,
 430227734,506948616,659060556,883997877,958139571,1322822218,1537002063,1747873779,
 1955562222,2024104815,2227730452,2361852424,2428436474,2756734187,3204031479,3329325298]
def qa7 (L:Nat):Nat:=(119 - L % 64) % 64
theorem qlH (n:Int):inB (IntKind.u8.wrap n):=by
 unfold inB
 have:IntKind.u8.wrap n=n % 256:=by simp [IntKind.wrap,IntKind.bits,IntKind.signed]
 rw [this]; omega
theorem qSe (a b:Int):inB (uOr .u8 a b):=qlH _
theorem qS8 (a b:Int):inB (qv8 .u8 a b):=qlH _
theorem qUJ (a b:Nat):((a:Nat):Int).tmod ((b:Nat):Int)=((a % b:Nat):Int):=rfl
theorem qIm (a b:Nat):((a:Nat):Int).tdiv ((b:Nat):Int)=((a / b:Nat):Int):=rfl
theorem qhx {n k:Nat} (h:k≤2000000000):jG n n k 1:=⟨rfl,by unfold zi; omega⟩
theorem qYv {N:Nat} {o:Vector UInt8 32} {b:List UInt8} (hb:b.length≤1000000000) (hN:64 < N):qj1 N o b (b++[128])=some (b++[128]++List.replicate (qa7 b.length) 0,false):=by
 have hz:qa7 b.length < 64:=Nat.mod_lt _ (by omega)
 have h56:(b.length + 1 + qa7 b.length) % 64=56:=by unfold qa7; omega
 have hlen:∀ k,(b++[128]++List.replicate k (0:UInt8)).length=b.length + 1 + k:=fun k=>by simp; omega
 have hne:∀ k,k < qa7 b.length→(b.length + 1 + k) % 64≠56:=fun k hk=>by unfold qa7 at *; omega
 have e0:qj1 N o b (b++[128])=qV (qcf N o b) some N (b++[128]++List.replicate 0 (0:UInt8)):=by rw [List.replicate_zero,List.append_nil]; rfl
 rw [e0]
 refine (jU (σ:=Unit) (B:=qcf N o b) (g:=some) (at_:=fun k _=>b++[128]++List.replicate k (0:UInt8)) (I:=fun _ _=>True) (f:=fun _ s=>s) (n:=qa7 b.length)
  (fin:=fun _=>(b++[128]++List.replicate (qa7 b.length) 0,false)) (fun k s hk _=>⟨?_,trivial⟩) (fun s _=>?_) N 0 () trivial (Nat.zero_le _) (by omega))
 ·unfold qcf
  have c1:(64:Int)≠0:=by omega
  have e:decide ((((b++[128]++List.replicate k (0:UInt8)).length:Nat):Int).tmod 64=56)=false:=decide_eq_false (by
   rw [hlen]
   have:=hne k hk
   show ¬ (((b.length + 1 + k) % 64:Nat):Int)=56
   omega)
  have c2:jG (b++[128]++List.replicate k (0:UInt8)).length (b++[128]++List.replicate k (0:UInt8)).length ((b++[128]++List.replicate k (0:UInt8))++[UInt8.ofNat 0]).length 1:=qhx (by rw [List.length_append,hlen]; simp; omega)
  rw [qX,qj c1,qI,e,Bool.not_false,cond_true,qX,qj c2,qP]
  rw [List.replicate_succ',← List.append_assoc]
  rfl
 ·unfold qcf
  have c1:(64:Int)≠0:=by omega
  have e:decide ((((b++[128]++List.replicate (qa7 b.length) (0:UInt8)).length:Nat):Int).tmod 64=56)=true:=decide_eq_true (by
   rw [hlen]
   show (((b.length + 1 + qa7 b.length) % 64:Nat):Int)=56
   omega)
  rw [qX,qj c1,qI,e,Bool.not_true,cond_false,qP]
def qVk (L k:Nat):UInt8:=UInt8.ofNat (IntKind.u8.wrap (Zz (qXL .u64 (IntKind.u64.wrap ((L:Nat):Int)) 8) (min ((8:Int) * ((7:Int) - (k:Int))).toNat 64))).toNat
def qrY (L k:Nat) (l:List UInt8):List UInt8:=l++[qVk L k]
theorem qID {L:Nat}:∀ (m k:Nat) (l:List UInt8),(Jn (qrY L) m k l).length=l.length + m
 | 0,_,_=>rfl
 | m + 1,k,l=>by
  show (Jn (qrY L) m (k + 1) (qrY L k l)).length=_
  rw [qID m]; unfold qrY; rw [List.length_append]; simp; omega
theorem qW5 {N:Nat} {o:Vector UInt8 32} {b l:List UInt8} (hl:l.length≤1500000000) (hN:64 < N):qpW N o b l 0=some (Jn (qrY b.length) 8 0 l,(8:Int),false):=by
 refine (jU (σ:=List UInt8) (B:=qfG N o b) (g:=some) (at_:=fun k s=>(s,(k:Int))) (I:=fun k s=>s.length=l.length + k) (f:=qrY b.length) (n:=8)
  (fin:=fun s=>(s,(8:Int),false)) (fun k s hk hs=>⟨?_,?_⟩) (fun s _=>?_) N 0 l rfl (Nat.zero_le _) (by omega))
 ·have d1:decide ((k:Int) < 8)=true:=decide_eq_true (by omega)
  have c1:qw ((7:Int) - (k:Int)):=by unfold qw; omega
  have c2:qw ((8:Int) * ((7:Int) - (k:Int))):=by unfold qw; omega
  have c3:(0:Int)≤(8:Int) * ((7:Int) - (k:Int)):=by omega
  have c4:qw ((k:Int) + 1):=by unfold qw; omega
  have c5:jG s.length s.length (s++[qVk b.length k]).length 1:=qhx (by rw [List.length_append,hs]; simp; omega)
  unfold qfG
  rw [qI,d1,cond_true]
  simp only [qX,qP]
  rw [qj c1,qj c2,qj c3,qj (qlH _)]
  show chk (jG s.length s.length (s++[qVk b.length k]).length 1) _=_
  rw [qj c5,qj c4,zf]
  rfl
 ·unfold qrY; rw [List.length_append,hs]; simp; omega
 ·unfold qfG
  rfl
def chF (K:Vector UInt32 64):Nat→Vector UInt32 8→List UInt8→Vector UInt32 8
 | 0,s,_=>s
 | m + 1,s,l=>chF K m (qGQ s K (l.take 64)) (l.drop 64)
theorem qWl {N : Nat} {o : List UInt8} {o2 : Vector UInt8 32} {o3 : Vector UInt32 8} {K : Vector UInt32 64} (hN : 64 < N) : ∀ (m n : Nat) (s : Vector UInt32 8) (l : List UInt8), l.length = 64 * m → m < n →
    qV (qal N o o2 o3 K) some n (s,l)=some (.inr (chF K m s l,[],false))
 | 0,n + 1,s,l,hl,_=>by
  have:l=[]:=List.length_eq_zero_iff.1 (by omega)
  subst this
  exact jb (by unfold qal; rfl) n
 | m + 1,n + 1,s,l,hl,hn=>by
  have d1:decide ((0:Int) < ((l.length:Nat):Int))=true:=decide_eq_true (by omega)
  have c1:(0:Int)≤0∧(0:Int)≤64∧(64:Int)≤((l.length:Nat):Int):=by omega
  have c2:(0:Int)≤64∧(64:Int)≤((l.length:Nat):Int):=by omega
  have ht:((l.take 64).drop 0).length=64:=by rw [List.drop_zero,List.length_take]; omega
  rw [JM (v':=(qGQ s K (l.take 64),l.drop 64)) (by
   unfold qal
   rw [qI,d1,cond_true,qX,qj c1,run_bind,qMF hN ht,Option.bind_some,qX,qj c2,qP,List.drop_zero]) n]
  exact qWl hN m n _ _ (by rw [List.length_drop]; omega) (by omega)
 | _,0,_,_,_,hn=>by omega
theorem qQe {N m : Nat} {all : List UInt8} {o2 : Vector UInt8 32} {s : Vector UInt32 8} {K : Vector UInt32 64} (hN : 64 < N) (hm : m + 1 < N) (hl : all.length = 64 * (m + 1)) :
    qdU N all o2 s K=some (.inr (chF K (m + 1) s all,[],false)):=by
 have d1:decide ((0:Int) < ((all.length:Nat):Int))=true:=decide_eq_true (by omega)
 have c1:(0:Int)≤0∧(0:Int)≤64∧(64:Int)≤((all.length:Nat):Int):=by omega
 have c2:(0:Int)≤64∧(64:Int)≤((all.length:Nat):Int):=by omega
 have ht:((all.take 64).drop 0).length=64:=by rw [List.drop_zero,List.length_take]; omega
 have hrun:(qec N all o2 s K ()).run some=some (.inr (.inl (qGQ s K (all.take 64),all.drop 64))):=by
  unfold qec
  rw [qI,d1,cond_true,qX,qj c1,qX,qj rfl,run_bind,qMF hN ht,Option.bind_some,qX,qj c2,qX,qj rfl,qP,List.drop_zero]
 obtain ⟨N',rfl⟩:∃ N',N=N' + 1:=⟨N - 1,by omega⟩
 have e:qdU (N' + 1) all o2 s K=qV (qec (N' + 1) all o2 s K) (qi7 (N' + 1) (N' + 1) (all,o2,s,K)) (N' + 1) ():=rfl
 rw [e,jb hrun]
 exact qWl (o:=all) (o2:=o2) (o3:=s) hN m (N' + 1) _ _ (by rw [List.length_drop]; omega) (by omega)
def qX4 (s:Vector UInt32 8) (k:Nat):UInt8:=UInt8.ofNat (IntKind.u8.wrap (c32 (wAt s (k / 4) >>> UInt32.ofNat (24 - 8 * (k % 4))))).toNat
def qT5 (s:Vector UInt32 8) (k:Nat) (o:Vector UInt8 32):Vector UInt8 32:=o.setIfInBounds k (qX4 s k)
def qX6 (s:Vector UInt32 8):Vector UInt8 32:=Jn (qT5 s) 32 0 (Vector.replicate 32 0)
theorem qXO {N:Nat} {o:Vector UInt8 32} {s:Vector UInt32 8} (hN:64 < N):qhI N o s (Vector.replicate 32 0) 0=some (qX6 s,(32:Int),false):=by
 refine (jU (σ:=Vector UInt8 32) (B:=qeg N o s) (g:=some) (at_:=fun k s=>(s,(k:Int))) (I:=fun _ _=>True) (f:=qT5 s) (n:=32)
  (fin:=fun s=>(s,(32:Int),false)) (fun k x hk _=>⟨?_,trivial⟩) (fun x _=>?_) N 0 (Vector.replicate 32 0) trivial (Nat.zero_le _) (by omega))
 ·have d1:decide ((k:Int) < 32)=true:=decide_eq_true (by omega)
  have e1:(k:Int).tdiv 4=((k / 4:Nat):Int):=qIm k 4
  have e2:(k:Int).tmod 4=((k % 4:Nat):Int):=qUJ k 4
  have h4:(4:Int)≠0:=by omega
  have c1:qw (((k / 4:Nat)):Int):=by unfold qw; omega
  have c2:(0:Int)≤((k / 4:Nat):Int)∧((k / 4:Nat):Int) < ((8:Nat):Int):=by omega
  have c3:k / 4 < 8:=by omega
  have c4:qw ((8:Int) * ((k % 4:Nat):Int)):=by unfold qw; omega
  have e3:(24:Int) - (8:Int) * ((k % 4:Nat):Int)=((24 - 8 * (k % 4):Nat):Int):=by omega
  have c5:qw ((24 - 8 * (k % 4):Nat):Int):=by unfold qw; omega
  have c6:(0:Int)≤((24 - 8 * (k % 4):Nat):Int):=by omega
  have c7:(0:Int)≤(k:Int)∧(k:Int) < ((32:Nat):Int):=by omega
  have c8:qw ((k:Int) + 1):=by unfold qw; omega
  unfold qeg qT5 qX4
  rw [qI,d1,cond_true]
  simp only [qX,qP]
  rw [e1,e2,e3,qj h4,qj c1,qj c2,Int.toNat_natCast,qj c3,qj h4,qj c4,qj c5,qj c6,qj c7,qj (qlH _),Int.toNat_natCast,qj hk,qj c8,Int.toNat_natCast,Nat.min_eq_left (show 24 - 8 * (k % 4)≤32 by omega)]
  rw [zf]
  show some (Sum.inl (x.setIfInBounds k (UInt8.ofNat (IntKind.u8.wrap (Zz (c32 (wAt s (k / 4))) (24 - 8 * (k % 4)))).toNat),_))=_
  rw [qG2 _ _ (by omega)]
 ·unfold qeg
  rfl
def qzK (b:List UInt8):List UInt8:=Jn (qrY b.length) 8 0 (b++[128]++List.replicate (qa7 b.length) 0)
def zJ (b:List UInt8):Vector UInt8 32:=qX6 (chF qY8 ((qzK b).length / 64) qY5 (qzK b))
theorem qXj (b:List UInt8):∃ m,(qzK b).length=64 * (m + 1)∧m≤b.length:=by
 have h:(qzK b).length=b.length + 1 + qa7 b.length + 8:=by unfold qzK; rw [qID]; simp; omega
 rw [h]
 refine ⟨(b.length + 1 + qa7 b.length + 8) / 64 - 1,?_,?_⟩
 ·unfold qa7; omega
 ·unfold qa7; omega
theorem qT3 {l:List UInt8} (h:l.length≤1000000000):Kv l=some ():=by
 unfold Kv
 cases l with
 | nil=>kernel_rfl
 | cons x r=>
  show qnx (x::r)=_
  unfold qnx qiG
  have h2:jG ([]:List UInt8).length 0 ([]++x::r).length 1:=⟨rfl,by rw [List.nil_append]; unfold zi; omega⟩
  rw [qX,qj (List.isEmpty_cons),qX,qj h2,qP]
theorem quX {Z:Type} {a:Nat} {o:Option Z}:zY [(a,a)] o=o:=(zo rfl).trans (qhR o)
theorem qTW:qvI=some ():=by kernel_rfl
theorem qTH:quF=some ():=by kernel_rfl
theorem qIT {N:Nat} {b:List UInt8} (hb:b.length≤1000000000) (hN:b.length + 100 < N):ZZ N b=some (zJ b):=by
 obtain ⟨m,hm,hmb⟩:=qXj b
 have c1:jG (([]:List UInt8)++b).length (([]:List UInt8)++b).length ((([]:List UInt8)++b)++[UInt8.ofNat 128]).length 1:=qhx (by rw [List.nil_append,List.length_append]; simp; omega)
 have hpad:=qYv (N:=N) (o:=Vector.replicate 32 0) hb (by omega)
 have hlen:=qW5 (N:=N) (o:=Vector.replicate 32 0) (b:=b) (l:=b++[128]++List.replicate (qa7 b.length) 0) (by have:qa7 b.length < 64:=Nat.mod_lt _ (by omega); simp; omega) (by omega)
 have hch:∀ (s:Vector UInt32 8) (K:Vector UInt32 64),qdU N (Jn (qrY b.length) 8 0 (b++[128]++List.replicate (qa7 b.length) 0)) (Vector.replicate 32 0) s K=some (.inr (chF K (m + 1) s (qzK b),[],false)):=fun s K=>qQe (by omega) (by omega) hm
 have hd:(qzK b).length / 64=m + 1:=by rw [hm]; omega
 have e1:(([]:List UInt8)++b)++[UInt8.ofNat 128]=b++[128]:=rfl
 unfold ZZ qtl zJ
 rw [run_bind,qT3 hb,Option.bind_some,qX,qj c1,run_bind,e1,quX,hpad,Option.bind_some]
 dsimp only
 rw [run_bind,quX,hlen,Option.bind_some]
 dsimp only
 rw [run_bind,qTW,Option.bind_some,run_bind,qTH,Option.bind_some,run_bind,quX,hch,Option.bind_some,qIZ,run_bind,qXO (by omega),Option.bind_some,qP,hd]
 rfl
end Go.Rx
end
set_option maxRecDepth 100000
noncomputable section
namespace Go.Rx
open Go.Proofs
section n
variable {N:Nat} [ZB N]
theorem qRE {n:Int} (h0:0≤n) (h1:n < 18446744073709551616):∃ r:Nat,qhv N n=some (r:Int)∧1≤r∧r≤10:=by
 have key:∃ y,qgW N (Zz n 7) 1=some y∧1≤y.2.1∧y.2.1≤10:=by
  refine Xg (B:=qam N) (g:=some) (I:=fun v=>0≤v.1∧1≤v.2∧v.2≤10∧v.1 < (128:Int) ^ (10 - v.2.toNat)) (fun v=>11 - v.2.toNat) ?_ N _ ⟨?_,by omega,by omega,?_⟩ (by have:=big N; simp; omega)
  ·rintro ⟨a,k⟩ ⟨g0,g1,g2,g3⟩
   simp only at g0 g1 g2 g3
   by_cases h:0 < a
   ·left
    have hk:k≤9:=by
     by_cases e:k=10
     ·subst e
      have:(128:Int) ^ (10 - (10:Int).toNat)=1:=rfl
      omega
     ·omega
    have c1:qw (k + 1):=by unfold qw; omega
    have c2:(0:Int)≤7:=by omega
    refine ⟨(Zz a 7,k + 1),?_,⟨?_,?_,?_,?_⟩,?_⟩
    ·unfold qam
     rw [qI,decide_eq_true h,cond_true,qX,qj c1,qX,qj c2,qP]
    ·show 0≤a.fdiv (2 ^ 7)
     rw [Int.fdiv_eq_ediv_of_nonneg _ (by omega)]; omega
    ·simp only; omega
    ·simp only; omega
    ·show a.fdiv (2 ^ 7) < (128:Int) ^ (10 - (k + 1).toNat)
     rw [Int.fdiv_eq_ediv_of_nonneg _ (by omega)]
     have e:10 - k.toNat=(10 - (k + 1).toNat) + 1:=by omega
     rw [e,Int.pow_succ] at g3
     have:(2:Int) ^ 7=128:=rfl
     omega
    ·simp only; omega
   ·right
    refine ⟨(a,k,false),_,?_,rfl,g1,g2⟩
    unfold qam
    rw [qI,decide_eq_false h,cond_false,qP]
  ·show 0≤n.fdiv (2 ^ 7)
   rw [Int.fdiv_eq_ediv_of_nonneg _ (by omega)]; omega
  ·show n.fdiv (2 ^ 7) < (128:Int) ^ (10 - (1:Int).toNat)
   rw [Int.fdiv_eq_ediv_of_nonneg _ (by omega)]
   have:(128:Int) ^ (10 - (1:Int).toNat)=9223372036854775808:=rfl
   rw [this]; omega
 obtain ⟨y,e,h2,h3⟩:=key
 refine ⟨y.2.1.toNat,?_,by omega,by omega⟩
 unfold qhv qiV
 rw [qX,qj (by omega),run_bind,e,Option.bind_some,qP,Int.toNat_of_nonneg (by omega)]
theorem qXS {n:Int} {r:Nat} (hr:r≤10):∀ l:List UInt8,l.length=r→∃ y,qhz N n (r:Int) r (r:Int) l 0=some y∧y.1.length=r:=fun l hl=>by
 refine Xg (B:=qeu N n (r:Int) r (r:Int)) (g:=some) (I:=fun v=>v.1.length=r∧∃ k:Nat,k≤r∧v.2=(k:Int)) (fun v=>r - v.2.toNat) ?_ N _ ⟨hl,0,Nat.zero_le _,rfl⟩ (by have:=big N; simp; omega)
 rintro ⟨l,v⟩ ⟨hl,k,hk,hv⟩
 simp only at hl hv
 subst hv
 by_cases h:k < r
 ·left
  have c1:qw ((r:Int) - 1):=by unfold qw; omega
  have c2:qw ((r:Int) - 1 - (k:Int)):=by unfold qw; omega
  have c3:qw ((7:Int) * (k:Int)):=by unfold qw; omega
  have c4:(0:Int)≤(7:Int) * (k:Int):=by omega
  have c5:(0:Int)≤(r:Int) - 1 - (k:Int)∧(r:Int) - 1 - (k:Int) < ((r:Nat):Int):=by omega
  have c6:qei l.length r ((r:Int) - 1 - (k:Int)).toNat:=⟨hl,by omega⟩
  have c7:qw ((k:Int) + 1):=by unfold qw; omega
  refine ⟨(l.set ((r:Int) - 1 - (k:Int)).toNat (UInt8.ofNat (uOr .u8 (IntKind.u8.wrap (Zz n (min ((7:Int) * (k:Int)).toNat 64))) 128).toNat),((k + 1:Nat):Int)),?_,⟨?_,k + 1,h,rfl⟩,?_⟩
  ·unfold qeu
   rw [qI,dec_lt h,cond_true,qX,qj c1,qX,qj c2,qX,qj c3,qX,qj c4]
   show chk _ (chk _ (chk _ (chk _ _)))=_
   rw [qj c5,qj c6,qj (qSe _ _),qj c7,zf]
   rfl
  ·simp only [List.length_set]; exact hl
  ·simp only [Int.toNat_natCast]; omega
 ·right
  obtain rfl:k=r:=by omega
  refine ⟨(l,((k:Nat):Int),false),_,?_,rfl,hl⟩
  unfold qeu
  rw [qI,zn (Nat.lt_irrefl k),cond_false,qP]
theorem qWL {α:Type} {l:List α} {n k:Nat} (hn:l.length=n) (hk:k < n):∃ x,ZN l n k=some x:=by
 unfold ZN; rw [if_pos hn,List.getElem?_eq_getElem (by omega)]; exact ⟨_,rfl⟩
theorem qpI {n:Int} (h0:0≤n) (h1:n < 18446744073709551616):∃ l:List UInt8,Ve N n=some (l,l.length)∧l.length≤10:=by
 obtain ⟨r,e1,h2,h3⟩:=qRE (N:=N) h0 h1
 obtain ⟨y,e2,hy⟩:=qXS (N:=N) (n:=n) h3 (List.replicate r 0) (by simp)
 have hrl:(List.replicate ((r:Nat):Int).toNat (0:UInt8)).length=r:=by simp
 have c1:qI3 ((r:Nat):Int) ((r:Nat):Int) 1:=⟨rfl,by omega,by unfold zi; omega⟩
 have c2:qw (((r:Nat):Int) - 1):=by unfold qw; omega
 have c3:(0:Int)≤((r:Nat):Int) - 1∧((r:Nat):Int) - 1 < ((r:Nat):Int):=by omega
 obtain ⟨x,hx⟩:=qWL (l:=y.1) (n:=r) (k:=(((r:Nat):Int) - 1).toNat) hy (by omega)
 have c4:qei y.1.length r (((r:Nat):Int) - 1).toNat:=⟨hy,by omega⟩
 unfold Ve qp5
 rw [run_bind,e1,Option.bind_some,qX,qj c1,run_bind]
 rw [show qhz N n ((r:Nat):Int) (List.replicate ((r:Nat):Int).toNat (0:UInt8)).length ((r:Nat):Int) (List.replicate ((r:Nat):Int).toNat (0:UInt8)) 0=some y by rw [hrl]; exact e2,Option.bind_some,qX,qj c2,hrl,qX,qj c3,run_bind,hx,Option.bind_some]
 have hs:(y.1.set (((r:Nat):Int) - 1).toNat (UInt8.ofNat (qv8 .u8 ((x.toNat:Nat):Int) 128).toNat)).length=r:=by rw [List.length_set]; exact hy
 refine ⟨y.1.set (((r:Nat):Int) - 1).toNat (UInt8.ofNat (qv8 .u8 ((x.toNat:Nat):Int) 128).toNat),?_,by rw [hs]; exact h3⟩
 show chk _ (chk _ (chk _ _))=_
 rw [qj c3,qj c4,qj (qS8 _ _),hs]
 rfl
theorem wrap64_in (n:Int):0≤IntKind.u64.wrap n∧IntKind.u64.wrap n < 18446744073709551616:=by
 have:IntKind.u64.wrap n=n % 18446744073709551616:=by simp [IntKind.wrap,IntKind.bits,IntKind.signed]
 rw [this]; omega
theorem qXD {l:List UInt8} (h:l.length≤1000000):∃ r:List UInt8,qit N l=some r∧r.length≤l.length + 10:=by
 obtain ⟨p,e,hp⟩:=qpI (N:=N) (wrap64_in ((l.length:Nat):Int)).1 (wrap64_in ((l.length:Nat):Int)).2
 refine ⟨p++l,?_,by rw [List.length_append]; omega⟩
 unfold qit qn9
 show Option.bind (Ve N (IntKind.u64.wrap ((l.length:Nat):Int))) _=_
 have hpl:(p++l).length≤2000000000:=by rw [List.length_append]; omega
 rw [e,Option.bind_some,qX,qj (qhx hpl),qX,qj rfl,qP]
theorem qVj (s:qd):∃ r:List UInt8×Bool,qnk N s=some r∧r.1.length≤10:=by
 unfold qnk qnC
 rw [run_bind,qcg,Option.bind_some]
 cases stB s with
 | false=>exact ⟨([],false),rfl,Nat.zero_le _⟩
 | true=>
  obtain ⟨p,e,hp⟩:=qpI (N:=N) (n:=uOr .u64 (qfx .u64 (IntKind.u64.wrap (qd.N s)) 3) (IntKind.u64.wrap (qd.Rep s))) (wrap64_in _).1 (wrap64_in _).2
  refine ⟨(p,true),?_,hp⟩
  rw [qI,Bool.not_true,cond_false,qX,qj (by omega)]
  show Option.bind (Ve N (uOr .u64 (qfx .u64 (IntKind.u64.wrap (qd.N s)) 3) (IntKind.u64.wrap (qd.Rep s)))) _=_
  rw [e,Option.bind_some,qX,qj rfl,qP]
theorem qQq (s:qd):qd6 N s=some (.inl ())∨∃ p:List UInt8,qd6 N s=some (.inr (p,p.length))∧p.length≤10:=by
 unfold qd6 qi1
 rw [run_bind,qcg,Option.bind_some]
 cases stB s with
 | false=>exact .inl rfl
 | true=>
  right
  obtain ⟨p,e,hp⟩:=qpI (N:=N) (n:=uOr .u64 (qfx .u64 (IntKind.u64.wrap (qd.N s)) 3) (IntKind.u64.wrap (qd.Rep s))) (wrap64_in _).1 (wrap64_in _).2
  refine ⟨p,?_,hp⟩
  rw [qI,Bool.not_true,cond_false,qX,qj (by omega)]
  show Option.bind (Ve N (uOr .u64 (qfx .u64 (IntKind.u64.wrap (qd.N s)) 3) (IntKind.u64.wrap (qd.Rep s)))) _=_
  rw [e,Option.bind_some,qP]
def V3 (c:qe):Bool:=!decide (c.S=zSt)&&(stB c.S&&decide (c.V.length≤200))
theorem qME (c:qe):qce c=some (V3 c):=by
 unfold qce qrk V3
 have e:eqE qk c.S (qd.mk 0 0)=decide (c.S=zSt):=qfU _ _
 have e2:decide (((c.V.length:Nat):Int)≤200)=decide (c.V.length≤200):=decide_eq_decide.2 (by omega)
 rw [qI,e,run_bind,qcg,Option.bind_some,qI,qP,e2,qP]
 cases decide (c.S=zSt)<;>cases stB c.S<;>rfl
theorem qWJ {c:qe} (h:V3 c=true):∃ r:List UInt8×Bool,qqx N c=some r∧r.1.length≤220:=by
 have hV:c.V.length≤200:=by
  unfold V3 at h
  simp only [Bool.and_eq_true,decide_eq_true_iff] at h
  exact h.2.2
 obtain ⟨t,et,ht⟩:=qXD (N:=N) (l:=c.V) (by omega)
 unfold qqx qrs
 rw [run_bind,qME,h,Option.bind_some,qI,Bool.not_true,cond_false,run_bind]
 rcases qQq (N:=N) c.S with e | ⟨p,e,hp⟩
 ·refine ⟨(t,true),?_,by simp only; omega⟩
  have c1:jG ([]:List UInt8).length 0 ([]++t).length 1:=⟨rfl,by rw [List.nil_append]; unfold zi; omega⟩
  rw [e,Option.bind_some,qTM,run_bind,et,Option.bind_some,qX,qj c1,qX,qj rfl,qP]
  rfl
 ·refine ⟨(p++t,true),?_,by simp only [List.length_append]; omega⟩
  have hpl:(p++t).length≤2000000000:=by rw [List.length_append]; omega
  rw [e,Option.bind_some,qIZ,run_bind,et,Option.bind_some,qX,qj (qhx hpl),qX,qj rfl,qP]
end n
end Go.Rx
end
set_option maxRecDepth 100000
noncomputable section
namespace Go.Rx
open Go.Proofs
abbrev zF:qc:=qc.mk 0 (qe.mk zSt [])
abbrev zR:qa:=qa.mk (Vector.replicate 16 0) zSt []
def qtI (l:List qc) (dead:qd) (k:Nat):Bool:=
 (if k=0 then decide (0≤(l.getD k zF).No) else decide ((l.getD (k - 1) zF).No < (l.getD k zF).No))&&(!decide (8≤(l.getD k zF).No)&&(V3 (l.getD k zF).C&&slB dead (l.getD k zF).C.S))
def zZ (r:qa):Bool:=stB r.qB&&(!(decide (r.F.length=0)&&decide (r.qB=zSt))&&vm (qtI r.F r.qB) r.F.length)
def qJj (l:List qa) (k:Nat):Bool:=zZ (l.getD k zR)&&(decide (k=0)||lbB (l.getD (k - 1) zR).ID (l.getD k zR).ID)
def zw (b:qb):Bool:=vm (qJj b.R) b.R.length&&decide (b.R.length≤10)
section n
variable {N:Nat} [ZB N]
theorem qUk {f : qc} {dead : qd} {k : Nat} (h64 : qw ((k : Int) + 1)) :
    (Tree.cond (decide (((8:Int))≤(qc.No f))) (.ret (.inr (.inl ())))
     (Tree.bind (qce (qc.C f)) fun r2=>Tree.cond (!r2) (.ret (.inr (.inl ())))
      (Tree.bind (vF N dead (qe.S (qc.C f))) fun r3=>Tree.cond (!r3) (.ret (.inr (.inl ())))
       (Tree.chk (qw ((k:Int) + 1)) (.ret (.inl ((k:Int) + 1):Int⊕(Unit⊕(Int×Bool)))))))).run some =
    some (if (!decide (8≤f.No)&&(V3 f.C&&slB dead f.C.S))=true then .inl ((k:Int) + 1) else .inr (.inl ())):=by
 rw [qI,qP,run_bind,qME,Option.bind_some,qI,qP,run_bind,XN,Option.bind_some,qI,qP,qX,qj h64,qP]
 cases decide (8≤f.No)<;>cases V3 f.C<;>cases slB dead f.C.S<;>rfl
theorem qW8 {r : qa} (hN : r.F.length < N) (h62 : r.F.length ≤ 4611686018427387904) :
    qjK N r r.F ((r.F.length:Nat):Int) 0=some (if vm (qtI r.F r.qB) r.F.length then .inr (((r.F.length:Nat):Int),false) else .inl ()):=by
 refine XT (B:=qgn N r r.F ((r.F.length:Nat):Int)) (g:=some) (q:=qtI r.F r.qB) (fun k hk=>?_) ?_ hN
 ·have h64:qw ((k:Int) + 1):=by unfold qw; omega
  have ht:=qUk (N:=N) (f:=r.F.getD k zF) (dead:=r.qB) h64
  unfold qgn
  rw [qI,dec_lt hk,cond_true,run_bind,zO (d:=zF) hk,Option.bind_some,← zf]
  unfold qtI
  by_cases h0:k=0
  ·have d0:decide ((k:Int)=0)=true:=decide_eq_true (by omega)
   rw [qI,d0,cond_true,if_pos h0,qI]
   by_cases h1:(0:Int)≤(r.F.getD k zF).No
   ·rw [decide_eq_true h1,cond_true,ht,Bool.true_and]
   ·have d1:decide ((0:Int) < (k:Int))=false:=decide_eq_false (by omega)
    rw [decide_eq_false h1,cond_false,qI,d1,cond_false,qP]
    rfl
  ·have d0:decide ((k:Int)=0)=false:=decide_eq_false (by omega)
   have d1:decide ((0:Int) < (k:Int))=true:=decide_eq_true (by omega)
   have hp:qw ((k:Int) - 1):=by unfold qw; omega
   have hk1:k - 1 < r.F.length:=by omega
   rw [qI,d0,cond_false,if_neg h0,qI,d1,cond_true,qX,qj hp,run_bind,qrK (Nat.pos_of_ne_zero h0),zO (d:=zF) hk1,Option.bind_some,qI]
   by_cases h2:(r.F.getD (k - 1) zF).No < (r.F.getD k zF).No
   ·rw [decide_eq_true h2,Bool.not_true,cond_false,ht,Bool.true_and]
   ·rw [decide_eq_false h2,Bool.not_false,cond_true,qP]
    rfl
 ·unfold qgn
  rw [qI,zn (Nat.lt_irrefl _),cond_false,qP]
theorem qwl {r:qa} (hN:r.F.length < N) (h62:r.F.length≤4611686018427387904):qgX N r=some (zZ r):=by
 have e0:eqE qk r.qB (qd.mk 0 0)=decide (r.qB=zSt):=qfU _ _
 have d0:decide (((r.F.length:Nat):Int)=0)=decide (r.F.length=0):=decide_eq_decide.2 (by omega)
 unfold qgX qvn zZ
 rw [run_bind,qcg,Option.bind_some,qI,qP,qI,d0,qI,e0,qP,run_bind,qW8 hN h62,Option.bind_some]
 cases stB r.qB<;>cases decide (r.F.length=0)<;>cases decide (r.qB=zSt)<;>cases vm (qtI r.F r.qB) r.F.length<;>rfl
theorem qWq {b : qb} (hN : b.R.length < N) (h62 : b.R.length ≤ 4611686018427387904) (hF : ∀ k, k < b.R.length → (b.R.getD k zR).F.length < N ∧ (b.R.getD k zR).F.length ≤ 4611686018427387904) :
    qnH N b b.R ((b.R.length:Nat):Int) 0=some (if vm (qJj b.R) b.R.length then .inr (((b.R.length:Nat):Int),false) else .inl ()):=by
 refine XT (B:=qem N b b.R ((b.R.length:Nat):Int)) (g:=some) (q:=qJj b.R) (fun k hk=>?_) ?_ hN
 ·have h64:qw ((k:Int) + 1):=by unfold qw; omega
  unfold qem
  rw [qI,dec_lt hk,cond_true,run_bind,zO (d:=zR) hk,Option.bind_some,run_bind,qwl (hF k hk).1 (hF k hk).2,Option.bind_some,qI,qP,qI,qv1,qX,qX,qj h64,qP,zf]
  unfold qJj
  cases zZ (b.R.getD k zR) with
  | false=>rfl
  | true=>
   by_cases h0:k=0
   ·rw [decide_eq_true h0]; rfl
   ·have hp:qw ((k:Int) - 1):=by unfold qw; omega
    have hk1:k - 1 < b.R.length:=by omega
    rw [decide_eq_false h0,Bool.not_true,cond_false,Bool.not_false,cond_true,qj hp,run_bind,qrK (Nat.pos_of_ne_zero h0),zO (d:=zR) hk1,Option.bind_some,run_bind,qI8,Option.bind_some,qI,qP,qX,qj (show qw ((k + 1:Nat):Int) by rw [← zf]; exact h64),qP]
    cases lbB (b.R.getD (k - 1) zR).ID (b.R.getD k zR).ID<;>rfl
 ·unfold qem
  rw [qI,zn (Nat.lt_irrefl _),cond_false,qP]
theorem qXv {b:qb} (hN:b.R.length < N) (h62:b.R.length≤4611686018427387904) (hF:∀ k,k < b.R.length→(b.R.getD k zR).F.length < N∧(b.R.getD k zR).F.length≤4611686018427387904):We N b=some (zw b):=by
 have e2:decide (((b.R.length:Nat):Int)≤10)=decide (b.R.length≤10):=decide_eq_decide.2 (by omega)
 unfold We qru zw
 rw [run_bind,qWq hN h62 hF,Option.bind_some]
 cases vm (qJj b.R) b.R.length with
 | false=>rfl
 | true=>show (Tree.run some (Tree.ret (decide (((b.R.length:Nat):Int)≤10))))=_; rw [qP,e2]; rfl
end n
theorem Vl {r:qa}:zZ r=true↔stB r.qB=true∧(r.F.length≠0∨r.qB≠zSt)∧∀ k,k < r.F.length→qtI r.F r.qB k=true:=by
 unfold zZ
 rw [Bool.and_eq_true,Bool.and_eq_true,Qu,Bool.not_eq_true',Bool.and_eq_false_iff,decide_eq_false_iff_not,decide_eq_false_iff_not]
theorem Jv {l:List qc} {dead:qd} {k:Nat}:qtI l dead k=true↔(if k=0 then 0≤(l.getD k zF).No else (l.getD (k - 1) zF).No < (l.getD k zF).No)∧(l.getD k zF).No < 8∧V3 (l.getD k zF).C=true∧slB dead (l.getD k zF).C.S=true:=by
 unfold qtI
 rw [Bool.and_eq_true,Bool.and_eq_true,Bool.and_eq_true,Bool.not_eq_true',decide_eq_false_iff_not,Int.not_le]
 refine and_congr ?_ Iff.rfl
 split<;>exact decide_eq_true_iff
theorem qA1 {r:qa} (h:zZ r=true):∀ k,k < r.F.length→(k:Int)≤(r.F.getD k zF).No
 | 0,hk=>by
  have:=(Jv.1 ((Vl.1 h).2.2 0 hk)).1
  rw [if_pos rfl] at this; exact this
 | k + 1,hk=>by
  have:=(Jv.1 ((Vl.1 h).2.2 (k + 1) hk)).1
  rw [if_neg (by omega)] at this
  have ih:=qA1 h k (by omega)
  rw [show k + 1 - 1=k by omega] at this
  omega
theorem J_ {r:qa} (h:zZ r=true):r.F.length≤8:=by
 by_cases e:r.F.length=0
 ·omega
 ·have h1:=qA1 h (r.F.length - 1) (by omega)
  have h2:=(Jv.1 ((Vl.1 h).2.2 (r.F.length - 1) (by omega))).2.1
  omega
theorem XR {b:qb}:zw b=true↔(∀ k,k < b.R.length→zZ (b.R.getD k zR)=true∧(k=0∨lbB (b.R.getD (k - 1) zR).ID (b.R.getD k zR).ID=true))∧b.R.length≤10:=by
 unfold zw
 rw [Bool.and_eq_true,decide_eq_true_iff,Qu]
 refine and_congr (forall_congr' fun k=>imp_congr_right fun _=>?_) Iff.rfl
 show (zZ (b.R.getD k zR)&&(decide (k=0)||lbB (b.R.getD (k - 1) zR).ID (b.R.getD k zR).ID))=true↔_
 rw [Bool.and_eq_true,Bool.or_eq_true,decide_eq_true_iff]
theorem qhd {c:qe} (h:V3 c=true):c.V.length≤200:=by
 unfold V3 at h
 simp only [Bool.and_eq_true,decide_eq_true_iff] at h
 exact h.2.2
end Go.Rx
end
set_option maxRecDepth 100000
noncomputable section
namespace Go.Rx
open Go.Proofs
section n
variable {N:Nat} [ZB N]
theorem qVS {l : List qc} {R : List qa} {s23 s24 : Int} (h8 : l.length ≤ 8) (hc : ∀ k, k < l.length → V3 (l.getD k zF).C = true) {o : List UInt8} (ho : o.length ≤ 1000000) :
    ∃ p:List UInt8,qi2 N R s23 s24 l ((l.length:Nat):Int) o o.length 0=some (p,p.length,((l.length:Nat):Int),false)∧p.length≤o.length + 221 * l.length:=by
 have key:∃ y,qV (qby N R s23 s24 l ((l.length:Nat):Int)) some N (o,o.length,((0:Nat):Int))=some y∧∃ p:List UInt8,y=(p,p.length,((l.length:Nat):Int),false)∧p.length≤o.length + 221 * l.length:=by
  refine Xg (I:=fun v=>∃ (k:Nat) (p:List UInt8),k≤l.length∧v=(p,p.length,(k:Int))∧p.length≤o.length + 221 * k) (fun v=>l.length - v.2.2.toNat) ?_ N _ ⟨0,o,Nat.zero_le _,rfl,by omega⟩ (by have:=big N; simp; omega)
  rintro v ⟨k,p,hk,rfl,hp⟩
  by_cases h:k < l.length
  ·left
   obtain ⟨r,er,hr⟩:=qWJ (N:=N) (hc k h)
   have h64:qw ((k:Int) + 1):=by unfold qw; omega
   have l1:(p++[UInt8.ofNat (IntKind.u8.wrap (qc.No (l.getD k zF))).toNat]).length=p.length + 1:=by rw [List.length_append]; rfl
   have l2:((p++[UInt8.ofNat (IntKind.u8.wrap (qc.No (l.getD k zF))).toNat])++r.1).length=p.length + 1 + r.1.length:=by rw [List.length_append,l1]
   refine ⟨((p++[UInt8.ofNat (IntKind.u8.wrap (qc.No (l.getD k zF))).toNat])++r.1,((p++[UInt8.ofNat (IntKind.u8.wrap (qc.No (l.getD k zF))).toNat])++r.1).length,((k + 1:Nat):Int)),?_,⟨k + 1,_,h,rfl,by rw [l2]; omega⟩,by simp only [Int.toNat_natCast]; omega⟩
   unfold qby
   rw [qI,dec_lt h,cond_true,run_bind,zO (d:=zF) h,Option.bind_some,run_bind,er,Option.bind_some,qX,qj (qlH _),qX,qj (qhx (by rw [l1]; omega)),qX,qj (qhx (by rw [l2]; omega)),qX,qj h64,qP,zf]
  ·right
   obtain rfl:k=l.length:=by omega
   refine ⟨(p,p.length,((l.length:Nat):Int),false),_,?_,rfl,p,rfl,hp⟩
   unfold qby
   rw [qI,zn (Nat.lt_irrefl _),cond_false,qP]
 obtain ⟨y,e,p,rfl,hp⟩:=key
 exact ⟨p,e,hp⟩
theorem qWG {R : List qa} (h10 : R.length ≤ 10) (hr : ∀ k, k < R.length → zZ (R.getD k zR) = true) {o : List UInt8} (ho : o.length ≤ 10) :
    ∃ p:List UInt8,qlb N R ((R.length:Nat):Int) o o.length 0=some (p,p.length,((R.length:Nat):Int),false)∧p.length≤30000:=by
 have key:∃ y,qV (qc2 N R ((R.length:Nat):Int)) some N (o,o.length,((0:Nat):Int))=some y∧∃ p:List UInt8,y=(p,p.length,((R.length:Nat):Int),false)∧p.length≤30000:=by
  refine Xg (I:=fun v=>∃ (k:Nat) (p:List UInt8),k≤R.length∧v=(p,p.length,(k:Int))∧p.length≤10 + 2000 * k) (fun v=>R.length - v.2.2.toNat) ?_ N _ ⟨0,o,Nat.zero_le _,rfl,by omega⟩ (by have:=big N; simp; omega)
  rintro v ⟨k,p,hk,rfl,hp⟩
  by_cases h:k < R.length
  ·left
   have hrec:=hr k h
   have h8:=J_ hrec
   obtain ⟨s,es,hs⟩:=qVj (N:=N) (R.getD k zR).qB
   obtain ⟨w,ew,hw⟩:=qpI (N:=N) (wrap64_in (((R.getD k zR).F.length:Nat):Int)).1 (wrap64_in (((R.getD k zR).F.length:Nat):Int)).2
   have h64:qw ((k:Int) + 1):=by unfold qw; omega
   have l1:(p++(R.getD k zR).ID.toList).length=p.length + 16:=by rw [List.length_append]; simp
   have l2:(p++(R.getD k zR).ID.toList++s.1).length=p.length + 16 + s.1.length:=by rw [List.length_append,l1]
   have l3:(p++(R.getD k zR).ID.toList++s.1++w).length=p.length + 16 + s.1.length + w.length:=by rw [List.length_append,l2]
   obtain ⟨q,eq,hq⟩:=qVS (N:=N) (l:=(R.getD k zR).F) (R:=R) (s23:=((R.length:Nat):Int)) (s24:=(k:Int)) h8 (fun j hj=>(Jv.1 ((Vl.1 hrec).2.2 j hj)).2.2.1) (o:=p++(R.getD k zR).ID.toList++s.1++w) (by rw [l3]; omega)
   refine ⟨(q,q.length,((k + 1:Nat):Int)),?_,⟨k + 1,q,h,rfl,by rw [l3] at hq; omega⟩,by simp only [Int.toNat_natCast]; omega⟩
   unfold qc2
   rw [qI,dec_lt h,cond_true,run_bind,zO (d:=zR) h,Option.bind_some,run_bind,es,Option.bind_some,qX,qj (qhx (by rw [l1]; omega)),qX,qj (qhx (by rw [l2]; omega))]
   show Option.bind (Ve N (IntKind.u64.wrap (((R.getD k zR).F.length:Nat):Int))) _=_
   rw [ew,Option.bind_some,qX,qj rfl,qX,qj (qhx (by rw [l3]; omega)),run_bind,eq,Option.bind_some,qX,qj h64,qP,zf]
  ·right
   obtain rfl:k=R.length:=by omega
   refine ⟨(p,p.length,((R.length:Nat):Int),false),_,?_,rfl,p,rfl,by omega⟩
   unfold qc2
   rw [qI,zn (Nat.lt_irrefl _),cond_false,qP]
 obtain ⟨y,e,p,rfl,hp⟩:=key
 exact ⟨p,e,hp⟩
def vP (N:Nat) (b:qb):Prop:=b.R.length < N∧b.R.length≤4611686018427387904∧∀ k,k < b.R.length→(b.R.getD k zR).F.length < N∧(b.R.getD k zR).F.length≤4611686018427387904
theorem qfk {b:qb} (h:vP N b):We N b=some (zw b):=qXv h.1 h.2.1 h.2.2
theorem qW0 {b:qb} (hf:vP N b) (h:zw b=true):∃ p:List UInt8,qnb N b=some (p,true)∧p.length≤30000:=by
 have hb:=XR.1 h
 obtain ⟨w,ew,hw⟩:=qpI (N:=N) (wrap64_in ((b.R.length:Nat):Int)).1 (wrap64_in ((b.R.length:Nat):Int)).2
 obtain ⟨p,ep,hp⟩:=qWG (N:=N) hb.2 (fun k hk=>(hb.1 k hk).1) hw
 refine ⟨p,?_,hp⟩
 unfold qnb qn6
 rw [run_bind,qfk hf,h,Option.bind_some,qI,Bool.not_true,cond_false]
 show Option.bind (Ve N (IntKind.u64.wrap ((b.R.length:Nat):Int))) _=_
 rw [ew,Option.bind_some,run_bind,ep,Option.bind_some,qX,qj rfl,qP]
theorem qYg {b:qb} (hf:vP N b) (h:zw b=true):∃ D:Vector UInt8 32,qbz N b=some D:=by
 obtain ⟨p,e,hp⟩:=qW0 hf h
 refine ⟨zJ p,?_⟩
 unfold qbz qg8
 have hs:ZZ N p=some (zJ p):=qIT (by omega) (by have:=big N; omega)
 rw [run_bind,e,Option.bind_some,run_bind]
 show Option.bind (ZZ N p) _=_
 rw [hs,Option.bind_some,qP]
theorem qho {l:List UInt8} (h:l.length≤50000):qav N l=some (zJ l):=by
 unfold qav qp7
 rw [qX,qj (show qmS l.length by unfold qmS; omega),run_bind,qIT (by omega) (by have:=big N; omega),Option.bind_some,qP]
def qAx (l:List UInt8) (k:Nat) (s:Int×Int):Int×Int:=(Ys .u16 s.1 (IntKind.u16.wrap (((l.getD k 0).toNat:Nat):Int)),Ys .u16 s.2 (Ys .u16 s.1 (IntKind.u16.wrap (((l.getD k 0).toNat:Nat):Int))))
def qWi (l:List UInt8):Int:=uOr .u32 (qfx .u32 (IntKind.u32.wrap (Jn (qAx l) l.length 0 (0,0)).2) 16) (IntKind.u32.wrap (Jn (qAx l) l.length 0 (0,0)).1)
theorem qWn {l:List UInt8} (h:l.length≤50000):qrG N l=some (qWi l):=by
 have key:qnP N l ((l.length:Nat):Int) 0 0 0=some ((Jn (qAx l) l.length 0 (0,0)).1,(Jn (qAx l) l.length 0 (0,0)).2,((l.length:Nat):Int),false):=by
  refine (jU (σ:=Int×Int) (B:=qen N l ((l.length:Nat):Int)) (g:=some) (at_:=fun k s=>(s.1,s.2,(k:Int))) (I:=fun _ _=>True) (f:=qAx l) (n:=l.length)
   (fin:=fun s=>(s.1,s.2,((l.length:Nat):Int),false)) (fun k s hk _=>⟨?_,trivial⟩) (fun s _=>?_) N 0 (0,0) trivial (Nat.zero_le _) (by have:=big N; omega))
  ·have h64:qw ((k:Int) + 1):=by unfold qw; omega
   unfold qen
   rw [qI,dec_lt hk,cond_true,run_bind,zO (d:=0) hk,Option.bind_some]
   show chk (qw ((k:Int) + 1)) _=_
   rw [qj h64,zf]
   rfl
  ·unfold qen
   rw [qI,zn (Nat.lt_irrefl _),cond_false,qP]
 unfold qrG qpZ qtj qn_
 rw [run_bind,key,Option.bind_some,run_bind,qX,qj (by omega)]
 rfl
def qkL (l:List UInt8):zm:=zm.mk (qWi l) (zJ l)
theorem qYk {l:List UInt8} (h:l.length≤50000):qqs N l=some (qkL l):=by
 unfold qqs qqh
 rw [run_bind,qWn h,Option.bind_some,run_bind,qho h,Option.bind_some,qP]
 rfl
def qvY:Nat→List UInt8→List zm
 | 0,_=>[]
 | m + 1,l=>qkL (l.take 8)::qvY m (l.drop 8)
theorem qyI:∀ (m:Nat) (l:List UInt8),(qvY m l).length=m
 | 0,_=>rfl
 | m + 1,l=>by unfold qvY; rw [List.length_cons,qyI m]
def qyC (l:List UInt8):List zm:=if l.length < 24 then [] else qvY (l.length / 8) l
theorem qRC:∀ (m n:Nat) (l:List UInt8) (acc:List zm),l.length / 8=m→l.length≤50000→acc.length + m≤50000→m < n→∃ r,qV (qfF N) some n (acc,l)=some (acc++qvY m l,r,false)
 | 0,n + 1,l,acc,hm,_,_,_=>by
  have d:decide ((8:Int)≤((l.length:Nat):Int))=false:=decide_eq_false (by omega)
  refine ⟨l,?_⟩
  rw [jb (x:=(acc,l,false)) (by unfold qfF; rw [qI,d,cond_false,qP]) n]
  show some (acc,l,false)=some (acc++[],l,false)
  rw [List.append_nil]
 | m + 1,n + 1,l,acc,hm,hl,ha,hn=>by
  have d:decide ((8:Int)≤((l.length:Nat):Int))=true:=decide_eq_true (by omega)
  have c1:(0:Int)≤0∧(0:Int)≤8∧(8:Int)≤((l.length:Nat):Int):=by omega
  have c2:(0:Int)≤8∧(8:Int)≤((l.length:Nat):Int):=by omega
  have ht:(l.take 8).length≤50000:=by rw [List.length_take]; omega
  have hacc:(acc++[qkL (l.take 8)]).length=acc.length + 1:=by rw [List.length_append]; rfl
  have cav:jG acc.length acc.length (acc++[qkL (l.take 8)]).length 36:=⟨rfl,by rw [hacc]; unfold zi; omega⟩
  obtain ⟨r,e⟩:=qRC m n (l.drop 8) (acc++[qkL (l.take 8)]) (by rw [List.length_drop]; omega) (by rw [List.length_drop]; omega) (by rw [hacc]; omega) (by omega)
  refine ⟨r,?_⟩
  rw [JM (v':=(acc++[qkL (l.take 8)],l.drop 8)) (by
   unfold qfF
   rw [qI,d,cond_true,qX,qj c1,run_bind,List.drop_zero,qYk ht,Option.bind_some,qX,qj cav,qX,qj c2,qP]) n,e]
  show some (acc++[qkL (l.take 8)]++qvY m (l.drop 8),r,false)=some (acc++qvY (m + 1) l,r,false)
  rw [List.append_assoc]
  rfl
 | _,0,_,_,_,_,_,hn=>by omega
theorem qRx {l:List UInt8} (h:l.length≤50000):qv_ N l=some (qyC l):=by
 unfold qv_ quU qyC
 by_cases h24:l.length < 24
 ·have d:decide (((l.length:Nat):Int) < 24)=true:=decide_eq_true (by omega)
  rw [qI,d,cond_true,qP,if_pos h24]
 ·have d:decide (((l.length:Nat):Int) < 24)=false:=decide_eq_false (by omega)
  obtain ⟨r,e⟩:=qRC (N:=N) (l.length / 8) N l [] rfl h (by simp; omega) (by have:=big N; omega)
  have e':zY [(([]:List zm).length,0)] (qrD N [] l)=some ([]++qvY (l.length / 8) l,r,false):=(zo rfl).trans e
  rw [qI,d,cond_false,if_neg h24,run_bind,e',Option.bind_some,qX,qj rfl,qP]
  rfl
def Z6 (f:qc):qv:=qv.mk f.No f.C.S ((f.C.V.length:Nat):Int) (zJ f.C.V) (qyC f.C.V)
def jj (r:qa):qp:=qp.mk r.ID r.qB (r.F.map Z6)
theorem qYK {l : List qc} (h8 : l.length ≤ 8) (hc : ∀ k, k < l.length → V3 (l.getD k zF).C = true) (o1 o2 : List qp) (o3 o4 : Vector UInt8 32) (o5 : Vector UInt8 16) (o6 : qd) (R : List qa) (s20 s21 : Int) :
    qcS N o1 o2 o3 o4 o5 o6 R s20 s21 l ((l.length:Nat):Int) [] 0=some (l.map Z6,((l.length:Nat):Int),false):=by
 have key:∃ y,qV (K_ N o1 o2 o3 o4 o5 o6 R s20 s21 l ((l.length:Nat):Int)) some N ([],((0:Nat):Int))=some y∧y=(l.map Z6,((l.length:Nat):Int),false):=by
  refine Xg (I:=fun v=>∃ k:Nat,k≤l.length∧v=((l.take k).map Z6,(k:Int))) (fun v=>l.length - v.2.toNat) ?_ N _ ⟨0,Nat.zero_le _,rfl⟩ (by have:=big N; simp; omega)
  rintro v ⟨k,hk,rfl⟩
  by_cases h:k < l.length
  ·left
   have hV:(l.getD k zF).C.V.length≤50000:=by have:=qhd (hc k h); omega
   have h64:qw ((k:Int) + 1):=by unfold qw; omega
   have el:(l.take (k + 1)).map Z6=(l.take k).map Z6++[Z6 (l.getD k zF)]:=by
    rw [List.take_succ_eq_append_getElem h,List.map_append,List.getD_eq_getElem?_getD,List.getElem?_eq_getElem h]; rfl
   have hlen:((l.take k).map Z6++[Z6 (l.getD k zF)]).length≤8:=by rw [← el,List.length_map,List.length_take]; omega
   have cav:jG ((l.take k).map Z6).length ((l.take k).map Z6).length ((l.take k).map Z6++[Z6 (l.getD k zF)]).length 88:=⟨rfl,by unfold zi; omega⟩
   refine ⟨((l.take (k + 1)).map Z6,((k + 1:Nat):Int)),?_,⟨k + 1,h,rfl⟩,by simp only [Int.toNat_natCast]; omega⟩
   unfold K_
   rw [qI,dec_lt h,cond_true,run_bind,zO (d:=zF) h,Option.bind_some,run_bind,qho hV,Option.bind_some,run_bind,qRx hV,Option.bind_some,qX,el]
   show chk (jG ((l.take k).map Z6).length ((l.take k).map Z6).length ((l.take k).map Z6++[Z6 (l.getD k zF)]).length 88) _=_
   rw [qj cav,qX,qj h64,qP,zf]
   rfl
  ·right
   obtain rfl:k=l.length:=by omega
   refine ⟨(l.map Z6,((l.length:Nat):Int),false),_,?_,rfl,rfl⟩
   unfold K_
   rw [qI,zn (Nat.lt_irrefl _),cond_false,qP,List.take_of_length_le (Nat.le_refl _)]
 obtain ⟨y,e,rfl⟩:=key
 exact e
theorem qYS {R : List qa} (h10 : R.length ≤ 10) (hr : ∀ k, k < R.length → zZ (R.getD k zR) = true) (o1 : List qp) (o3 o4 : Vector UInt8 32) (ho : o1 = []) :
    qcV N o1 o3 o4 R ((R.length:Nat):Int) [] 0=some (R.map jj,((R.length:Nat):Int),false):=by
 have key:∃ y,qV (K3 N o1 o3 o4 R ((R.length:Nat):Int)) some N ([],((0:Nat):Int))=some y∧y=(R.map jj,((R.length:Nat):Int),false):=by
  refine Xg (I:=fun v=>∃ k:Nat,k≤R.length∧v=((R.take k).map jj,(k:Int))) (fun v=>R.length - v.2.toNat) ?_ N _ ⟨0,Nat.zero_le _,rfl⟩ (by have:=big N; simp; omega)
  rintro v ⟨k,hk,rfl⟩
  by_cases h:k < R.length
  ·left
   have hrec:=hr k h
   have h64:qw ((k:Int) + 1):=by unfold qw; omega
   have el:(R.take (k + 1)).map jj=(R.take k).map jj++[jj (R.getD k zR)]:=by
    rw [List.take_succ_eq_append_getElem h,List.map_append,List.getD_eq_getElem?_getD,List.getElem?_eq_getElem h]; rfl
   have hlen:((R.take k).map jj++[jj (R.getD k zR)]).length≤10:=by rw [← el,List.length_map,List.length_take]; omega
   have cav:jG ((R.take k).map jj).length ((R.take k).map jj).length ((R.take k).map jj++[jj (R.getD k zR)]).length 56:=⟨rfl,by unfold zi; omega⟩
   have e9:=qYK (N:=N) (J_ hrec) (fun j hj=>(Jv.1 ((Vl.1 hrec).2.2 j hj)).2.2.1) o1 ((R.take k).map jj) o3 o4 (R.getD k zR).ID (R.getD k zR).qB R ((R.length:Nat):Int) (k:Int)
   refine ⟨((R.take (k + 1)).map jj,((k + 1:Nat):Int)),?_,⟨k + 1,h,rfl⟩,by simp only [Int.toNat_natCast]; omega⟩
   unfold K3
   rw [qI,dec_lt h,cond_true,run_bind,zO (d:=zR) h,Option.bind_some,run_bind]
   rw [show zY [(o1.length,o1.length),(((R.take k).map jj,(k:Int)).1.length,((R.take k).map jj,(k:Int)).1.length),(([]:List qv).length,0)] (qcS N o1 ((R.take k).map jj,(k:Int)).1 o3 o4 (qa.ID (R.getD k zR)) (qa.qB (R.getD k zR)) R ((R.length:Nat):Int) ((R.take k).map jj,(k:Int)).2 (qa.F (R.getD k zR)) (((qa.F (R.getD k zR)).length:Nat):Int) [] 0)=some ((R.getD k zR).F.map Z6,(((R.getD k zR).F.length:Nat):Int),false) from (zo rfl).trans ((zo rfl).trans ((zo rfl).trans e9)),Option.bind_some,qX,qj rfl,qX,el]
   show chk (jG ((R.take k).map jj).length ((R.take k).map jj).length ((R.take k).map jj++[jj (R.getD k zR)]).length 56) _=_
   rw [qj cav,qX,qj h64,qP,zf]
   rfl
  ·right
   obtain rfl:k=R.length:=by omega
   refine ⟨(R.map jj,((R.length:Nat):Int),false),_,?_,rfl,rfl⟩
   unfold K3
   rw [qI,zn (Nat.lt_irrefl _),cond_false,qP,List.take_of_length_le (Nat.le_refl _)]
 obtain ⟨y,e,rfl⟩:=key
 exact e
theorem qYG {b:qb} (hf:vP N b) (h:zw b=false):Yo N b=some (qt.mk (Vector.replicate 32 0) [],false):=by
 unfold Yo qev
 rw [run_bind,qfk hf,h,Option.bind_some,qI,Bool.not_false,cond_true,qX,qj rfl,qP]
theorem qXU {b:qb} (hf:vP N b) (h:zw b=true) {D:Vector UInt8 32} (hD:qbz N b=some D):Yo N b=some (qt.mk D (b.R.map jj),true):=by
 have hb:=XR.1 h
 have e5:=qYS (N:=N) hb.2 (fun k hk=>(hb.1 k hk).1) [] (Vector.replicate 32 0) D rfl
 unfold Yo qev
 rw [run_bind,qfk hf,h,Option.bind_some,qI,Bool.not_true,cond_false,run_bind,hD,Option.bind_some,run_bind]
 rw [show zY [(([]:List qp).length,0),(([]:List qp).length,0)] (qcV N [] (Vector.replicate 32 0) D (qb.R b) (((qb.R b).length:Nat):Int) [] 0)=some (b.R.map jj,((b.R.length:Nat):Int),false) from (zo rfl).trans ((zo rfl).trans e5),Option.bind_some,qX,qj rfl,qP]
end n
end Go.Rx
end
set_option maxRecDepth 100000
noncomputable section
namespace Go.Rx
open Go.Proofs
open Go.Lib (compareBytes)
theorem qML:∀ l:List UInt8,compareBytes l l=0
 | []=>rfl
 | x::l=>by
  unfold compareBytes
  rw [if_neg (UInt8.lt_irrefl x),if_neg (UInt8.lt_irrefl x)]
  exact qML l
theorem qHC:∀ a b c:List UInt8,compareBytes a b < 0→compareBytes b c < 0→compareBytes a c < 0
 | [],[],_,h,_=>by simp [compareBytes] at h
 | [],_::_,[],_,h=>by simp [compareBytes] at h
 | [],_::_,_::_,_,_=>by simp [compareBytes]
 | _::_,[],_,h,_=>by simp [compareBytes] at h
 | _::_,_::_,[],_,h=>by simp [compareBytes] at h
 | x::a,y::b,z::c,h1,h2=>by
  unfold compareBytes at h1 h2 ⊢
  simp only [UInt8.lt_iff_toNat_lt] at h1 h2 ⊢
  by_cases hxy:x.toNat < y.toNat
  ·by_cases hyz:y.toNat < z.toNat
   ·rw [if_pos (by omega)]; decide
   ·rw [if_neg hyz] at h2
    by_cases hzy:z.toNat < y.toNat
    ·rw [if_pos hzy] at h2; simp at h2
    ·rw [if_pos (by omega)]; decide
  ·rw [if_neg hxy] at h1
   by_cases hyx:y.toNat < x.toNat
   ·rw [if_pos hyx] at h1; simp at h1
   ·rw [if_neg hyx] at h1
    by_cases hyz:y.toNat < z.toNat
    ·rw [if_pos (by omega)]; decide
    ·rw [if_neg hyz] at h2
     by_cases hzy:z.toNat < y.toNat
     ·rw [if_pos hzy] at h2; simp at h2
     ·rw [if_neg hzy] at h2
      rw [if_neg (by omega),if_neg (by omega)]
      exact qHC a b c h1 h2
theorem qRX:∀ a b:List UInt8,(compareBytes a b < 0∧compareBytes b a > 0)∨a=b∨(compareBytes b a < 0∧compareBytes a b > 0)
 | [],[]=>.inr (.inl rfl)
 | [],_::_=>.inl ⟨by simp [compareBytes],by simp [compareBytes]⟩
 | _::_,[]=>.inr (.inr ⟨by simp [compareBytes],by simp [compareBytes]⟩)
 | x::a,y::b=>by
  unfold compareBytes
  by_cases h:x < y
  ·have h':¬ y < x:=fun h'=>by rw [UInt8.lt_iff_toNat_lt] at h h'; omega
   rw [if_pos h,if_neg h',if_pos h]
   exact .inl ⟨by omega,by omega⟩
  ·by_cases h':y < x
   ·rw [if_neg h,if_pos h',if_pos h']
    exact .inr (.inr ⟨by omega,by omega⟩)
   ·rw [if_neg h,if_neg h',if_neg h',if_neg h]
    have e:x=y:=by
     apply UInt8.toNat_inj.1
     rw [UInt8.lt_iff_toNat_lt] at h h'; omega
    subst e
    rcases qRX a b with h1 | h1 | h1
    ·exact .inl h1
    ·exact .inr (.inl (by rw [h1]))
    ·exact .inr (.inr h1)
theorem qVu {n:Nat} (h:n < 18446744073709551616):IntKind.u64.wrap ((n:Nat):Int)=((n:Nat):Int):=by
 have:IntKind.u64.wrap (n:Int)=(n:Int) % 18446744073709551616:=by simp [IntKind.wrap,IntKind.bits,IntKind.signed]
 rw [this]; omega
def ltB (a b:List UInt8):Bool:=decide (compareBytes a b < 0)
theorem WH (a:List UInt8):ltB a a=false:=by unfold ltB; rw [qML]; rfl
theorem qu7 {a b c:List UInt8} (h1:ltB a b=true) (h2:ltB b c=true):ltB a c=true:=decide_eq_true (qHC a b c (of_decide_eq_true h1) (of_decide_eq_true h2))
theorem qkl (a b:List UInt8):(ltB a b=true∧ltB b a=false)∨a=b∨(ltB b a=true∧ltB a b=false):=by
 rcases qRX a b with h | h | h
 ·exact .inl ⟨decide_eq_true h.1,decide_eq_false (by omega)⟩
 ·exact .inr (.inl h)
 ·exact .inr (.inr ⟨decide_eq_true h.1,decide_eq_false (by omega)⟩)
theorem qAi:∀ a b:List UInt8,Op.bytesLess a b=ltB a b
 | [],[]=>rfl
 | [],_::_=>rfl
 | _::_,[]=>rfl
 | x::a,y::b=>by
  have ih:=qAi a b
  unfold Op.bytesLess
  rw [ih]
  unfold ltB
  rw [show compareBytes (x::a) (y::b)=if x < y then -1 else if y < x then 1 else compareBytes a b from rfl]
  by_cases h:x < y
  ·rw [if_pos h,decide_eq_true h]; rfl
  ·rw [if_neg h,decide_eq_false h,Bool.false_or]
   by_cases h':y < x
   ·rw [if_pos h']
    have:(x == y)=false:=by
     rw [beq_eq_false_iff_ne]
     intro e; subst e; exact h h'
    rw [this]; rfl
   ·have e : x = y := by
       apply UInt8.toNat_inj.1
       rw [UInt8.lt_iff_toNat_lt] at h h'; omega
    subst e
    rw [if_neg h]
    simp
theorem qwd (a b:Vector UInt8 16):lbB a b=ltB a.toList b.toList:=by
 unfold lbB
 by_cases h:a=b
 ·subst h; rw [decide_eq_true rfl,WH]; rfl
 ·rw [decide_eq_false h]; rfl
def ltD (a b:Vector UInt8 32):Bool:=ltB a.toList b.toList
theorem eqD (a b:Vector UInt8 32):eqE (.ba 32) a b=decide (a=b):=Bool.eq_iff_iff.2 ((Q2 (.ba 32) a b).trans (decide_eq_true_iff (p:=(a:Vector UInt8 32)=b)).symm)
def j8 (a b:qe):Bool:=if a.S=b.S then (if zJ a.V=zJ b.V then ltB a.V b.V else ltD (zJ a.V) (zJ b.V)) else slB a.S b.S
def cJ (a b:qe):qe:=if j8 a b=true then b else a
def mxS (a b:qd):qd:=if slB a b=true then b else a
theorem Y8 (a b:qd):(slB a b=true∧slB b a=false)∨a=b∨(slB b a=true∧slB a b=false):=by
 obtain ⟨a1,a2⟩:=a
 obtain ⟨b1,b2⟩:=b
 unfold slB
 simp only [decide_eq_true_iff,decide_eq_false_iff_not,Prod.mk.injEq]
 omega
theorem Q6 (a:qd):slB a a=false:=by
 unfold slB
 exact decide_eq_false (by omega)
theorem KI {a b c:qd} (h1:slB a b=true) (h2:slB b c=true):slB a c=true:=by
 unfold slB at *
 rw [decide_eq_true_iff] at *
 omega
end Go.Rx
end
set_option maxRecDepth 100000
noncomputable section
namespace Go.Rx
open Go.Proofs
theorem qVG {α:Type} {x:Option α} [Decidable True]:chk True x=x:=if_pos trivial
theorem qJz {n:Nat} [Decidable (((n:Nat):Int) < ((n:Nat):Int))]:decide (((n:Nat):Int) < ((n:Nat):Int))=false:=decide_eq_false (Int.lt_irrefl _)
theorem qRm {l:List zm} (h:l.length≤1000000):JB l=some ():=by
 unfold JB
 cases l with
 | nil=>kernel_rfl
 | cons x r=>
  show qeD (x::r)=_
  unfold qeD qcx
  have h2:jG ([]:List zm).length 0 ([]++x::r).length 36:=⟨rfl,by rw [List.nil_append]; unfold zi; omega⟩
  simp only [Tree.run,qj h2,List.isEmpty_cons,qVG]
theorem qQf {l:List qv} (h:l.length≤1000000):Zw l=some ():=by
 unfold Zw
 cases l with
 | nil=>kernel_rfl
 | cons x r=>
  show qcc (x::r)=_
  unfold qcc KN
  have h2:jG ([]:List qv).length 0 ([]++x::r).length 88:=⟨rfl,by rw [List.nil_append]; unfold zi; omega⟩
  simp only [Tree.run,qj h2,List.isEmpty_cons,qVG]
theorem qPM {α:Type} {l:List α} {k:Nat} {d:α} (h:k < l.length):l.set k (l.getD k d)=l:=by
 rw [List.getD_eq_getElem?_getD,List.getElem?_eq_getElem h]; simp
section n
variable {N:Nat} [ZB N]
theorem qXG {x:qp} (h12:x.F.length≤12) (hB:∀ j,j < x.F.length→(x.F.getD j zE).B.length≤40):qf5 N x=some x:=by
 unfold qf5 qgZ
 have key:qgq N [] x.ID x.qB x.F.length (Vector.replicate 16 0) (qd.mk 0 0) ((x.F.length:Nat):Int) x.F 0=some (x.F,((x.F.length:Nat):Int),false):=by
  refine (jU (σ:=Unit) (B:=YP N [] x.ID x.qB x.F.length (Vector.replicate 16 0) (qd.mk 0 0) ((x.F.length:Nat):Int)) (g:=some) (at_:=fun k _=>(x.F,(k:Int))) (I:=fun _ _=>True) (f:=fun _ s=>s) (n:=x.F.length)
   (fin:=fun _=>(x.F,((x.F.length:Nat):Int),false)) (fun k s hk _=>⟨?_,trivial⟩) (fun s _=>?_) N 0 () trivial (Nat.zero_le _) (by have:=big N; omega))
  ·unfold YP
   have c1:(0:Int)≤(k:Int)∧(k:Int) < ((x.F.length:Nat):Int):=by omega
   have h64:qw ((k + 1:Nat):Int):=qwz (by omega)
   have hb:=hB k hk
   simp only [Tree.run,dec_lt hk,cond_true,qj c1,Int.toNat_natCast,qlj (d:=zE) rfl hk,Option.bind_some,qRm (show (x.F.getD k zE).B.length≤1000000 by omega),zf,qj h64,List.nil_append]
   have e:qv.mk (x.F.getD k zE).No (x.F.getD k zE).S (x.F.getD k zE).Len (x.F.getD k zE).D (x.F.getD k zE).B=x.F.getD k zE:=rfl
   rw [e,qPM hk]
  ·unfold YP
   simp only [Tree.run,qJz,cond_false]
 simp only [Tree.run,qQf (show x.F.length≤1000000 by omega),Option.bind_some,List.nil_append,List.length_nil,zo,qhR,key,qVG]
 rfl
def qyx (l:List qp) (id:Vector UInt8 16):Option Nat:=Qm (fun k=>decide ((l.getD k zL).ID=id)) l.length 0
def quW (l:List qv) (no:Int):Option Nat:=Qm (fun k=>decide ((l.getD k zE).No=no)) l.length 0
def qNP:Option Nat→Int
 | some i=>(i:Int)
 | none=>-1
def QF (m:qt) (id:Vector UInt8 16):qp×Bool:=match qyx m.L id with
 | some i=>(m.L.getD i zL,true)
 | none=>(zL,false)
theorem qTf {l:List qp} {id:Vector UInt8 16} (h:l.length≤600):VW N id l=some (qNP (qyx l id)):=by
 have key:=qeW (B:=Qg N id l ((l.length:Nat):Int)) (g:=some) (p:=fun k=>decide ((l.getD k zL).ID=id)) (n:=l.length) (hit:=fun k=>.inl (k:Int)) (fin:=.inr (((l.length:Nat):Int),false)) (fun k hk=>by
  unfold Qg qfE qdw
  have h64:qw ((k + 1:Nat):Int):=qwz (by omega)
  simp only [Tree.run,dec_lt hk,cond_true,zO (d:=zL) hk,Option.bind_some,zf,qj h64,qDS]
  cases decide ((l.getD k zL).ID=id)<;>rfl) (by
  unfold Qg
  simp only [Tree.run,qJz,cond_false]) N 0 (Nat.zero_le _) (by have:=big N; omega)
 have e:Wm N id l ((l.length:Nat):Int) 0=qV (Qg N id l ((l.length:Nat):Int)) some N ((0:Nat):Int):=rfl
 unfold VW Ws
 simp only [Tree.run]
 rw [e,key,Nat.sub_zero]
 unfold qyx
 cases Qm (fun k=>decide ((l.getD k zL).ID=id)) l.length 0<;>rfl
theorem qdK {p:Nat→Bool} {n i:Nat} (h:Qm p n 0=some i):i < n∧p i=true:=by
 obtain ⟨h1,_,h2,_⟩:=qoh h
 exact ⟨by omega,h1⟩
section f
variable {m:qt} (hf:qHp m=true)
include hf
theorem qJq (id:Vector UInt8 16):qaA N m id=some (QF m id):=by
 obtain ⟨h14,hF⟩:=qwi.1 hf
 unfold qaA qf3 QF
 simp only [Tree.run,qTf (show m.L.length≤600 by omega),Option.bind_some]
 cases e:qyx m.L id with
 | none=>rfl
 | some i=>
  have hi:=(qdK e).1
  have hx:=hF i hi
  have hn:¬ (((i:Nat):Int) < 0):=by omega
  show (bif decide (((i:Nat):Int) < 0) then _ else _)=_
  rw [decide_eq_false hn]
  show ((zl _ ((i:Nat):Int)).bind _)=_
  simp only [ zO (d:=zL) hi,Option.bind_some,qXG hx.1 hx.2]
theorem qPF (id:Vector UInt8 16):(QF m id).1.F.length≤12∧∀ j,j < (QF m id).1.F.length→((QF m id).1.F.getD j zE).B.length≤40:=by
 obtain ⟨h14,hF⟩:=qwi.1 hf
 unfold QF
 cases e:qyx m.L id with
 | none=>exact ⟨Nat.zero_le _,fun j hj=>absurd hj (Nat.not_lt_zero _)⟩
 | some i=>exact hF i (qdK e).1
end f
end n
end Go.Rx
end
set_option maxRecDepth 100000
noncomputable section
namespace Go.Rx
open Go.Proofs
section n
variable {N:Nat} [ZB N]
theorem qWW (r:qa):∃ b,ZM N r=some b:=by
 unfold ZM qbF
 by_cases h:r.F.length≤12
 ·have d:decide ((12:Int) < ((r.F.length:Nat):Int))=false:=decide_eq_false (by omega)
  have key:qa5 N r 0=some (if vm (fun k=>decide ((r.F.getD k zF).C.V.length≤300)) r.F.length then .inr (((r.F.length:Nat):Int),false) else .inl ()):=by
   refine XT (B:=V2 N r) (g:=some) (q:=fun k=>decide ((r.F.getD k zF).C.V.length≤300)) (fun k hk=>?_) ?_ (by have:=big N; omega)
   ·unfold V2
    have e:decide ((300:Int) < (((r.F.getD k zF).C.V.length:Nat):Int))=!decide ((r.F.getD k zF).C.V.length≤300):=qTE (c:=300)
    rw [qI,dec_lt hk,cond_true,run_bind,zO (d:=zF) hk,Option.bind_some,qI,qP,e,qX,qj (show qw ((k:Int) + 1) by unfold qw; omega),qP,zf]
    cases decide ((r.F.getD k zF).C.V.length≤300)<;>rfl
   ·unfold V2
    rw [qI,zn (Nat.lt_irrefl _),cond_false,qP]
  rw [qI,d,cond_false,run_bind,key,Option.bind_some]
  cases vm (fun k=>decide ((r.F.getD k zF).C.V.length≤300)) r.F.length
  ·exact ⟨_,rfl⟩
  ·exact ⟨_,rfl⟩
 ·have d:decide ((12:Int) < ((r.F.length:Nat):Int))=true:=decide_eq_true (by omega)
  exact ⟨false,by rw [qI,d,cond_true,qP]⟩
theorem qMN (b:qb):∃ x,Wc N b=some x:=by
 unfold Wc qbV
 by_cases h:b.R.length≤14
 ·have d:decide ((14:Int) < ((b.R.length:Nat):Int))=false:=decide_eq_false (by omega)
  have key:qbd N b 0=some (if vm (fun k=>(ZM N (b.R.getD k zR)).getD false) b.R.length then .inr (((b.R.length:Nat):Int),false) else .inl ()):=by
   refine XT (B:=VJ N b) (g:=some) (q:=fun k=>(ZM N (b.R.getD k zR)).getD false) (fun k hk=>?_) ?_ (by have:=big N; omega)
   ·obtain ⟨x,e⟩:=qWW (N:=N) (b.R.getD k zR)
    unfold VJ
    rw [qI,dec_lt hk,cond_true,run_bind,zO (d:=zR) hk,Option.bind_some,run_bind,e,Option.bind_some,qI,qP,qX,qj (show qw ((k:Int) + 1) by unfold qw; omega),qP,zf]
    cases x<;>rfl
   ·unfold VJ
    rw [qI,zn (Nat.lt_irrefl _),cond_false,qP]
  rw [qI,d,cond_false,run_bind,key,Option.bind_some]
  cases vm (fun k=>(ZM N (b.R.getD k zR)).getD false) b.R.length
  ·exact ⟨_,rfl⟩
  ·exact ⟨_,rfl⟩
 ·have d:decide ((14:Int) < ((b.R.length:Nat):Int))=true:=decide_eq_true (by omega)
  exact ⟨false,by rw [qI,d,cond_true,qP]⟩
end n
theorem Wh {α β:Type} {f:α→β} {l:List α} {k:Nat} {d:α} {e:β} (h:k < l.length):(l.map f).getD k e=f (l.getD k d):=by
 rw [List.getD_eq_getElem?_getD,List.getD_eq_getElem?_getD,List.getElem?_map,List.getElem?_eq_getElem h]; rfl
theorem qVO {l:List UInt8} (h:l.length≤200):(qyC l).length≤40:=by
 unfold qyC
 split
 ·exact Nat.zero_le _
 ·rw [qyI]; omega
theorem qVv {b:qb} (h:zw b=true):(b.R.map jj).length≤10∧∀ k,k < (b.R.map jj).length→((b.R.map jj).getD k zL).F.length≤8∧∀ j,j < ((b.R.map jj).getD k zL).F.length→(((b.R.map jj).getD k zL).F.getD j zE).B.length≤40:=by
 have hb:=XR.1 h
 rw [List.length_map]
 refine ⟨hb.2,fun k hk=>?_⟩
 have hrec:=(hb.1 k hk).1
 rw [Wh (d:=zR) hk]
 have e:(jj (b.R.getD k zR)).F=(b.R.getD k zR).F.map Z6:=rfl
 rw [e,List.length_map]
 refine ⟨J_ hrec,fun j hj=>?_⟩
 rw [Wh (d:=zF) hj]
 exact qVO (qhd (Jv.1 ((Vl.1 hrec).2.2 j hj)).2.2.1)
end Go.Rx
end
set_option maxRecDepth 100000
noncomputable section
namespace Go.Rx
open Go.Proofs
def qg1 (l:List qa) (id:Vector UInt8 16):Option Nat:=Qm (fun k=>decide ((l.getD k zR).ID=id)) l.length 0
def qiy (l:List qc) (no:Int):Option Nat:=Qm (fun k=>decide ((l.getD k zF).No=no)) l.length 0
def recAt (b:qb) (id:Vector UInt8 16):qa×Bool:=match qg1 b.R id with
 | some i=>(b.R.getD i zR,true)
 | none=>(zR,false)
def cellAt (r:qa) (no:Int):qe×Bool:=match qiy r.F no with
 | some i=>((r.F.getD i zF).C,true)
 | none=>(qe.mk zSt [],false)
abbrev jY (D:Vector UInt8 32) (b:qb):qt:=qt.mk D (b.R.map jj)
theorem qYf {V:List UInt8}:(((qyC V).length:Nat):Int)=blk ((V.length:Nat):Int):=by
 unfold qyC blk
 by_cases h:V.length < 24
 ·rw [if_pos h,if_pos (by omega)]; rfl
 ·rw [if_neg h,if_neg (by omega),qyI]
  exact (qIm V.length 8).symm
theorem qO0 {r:qa} (h:zZ r=true):qjR (jj r)=true:=by
 have hr:=Vl.1 h
 have e:(jj r).F=r.F.map Z6:=rfl
 refine qR0.2 ⟨fun k hk=>?_,hr.1,?_⟩
 ·rw [e,List.length_map] at hk
  rw [e]
  have hq:=Jv.1 (hr.2.2 k hk)
  unfold qzY
  rw [Wh (d:=zF) hk,Bool.and_eq_true]
  constructor
  ·have hc:=hq.2.2.1
   have hV:=qhd hc
   unfold V3 at hc
   simp only [Bool.and_eq_true] at hc
   have h0:=qA1 h k hk
   unfold qKe
   simp only [Bool.and_eq_true,decide_eq_true_iff]
   refine ⟨?_,?_,?_,?_,?_,hc.2.1,hq.2.2.2⟩
   ·show 0≤(r.F.getD k zF).No; omega
   ·show (r.F.getD k zF).No < 8; exact hq.2.1
   ·show (0:Int)≤(((r.F.getD k zF).C.V.length:Nat):Int); omega
   ·show (((r.F.getD k zF).C.V.length:Nat):Int)≤200; omega
   ·exact qYf
  ·by_cases h0:k=0
   ·rw [decide_eq_true h0]; rfl
   ·have hlt:=hq.1
    rw [if_neg h0] at hlt
    have hk1:k - 1 < r.F.length:=by omega
    rw [Wh (d:=zF) hk1,decide_eq_false h0,Bool.false_or]
    have:decide ((r.F.getD k zF).No≤(r.F.getD (k - 1) zF).No)=false:=decide_eq_false (by omega)
    show (!decide ((r.F.getD k zF).No≤(r.F.getD (k - 1) zF).No))=true
    rw [this]; rfl
 ·rw [e,List.length_map]
  exact hr.2.1.imp (fun h=>by omega) fun h=>h
theorem qQ8 {b:qb} (h:zw b=true) (D:Vector UInt8 32):qEg (jY D b)=true:=by
 have hb:=XR.1 h
 have e:(jY D b).L=b.R.map jj:=rfl
 refine qUG.2 ⟨fun k hk=>?_,?_⟩
 ·rw [e,List.length_map] at hk
  rw [e,Wh (d:=zR) hk]
  refine ⟨qO0 (hb.1 k hk).1,?_⟩
  rcases (hb.1 k hk).2 with h0 | h1
  ·exact .inl h0
  ·by_cases h0:k=0
   ·exact .inl h0
   ·right
    rw [Wh (d:=zR) (show k - 1 < b.R.length by omega)]
    exact h1
 ·rw [e,List.length_map]; exact hb.2
theorem qRH {b:qb} (h:zw b=true) (D:Vector UInt8 32):qHp (jY D b)=true:=by
 have hs:=qVv h
 refine qwi.2 ⟨by show (b.R.map jj).length≤14; omega,fun k hk=>⟨by show ((b.R.map jj).getD k zL).F.length≤12; have:=(hs.2 k hk).1; omega,fun j hj=>(hs.2 k hk).2 j hj⟩⟩
theorem qRZ {b:qb} (id:Vector UInt8 16):qyx (b.R.map jj) id=qg1 b.R id:=by
 unfold qyx qg1
 rw [List.length_map]
 refine qlM fun k _ hk=>?_
 rw [Wh (d:=zR) (by omega)]
 rfl
theorem qWp {r:qa} (no:Int):quW (r.F.map Z6) no=qiy r.F no:=by
 unfold quW qiy
 rw [List.length_map]
 refine qlM fun k _ hk=>?_
 rw [Wh (d:=zF) (by omega)]
 rfl
theorem qON {b:qb} {D:Vector UInt8 32} (id:Vector UInt8 16):QF (jY D b) id=match qg1 b.R id with | some i=>(jj (b.R.getD i zR),true) | none=>(zL,false):=by
 unfold QF
 rw [show (jY D b).L=b.R.map jj from rfl,qRZ]
 cases e:qg1 b.R id with
 | none=>rfl
 | some i=>
  have hi:=(qdK e).1
  show ((b.R.map jj).getD i zL,true)=_
  rw [Wh (d:=zR) hi]
end Go.Rx
end
set_option maxRecDepth 100000
noncomputable section
namespace Go.Rx
open Go.Proofs
theorem qmw {α:Type} {d:α} {l:List α} {k:Nat} (h:k < l.length):l.drop k=l.getD k d::l.drop (k + 1):=by
 rw [List.drop_eq_getElem_cons h,List.getD_eq_getElem?_getD,List.getElem?_eq_getElem h]; rfl
theorem qrg {α:Type} {p:α→Bool} {d:α} {l:List α}:∀ {m k:Nat},k + m=l.length→(Qm (fun j=>p (l.getD j d)) m k).map (fun i=>l.getD i d)=(l.drop k).find? p
 | 0,k,h=>by rw [List.drop_of_length_le (by omega)]; rfl
 | m + 1,k,h=>by
  rw [qmw (d:=d) (by omega),List.find?_cons]
  unfold Qm
  cases hp:p (l.getD k d) with
  | true=>rw [if_pos rfl]; rfl
  | false=>rw [if_neg (by simp)]; exact qrg (by omega)
def cO (l:List qc) (no:Int):Option qe:=(l.find? fun f=>decide (f.No=no)).map fun f=>f.C
theorem qQy {l:List qc} {no:Int}:(qiy l no).map (fun i=>(l.getD i zF).C)=cO l no:=by
 unfold qiy cO
 have:=qrg (p:=fun f:qc=>decide (f.No=no)) (d:=zF) (l:=l) (m:=l.length) (k:=0) (by omega)
 rw [List.drop_zero] at this
 rw [← this,Option.map_map]; rfl
theorem qpt {no:Int}:cO [] no=none:=rfl
theorem ZX {f:qc} {l:List qc} {no:Int}:cO (f::l) no=if f.No=no then some f.C else cO l no:=by
 unfold cO
 rw [List.find?_cons]
 by_cases h:f.No=no
 ·rw [decide_eq_true h,if_pos h]; rfl
 ·rw [decide_eq_false h,if_neg h]
theorem WA {l:List qc} {no:Int} {c:qe} (h:cO l no=some c):∃ f,f∈l∧f.No=no∧f.C=c:=by
 unfold cO at h
 obtain ⟨f,h1,h2⟩:=Option.map_eq_some_iff.1 h
 exact ⟨f,List.mem_of_find?_eq_some h1,of_decide_eq_true (List.find?_some (p:=fun f:qc=>decide (f.No=no)) h1),h2⟩
def jC:Option qe→Option qe→Option qe
 | some x,some y=>some (cJ x y)
 | some x,none=>some x
 | none,y=>y
def WY (g:Int→Option qe) (f:qc) (no:Int):Option qe:=if f.No=no then jC (g no) (some f.C) else g no
theorem qIQ {g:Int→Option qe} {f:qc} {no:Int}:WY g f no=if f.No=no then jC (g no) (some f.C) else g no:=rfl
theorem qC6:∀ {l:List qc} {g:Int→Option qe} {no:Int},(l.map fun f=>f.No).Nodup→l.foldl WY g no=jC (g no) (cO l no)
 | [],g,no,_=>by rw [qpt]; show g no=_; cases g no<;>rfl
 | f::l,g,no,h=>by
  rw [List.map_cons,List.nodup_cons] at h
  rw [List.foldl_cons,qC6 h.2,ZX]
  unfold WY
  by_cases e:f.No=no
  ·rw [if_pos e,if_pos e]
   have:cO l no=none:=by
    cases hc:cO l no with
    | none=>rfl
    | some c=>
     obtain ⟨x,hx,hx2,_⟩:=WA hc
     exact (h.1 (List.mem_map.2 ⟨x,hx,by rw [hx2,e]⟩)).elim
   rw [this]
   cases g no<;>rfl
  ·rw [if_neg e,if_neg e]
def qcm (no:Int) (M:List (Int×qe×Nat)):Option qe:=(fnd (β:=qe) (.i .i64) no M).map (·.1)
theorem qIs {q k:Int} {p:qe} {c:Nat} {M:List (Int×qe×Nat)}:qcm q (Jc (β:=qe) (.i .i64) k p c M).2=if q=k then some p else qcm q M:=by
 have:=@qyX (El (.i .i64)) qe (JN (.i .i64)) k q p c M
 rw [show qcm q (Jc (β:=qe) (.i .i64) k p c M).2=@qzm (El (.i .i64)) qe (JN (.i .i64)) q (@qkJ (El (.i .i64)) qe (JN (.i .i64)) k p c M).2 from rfl,this]
 by_cases h:q=k
 ·rw [if_pos h]; exact if_pos h
 ·rw [if_neg h]; exact if_neg h
def qmR (dead:qd) (k:Nat):Option qe→List qc
 | some c=>if slB dead c.S=true then [qc.mk (k:Int) c] else []
 | none=>[]
def Jz (g:Int→Option qe) (dead:qd):Nat→Nat→List qc
 | 0,_=>[]
 | m + 1,k=>qmR dead k (g (k:Int))++Jz g dead m (k + 1)
theorem qus {g:Int→Option qe} {dead:qd}:∀ {m k:Nat} {s:List qc},Jn (fun k s=>s++qmR dead k (g (k:Int))) m k s=s++Jz g dead m k
 | 0,_,s=>by unfold Jn Jz; rw [List.append_nil]
 | m + 1,k,s=>by
  unfold Jn Jz
  rw [qus,List.append_assoc]
theorem qE8 {dead:qd} {k:Nat} {c:Option qe}:(qmR dead k c).length≤1:=by
 cases c with
 | none=>exact Nat.zero_le _
 | some c=>
  show (if slB dead c.S=true then [qc.mk (k:Int) c] else []).length≤1
  by_cases h:slB dead c.S=true
  ·rw [if_pos h]; exact Nat.le_refl _
  ·rw [if_neg h]; exact Nat.zero_le _
def rJ (a b:qa):qa:=qa.mk a.ID (mxS a.qB b.qB) (Jz (fun no=>jC (cO a.F no) (cO b.F no)) (mxS a.qB b.qB) 8 0)
theorem qJk {r:qa} (h:zZ r=true):(r.F.map fun f=>f.No).Nodup:=by
 have hlt:∀ (d a:Nat),a + d + 1 < r.F.length→(r.F.getD a zF).No < (r.F.getD (a + d + 1) zF).No:=by
  intro d
  induction d with
  | zero=>
   intro a ha
   have:=(Jv.1 ((Vl.1 h).2.2 (a + 0 + 1) ha)).1
   rw [if_neg (by omega),show a + 0 + 1 - 1=a by omega] at this
   exact this
  | succ d ih=>
   intro a ha
   have h1:=ih a (by omega)
   have:=(Jv.1 ((Vl.1 h).2.2 (a + (d + 1) + 1) ha)).1
   rw [if_neg (by omega),show a + (d + 1) + 1 - 1=a + d + 1 by omega] at this
   omega
 rw [List.nodup_iff_pairwise_ne,List.pairwise_iff_getElem]
 intro i j hi hj hij
 rw [List.length_map] at hi hj
 have:=hlt (j - i - 1) i (by omega)
 rw [show i + (j - i - 1) + 1=j by omega,List.getD_eq_getElem?_getD,List.getD_eq_getElem?_getD,List.getElem?_eq_getElem hi,List.getElem?_eq_getElem hj] at this
 rw [List.getElem_map,List.getElem_map]
 show r.F[i].No≠r.F[j].No
 have:r.F[i].No < r.F[j].No:=this
 omega
theorem qB6 {r:qa} (h:zZ r=true):∀ k,k < r.F.length→V3 (r.F.getD k zF).C=true:=fun j hj=>(Jv.1 ((Vl.1 h).2.2 j hj)).2.2.1
def qj3 (g:Int→Option qe):Prop:=∀ no c,g no=some c→c.V.length≤200
theorem qWm (a b:qe):cJ a b=a∨cJ a b=b:=by
 unfold cJ
 split
 ·exact .inr rfl
 ·exact .inl rfl
theorem qOF {g:Int→Option qe} {f:qc} (hg:qj3 g) (hf:f.C.V.length≤200):qj3 (WY g f):=by
 intro no c h
 unfold WY at h
 split at h
 ·cases e:g no with
  | none=>rw [e] at h; obtain rfl:=Option.some.inj h; exact hf
  | some x=>
   rw [e] at h
   obtain rfl:=Option.some.inj h
   rcases qWm x f.C with h1 | h1
   ·rw [h1]; exact hg no x e
   ·rw [h1]; exact hf
 ·exact hg no c h
end Go.Rx
end
set_option maxRecDepth 100000
noncomputable section
namespace Go.Rx
open Go.Proofs
open Go.Lib (compareBytes)
theorem qvz {a b c:Vector UInt8 16} (h1:lbB a b=true) (h2:lbB b c=true):lbB a c=true:=by
 rw [qwd] at *; exact qu7 h1 h2
theorem qWx (a b:Vector UInt8 16):(lbB a b=true∧lbB b a=false)∨a=b∨(lbB b a=true∧lbB a b=false):=by
 rw [qwd,qwd]
 rcases qkl a.toList b.toList with h | h | h
 ·exact .inl h
 ·exact .inr (.inl (Vector.toList_inj.1 h))
 ·exact .inr (.inr h)
end Go.Rx
end
set_option maxRecDepth 100000
noncomputable section
namespace Go.Rx
open Go.Proofs
theorem qli {α:Type} {l:List α} {d:α} {P:α→Prop}:(∀ k,k < l.length→P (l.getD k d))↔∀ x∈l,P x:=by
 constructor
 ·intro h x hx
  obtain ⟨i,hi,rfl⟩:=List.getElem_of_mem hx
  have:=h i hi
  rw [List.getD_eq_getElem?_getD,List.getElem?_eq_getElem hi] at this
  exact this
 ·intro h k hk
  rw [List.getD_eq_getElem?_getD,List.getElem?_eq_getElem hk]
  exact h _ (List.getElem_mem hk)
theorem qmU {α:Type} {R:α→α→Prop} (ht:∀ a b c,R a b→R b c→R a c) {d:α} {l:List α}:(∀ k,k + 1 < l.length→R (l.getD k d) (l.getD (k + 1) d))↔l.Pairwise R:=by
 have gd:∀ k (h:k < l.length),l.getD k d=l[k]:=fun k h=>by rw [List.getD_eq_getElem?_getD,List.getElem?_eq_getElem h]; rfl
 rw [List.pairwise_iff_getElem]
 constructor
 ·intro h i j hi hj hij
  have key:∀ m,∀ hm:i + m + 1 < l.length,R l[i] l[i + m + 1]:=by
   intro m
   induction m with
   | zero=>
    intro hm
    have:=h i hm
    rw [gd i hi,gd (i + 1) hm] at this; exact this
   | succ m ih=>
    intro hm
    have h1:=ih (by omega)
    have h2:=h (i + m + 1) hm
    rw [gd (i + m + 1) (by omega),gd (i + m + 1 + 1) hm] at h2
    exact ht _ _ _ h1 h2
  have:=key (j - i - 1) (by omega)
  have e:i + (j - i - 1) + 1=j:=by omega
  simp only [e] at this
  exact this
 ·intro h k hk
  rw [gd k (by omega),gd (k + 1) hk]
  exact h k (k + 1) (by omega) hk (by omega)
abbrev qkf (l:List qc):Prop:=l.Pairwise fun f g=>f.No < g.No
theorem ve {r:qa}:zZ r=true↔stB r.qB=true∧(r.F≠[]∨r.qB≠zSt)∧qkf r.F∧∀ f∈r.F,0≤f.No∧f.No < 8∧V3 f.C=true∧slB r.qB f.C.S=true:=by
 have hne:r.F.length≠0↔r.F≠[]:=by
  rw [Ne,Ne,List.length_eq_zero_iff]
 constructor
 ·intro h
  have hr:=Vl.1 h
  refine ⟨hr.1,hr.2.1.imp hne.1 id,(qmU (R:=fun f g:qc=>f.No < g.No) (fun a b c h1 h2=>Int.lt_trans h1 h2) (d:=zF)).1 fun k hk=>?_,(qli (d:=zF)).1 fun k hk=>?_⟩
  ·have:=(Jv.1 (hr.2.2 (k + 1) hk)).1
   rw [if_neg (by omega)] at this
   exact this
  ·have h1:=Jv.1 (hr.2.2 k hk)
   have h2:=qA1 h k hk
   exact ⟨by omega,h1.2.1,h1.2.2.1,h1.2.2.2⟩
 ·rintro ⟨h1,h2,h3,h4⟩
  refine Vl.2 ⟨h1,h2.imp hne.2 id,fun k hk=>Jv.2 ⟨?_,?_⟩⟩
  ·by_cases h0:k=0
   ·rw [if_pos h0]; exact ((qli (d:=zF)).2 h4 k hk).1
   ·rw [if_neg h0]
    have:=(qmU (R:=fun f g:qc=>f.No < g.No) (fun a b c h1 h2=>Int.lt_trans h1 h2) (d:=zF)).2 h3 (k - 1) (by omega)
    rw [show k - 1 + 1=k by omega] at this
    exact this
  ·have:=(qli (d:=zF)).2 h4 k hk
   exact this.2
theorem qgb {g:Int→Option qe} {dead:qd}:∀ {m k:Nat} {f:qc},f∈Jz g dead m k→(k:Int)≤f.No∧f.No < ((k + m:Nat):Int)∧g f.No=some f.C∧slB dead f.C.S=true
 | 0,_,_,h=>absurd h List.not_mem_nil
 | m + 1,k,f,h=>by
  unfold Jz at h
  rcases List.mem_append.1 h with h | h
  ·cases e:g (k:Int) with
   | none=>rw [e] at h; exact absurd h List.not_mem_nil
   | some c=>
    rw [e] at h
    have h:f∈(if slB dead c.S=true then [qc.mk (k:Int) c] else []):=h
    split at h
    ·rename_i hs
     obtain rfl:=List.mem_singleton.1 h
     exact ⟨Int.le_refl _,by show (k:Int) < _; omega,e,hs⟩
    ·exact absurd h List.not_mem_nil
  ·have:=qgb h
   exact ⟨by omega,by omega,this.2.2⟩
theorem qsh {g:Int→Option qe} {dead:qd}:∀ {m k:Nat},qkf (Jz g dead m k)
 | 0,_=>List.Pairwise.nil
 | m + 1,k=>by
  unfold Jz
  refine List.pairwise_append.2 ⟨?_,qsh,fun a ha b hb=>?_⟩
  ·have:=qE8 (dead:=dead) (k:=k) (c:=g (k:Int))
   match hk:qmR dead k (g (k:Int)),this with
   | [],_=>exact List.Pairwise.nil
   | [x],_=>exact List.pairwise_singleton _ _
  ·have h1:=qgb hb
   cases e:g (k:Int) with
   | none=>rw [e] at ha; exact absurd ha List.not_mem_nil
   | some c=>
    rw [e] at ha
    have ha:a∈(if slB dead c.S=true then [qc.mk (k:Int) c] else []):=ha
    split at ha
    ·obtain rfl:=List.mem_singleton.1 ha
     show (k:Int) < b.No
     omega
    ·exact absurd ha List.not_mem_nil
theorem qEX {l:List qc} (h:qkf l) {f:qc} (hf:f∈l):cO l f.No=some f.C:=by
 induction l with
 | nil=>exact absurd hf List.not_mem_nil
 | cons x l ih=>
  rw [ZX]
  have hp:=List.pairwise_cons.1 h
  rcases List.mem_cons.1 hf with rfl | hf
  ·rw [if_pos rfl]
  ·have:=hp.1 f hf
   rw [if_neg (by omega),ih hp.2 hf]
theorem qll {r:qa} (h:zZ r=true) {no:Int} {c:qe} (hc:cO r.F no=some c):0≤no∧no < 8∧V3 c=true∧slB r.qB c.S=true:=by
 obtain ⟨f,hf,rfl,rfl⟩:=WA hc
 exact (ve.1 h).2.2.2 f hf
theorem qR3 {g:Int→Option qe} {dead:qd} {no:Int} (h0:0≤no) (h8:no < 8):cO (Jz g dead 8 0) no=(g no).filter fun c=>slB dead c.S:=by
 have key:∀ (m k:Nat),(k:Int)≤no→no < ((k + m:Nat):Int)→cO (Jz g dead m k) no=(g no).filter fun c=>slB dead c.S:=by
  intro m
  induction m with
  | zero=>intro k h1 h2; omega
  | succ m ih=>
   intro k h1 h2
   unfold Jz
   have app:∀ (a b:List qc),cO (a++b) no=(cO a no).or (cO b no):=by
    intro a b
    unfold cO
    rw [List.find?_append]
    cases List.find? (fun f:qc=>decide (f.No=no)) a<;>rfl
   rw [app]
   by_cases e:no=(k:Int)
   ·subst e
    have hn:cO (Jz g dead m (k + 1)) (k:Int)=none:=by
     cases hc:cO (Jz g dead m (k + 1)) (k:Int) with
     | none=>rfl
     | some c=>
      obtain ⟨f,hf,h3,_⟩:=WA hc
      have:=(qgb hf).1
      omega
    rw [hn]
    cases hg:g (k:Int) with
    | none=>rfl
    | some c=>
     show (cO (if slB dead c.S=true then [qc.mk (k:Int) c] else []) (k:Int)).or none=_
     rw [Option.or_none]
     by_cases hs:slB dead c.S=true
     ·rw [if_pos hs,ZX,if_pos (show (qc.mk (k:Int) c).No=(k:Int) from rfl),Option.filter_some,if_pos hs]; rfl
     ·rw [if_neg hs,qpt,Option.filter_some,if_neg hs]
   ·have hn : cO (qmR dead k (g (k : Int))) no = none := by
       cases hg:g (k:Int) with
       | none=>rfl
       | some c=>
        show cO (if slB dead c.S=true then [qc.mk (k:Int) c] else []) no=none
        by_cases hs:slB dead c.S=true
        ·rw [if_pos hs,ZX,if_neg (fun h=>e h.symm),qpt]
        ·rw [if_neg hs,qpt]
    rw [hn,Option.none_or,ih (k + 1) (by omega) (by omega)]
 exact key 8 0 (by omega) (by omega)
theorem qS4 (a b:qd):mxS a b=a∨mxS a b=b:=by
 unfold mxS
 split
 ·exact .inr rfl
 ·exact .inl rfl
theorem qrI {s:qd} (h:stB s=true) (hz:s≠zSt):slB zSt s=true:=by
 unfold stB at h
 rw [decide_eq_false hz] at h
 simp only [Bool.false_or,Bool.and_eq_true,decide_eq_true_iff] at h
 unfold slB
 exact decide_eq_true (.inl h.1.1.1)
theorem qY_ {x y:qe}:slB (cJ x y).S x.S=false∧slB (cJ x y).S y.S=false:=by
 unfold cJ
 by_cases h:j8 x y=true
 ·rw [if_pos h]
  unfold j8 at h
  by_cases e:x.S=y.S
  ·rw [e]; exact ⟨Q6 _,Q6 _⟩
  ·rw [if_neg e] at h
   rcases Y8 x.S y.S with h1 | h1 | h1
   ·exact ⟨h1.2,Q6 _⟩
   ·exact (e h1).elim
   ·rw [h] at h1; simp at h1
 ·rw [if_neg h]
  unfold j8 at h
  by_cases e:x.S=y.S
  ·rw [e]; exact ⟨Q6 _,Q6 _⟩
  ·rw [if_neg e] at h
   rcases Y8 x.S y.S with h1 | h1 | h1
   ·exact (h h1.1).elim
   ·exact (e h1).elim
   ·exact ⟨Q6 _,h1.2⟩
theorem qYj {a b c:qd} (h1:slB b a=false) (h2:slB c a=true):slB c b=true:=by
 rcases Y8 a b with h | h | h
 ·exact KI h2 h.1
 ·subst h; exact h2
 ·rw [h1] at h; simp at h
theorem qJY {a b:qa} (ha:zZ a=true) (hb:zZ b=true) {no:Int} {c:qe} (h:jC (cO a.F no) (cO b.F no)=some c):0≤no∧no < 8∧V3 c=true:=by
 cases ea:cO a.F no with
 | none=>
  rw [ea] at h
  cases eb:cO b.F no with
  | none=>rw [eb] at h; cases h
  | some y=>
   rw [eb] at h
   obtain rfl:=Option.some.inj h
   have:=qll hb eb; exact ⟨this.1,this.2.1,this.2.2.1⟩
 | some x=>
  have hx:=qll ha ea
  rw [ea] at h
  cases eb:cO b.F no with
  | none=>
   rw [eb] at h
   obtain rfl:=Option.some.inj h
   exact ⟨hx.1,hx.2.1,hx.2.2.1⟩
  | some y=>
   have hy:=qll hb eb
   rw [eb] at h
   obtain rfl:=Option.some.inj h
   refine ⟨hx.1,hx.2.1,?_⟩
   rcases qWm x y with e | e
   ·rw [e]; exact hx.2.2.1
   ·rw [e]; exact hy.2.2.1
theorem qN2 (a b:qa):(rJ a b).F=Jz (fun no=>jC (cO a.F no) (cO b.F no)) (mxS a.qB b.qB) 8 0:=rfl
theorem qnd {a b:qa} (ha:zZ a=true) (hb:zZ b=true) (no:Int):cO (rJ a b).F no=(jC (cO a.F no) (cO b.F no)).filter fun c=>slB (mxS a.qB b.qB) c.S:=by
 by_cases h:0≤no∧no < 8
 ·rw [qN2,qR3 h.1 h.2]
 ·have e1 : jC (cO a.F no) (cO b.F no) = none := by
     cases e:jC (cO a.F no) (cO b.F no) with
     | none=>rfl
     | some c=>have:=qJY ha hb e; exact (h ⟨this.1,this.2.1⟩).elim
  rw [e1]
  cases e:cO (rJ a b).F no with
  | none=>rfl
  | some c=>
   obtain ⟨f,hf,h3,_⟩:=WA e
   rw [qN2] at hf
   have:=qgb (m:=8) (k:=0) hf
   exact (h ⟨by omega,by omega⟩).elim
theorem qYP (a b:qa):(rJ a b).ID=a.ID:=rfl
theorem qwA (a b:qa):(rJ a b).qB=mxS a.qB b.qB:=rfl
theorem qUT {a b:qd} (ha:stB a=true) (hb:stB b=true) (h:mxS a b=zSt):a=zSt∧b=zSt:=by
 by_cases e:b=zSt
 ·subst e
  unfold mxS at h
  by_cases hs:slB a zSt=true
  ·exfalso
   by_cases ea:a=zSt
   ·subst ea; rw [Q6] at hs; simp at hs
   ·have:=KI (qrI ha ea) hs
    rw [Q6] at this; simp at this
  ·rw [if_neg hs] at h; exact ⟨h,rfl⟩
 ·exfalso
  unfold mxS at h
  by_cases hs:slB a b=true
  ·rw [if_pos hs] at h; exact e h
  ·rw [if_neg hs] at h
   subst h
   exact hs (qrI hb e)
theorem Wn {a b:qa} (ha:zZ a=true) (hb:zZ b=true):zZ (rJ a b)=true:=by
 have hA:=ve.1 ha
 have hB:=ve.1 hb
 refine ve.2 ⟨?_,?_,by rw [qN2]; exact qsh,fun f hf=>?_⟩
 ·rw [qwA]
  rcases qS4 a.qB b.qB with e | e
  ·rw [e]; exact hA.1
  ·rw [e]; exact hB.1
 ·by_cases hz:(rJ a b).qB=zSt
  ·left
   intro hF
   obtain ⟨za,zb⟩:=qUT hA.1 hB.1 hz
   have hne:a.F≠[]:=hA.2.1.resolve_right (fun h=>h za)
   obtain ⟨f,l,e⟩:=List.exists_cons_of_ne_nil hne
   have hf:f∈a.F:=by rw [e]; exact List.mem_cons_self ..
   have hca:=qEX hA.2.2.1 hf
   have hfl:=(hA.2.2.2 f hf).2.2.2
   have hn:cO (rJ a b).F f.No=none:=by rw [hF]; rfl
   rw [qnd ha hb,hca] at hn
   rw [qwA] at hz
   rw [hz] at hn
   rw [za] at hfl
   cases hcb:cO b.F f.No with
   | none=>
    rw [hcb] at hn
    have hn:(some f.C).filter (fun c=>slB zSt c.S)=none:=hn
    rw [Option.filter_some,if_pos hfl] at hn; cases hn
   | some y=>
    rw [hcb] at hn
    have hn:(some (cJ f.C y)).filter (fun c=>slB zSt c.S)=none:=hn
    rw [Option.filter_some,if_pos (qYj qY_.1 hfl)] at hn; cases hn
  ·exact .inr hz
 ·rw [qN2] at hf
  have h1:=qgb (m:=8) (k:=0) hf
  have h2:=qJY ha hb h1.2.2.1
  exact ⟨h2.1,h2.2.1,h2.2.2,h1.2.2.2⟩
theorem qAR:∀ {l l':List qc},qkf l→qkf l'→(∀ no,cO l no=cO l' no)→l=l'
 | [],[],_,_,_=>rfl
 | [],y::l',_,h',h=>by
  have:=h y.No
  rw [qpt,ZX,if_pos rfl] at this; cases this
 | x::l,[],hl,_,h=>by
  have:=h x.No
  rw [qpt,ZX,if_pos rfl] at this; cases this
 | x::l,y::l',hl,hl',h=>by
  have pl:=List.pairwise_cons.1 hl
  have pl':=List.pairwise_cons.1 hl'
  have hno:x.No=y.No:=by
   have h1:=h x.No
   rw [ZX,if_pos rfl] at h1
   have h2:=h y.No
   rw [ZX (f:=y),if_pos rfl] at h2
   obtain ⟨f,hf,e,_⟩:=WA h1.symm
   obtain ⟨g,hg,e',_⟩:=WA h2
   rcases List.mem_cons.1 hf with rfl | hf
   ·exact e.symm
   ·rcases List.mem_cons.1 hg with rfl | hg
    ·exact e'
    ·have:=pl'.1 f hf
     have:=pl.1 g hg
     omega
  have hc:x.C=y.C:=by
   have h1:=h x.No
   rw [ZX,if_pos rfl,ZX,if_pos hno.symm] at h1
   exact Option.some.inj h1
  have hxy:x=y:=by
   obtain ⟨n,c⟩:=x
   obtain ⟨n',c'⟩:=y
   have hno:n=n':=hno
   have hc:c=c':=hc
   rw [hno,hc]
  subst hxy
  rw [qAR pl.2 pl'.2 fun no=>?_]
  by_cases e:x.No=no
  ·have n1 : cO l no = none := by
      cases hc:cO l no with
      | none=>rfl
      | some c=>
       obtain ⟨f,hf,e',_⟩:=WA hc
       have:=pl.1 f hf; omega
   have n2:cO l' no=none:=by
    cases hc:cO l' no with
    | none=>rfl
    | some c=>
     obtain ⟨f,hf,e',_⟩:=WA hc
     have:=pl'.1 f hf; omega
   rw [n1,n2]
  ·have:=h no
   rw [ZX,ZX,if_neg e,if_neg e] at this; exact this
theorem qDP {r s:qa} (hr:zZ r=true) (hs:zZ s=true) (h1:r.ID=s.ID) (h2:r.qB=s.qB) (h3:∀ no,cO r.F no=cO s.F no):r=s:=by
 have:=qAR (ve.1 hr).2.2.1 (ve.1 hs).2.2.1 h3
 obtain ⟨a,b,c⟩:=r
 obtain ⟨a',b',c'⟩:=s
 have h1:a=a':=h1
 have h2:b=b':=h2
 have this:c=c':=this
 rw [h1,h2,this]
def rO (l:List qa) (id:Vector UInt8 16):Option qa:=l.find? fun r=>decide (r.ID=id)
theorem qBY {id:Vector UInt8 16}:rO [] id=none:=rfl
theorem VI {r:qa} {l:List qa} {id:Vector UInt8 16}:rO (r::l) id=if r.ID=id then some r else rO l id:=by
 unfold rO
 rw [List.find?_cons]
 by_cases h:r.ID=id
 ·rw [decide_eq_true h,if_pos h]
 ·rw [decide_eq_false h,if_neg h]
theorem QJ {l:List qa} {id:Vector UInt8 16} {r:qa} (h:rO l id=some r):r∈l∧r.ID=id:=
 ⟨List.mem_of_find?_eq_some h,of_decide_eq_true (List.find?_some (p:=fun r:qa=>decide (r.ID=id)) h)⟩
theorem qXY {l:List qa} {id:Vector UInt8 16}:(qg1 l id).map (fun i=>l.getD i zR)=rO l id:=by
 unfold qg1 rO
 have:=qrg (p:=fun r:qa=>decide (r.ID=id)) (d:=zR) (l:=l) (m:=l.length) (k:=0) (by omega)
 rw [List.drop_zero] at this
 exact this
abbrev qaZ (l:List qa):Prop:=l.Pairwise fun a b=>lbB a.ID b.ID=true
def qB5 (l:List qa):Prop:=qaZ l∧∀ r∈l,zZ r=true
theorem Qd {b:qb}:zw b=true↔qB5 b.R∧b.R.length≤10:=by
 rw [XR]
 refine and_congr ?_ Iff.rfl
 have ht:∀ a b c:qa,lbB a.ID b.ID=true→lbB b.ID c.ID=true→lbB a.ID c.ID=true:=fun _ _ _ h1 h2=>qvz h1 h2
 constructor
 ·intro h
  refine ⟨(qmU (R:=fun a b:qa=>lbB a.ID b.ID=true) ht (d:=zR)).1 fun k hk=>?_,(qli (d:=zR)).1 fun k hk=>(h k hk).1⟩
  rcases (h (k + 1) hk).2 with e | e
  ·omega
  ·exact e
 ·rintro ⟨h1,h2⟩ k hk
  refine ⟨(qli (d:=zR)).2 h2 k hk,?_⟩
  by_cases h0:k=0
  ·exact .inl h0
  ·have:=(qmU (R:=fun a b:qa=>lbB a.ID b.ID=true) ht (d:=zR)).2 h1 (k - 1) (by omega)
   rw [show k - 1 + 1=k by omega] at this
   exact .inr this
theorem qmW {l:List qa} (h:qaZ l) {r:qa} (hr:r∈l):rO l r.ID=some r:=by
 induction l with
 | nil=>exact absurd hr List.not_mem_nil
 | cons x l ih=>
  rw [VI]
  have hp:=List.pairwise_cons.1 h
  rcases List.mem_cons.1 hr with rfl | hr
  ·rw [if_pos rfl]
  ·have:=hp.1 r hr
   rw [if_neg (fun e=>by rw [e,qeC] at this; cases this),ih hp.2 hr]
theorem qqg:∀ {l l':List qa},qaZ l→qaZ l'→(∀ id,rO l id=rO l' id)→l=l'
 | [],[],_,_,_=>rfl
 | [],y::l',_,h',h=>by
  have:=h y.ID
  rw [qBY,VI,if_pos rfl] at this; cases this
 | x::l,[],hl,_,h=>by
  have:=h x.ID
  rw [qBY,VI,if_pos rfl] at this; cases this
 | x::l,y::l',hl,hl',h=>by
  have pl:=List.pairwise_cons.1 hl
  have pl':=List.pairwise_cons.1 hl'
  have h1:=h x.ID
  rw [VI,if_pos rfl] at h1
  have h2:=h y.ID
  rw [VI (r:=y),if_pos rfl] at h2
  have hxy:x=y:=by
   rcases List.mem_cons.1 (QJ h1.symm).1 with e | hf
   ·exact e
   ·rcases List.mem_cons.1 (QJ h2).1 with e | hg
    ·exact e.symm
    ·have a1:=pl'.1 x hf
     have a2:=pl.1 y hg
     have:=qvz a1 a2
     rw [qeC] at this; cases this
  subst hxy
  rw [qqg pl.2 pl'.2 fun id=>?_]
  by_cases e:x.ID=id
  ·have n1 : rO l id = none := by
      cases hc:rO l id with
      | none=>rfl
      | some c=>
       have:=pl.1 c (QJ hc).1
       rw [e,(QJ hc).2,qeC] at this; cases this
   have n2:rO l' id=none:=by
    cases hc:rO l' id with
    | none=>rfl
    | some c=>
     have:=pl'.1 c (QJ hc).1
     rw [e,(QJ hc).2,qeC] at this; cases this
   rw [n1,n2]
  ·have:=h id
   rw [VI,VI,if_neg e,if_neg e] at this; exact this
def jR:Option qa→Option qa→Option qa
 | some x,some y=>some (rJ x y)
 | some x,none=>some x
 | none,y=>y
def qAK (a b c:List qa):Prop:=qaZ c∧∀ id,rO c id=jR (rO a id) (rO b id)
theorem qPI {a b c:List qa} (ha:qB5 a) (hb:qB5 b) (h:qAK a b c):qB5 c:=by
 refine ⟨h.1,fun r hr=>?_⟩
 have e:=h.2 r.ID
 rw [qmW h.1 hr] at e
 cases ea:rO a r.ID with
 | none=>
  rw [ea] at e
  have e:some r=rO b r.ID:=e
  exact hb.2 r (QJ e.symm).1
 | some x=>
  rw [ea] at e
  cases eb:rO b r.ID with
  | none=>
   rw [eb] at e
   obtain rfl:=Option.some.inj e
   exact ha.2 r (QJ ea).1
  | some y=>
   rw [eb] at e
   obtain rfl:=Option.some.inj e
   exact Wn (ha.2 x (QJ ea).1) (hb.2 y (QJ eb).1)
end Go.Rx
end
set_option maxRecDepth 100000
noncomputable section
namespace Go.Rx
open Go.Proofs
theorem qXi {a b:qe} (h1:a.S=b.S) (h2:a.V=b.V):a=b:=by
 obtain ⟨s,v⟩:=a
 obtain ⟨s',v'⟩:=b
 have h1:s=s':=h1
 have h2:v=v':=h2
 rw [h1,h2]
theorem qWy (a b:Vector UInt8 32):(ltD a b=true∧ltD b a=false)∨a=b∨(ltD b a=true∧ltD a b=false):=by
 rcases qkl a.toList b.toList with h | h | h
 ·exact .inl h
 ·exact .inr (.inl (Vector.toList_inj.1 h))
 ·exact .inr (.inr h)
theorem quu (a b:qe):(j8 a b=true∧j8 b a=false)∨a=b∨(j8 b a=true∧j8 a b=false):=by
 unfold j8
 by_cases h1:a.S=b.S
 ·rw [if_pos h1,if_pos h1.symm]
  by_cases h2:zJ a.V=zJ b.V
  ·rw [if_pos h2,if_pos h2.symm]
   rcases qkl a.V b.V with h | h | h
   ·exact .inl h
   ·exact .inr (.inl (qXi h1 h))
   ·exact .inr (.inr h)
  ·rw [if_neg h2,if_neg (fun h=>h2 h.symm)]
   rcases qWy (zJ a.V) (zJ b.V) with h | h | h
   ·exact .inl h
   ·exact (h2 h).elim
   ·exact .inr (.inr h)
 ·rw [if_neg h1,if_neg (fun h=>h1 h.symm)]
  rcases Y8 a.S b.S with h | h | h
  ·exact .inl h
  ·exact (h1 h).elim
  ·exact .inr (.inr h)
theorem qSL {a b c:Vector UInt8 32} (h1:ltD a b=true) (h2:ltD b c=true):ltD a c=true:=qu7 h1 h2
theorem qP4 {a b:Vector UInt8 32} (h:ltD a b=true):a≠b:=fun e=>by subst e; unfold ltD at h; rw [WH] at h; cases h
theorem qSU {a b:qd} (h:slB a b=true):a≠b:=fun e=>by subst e; rw [Q6] at h; cases h
theorem qxH {a b c:qe} (h1:j8 a b=true) (h2:j8 b c=true):j8 a c=true:=by
 unfold j8 at *
 by_cases e1:a.S=b.S
 ·by_cases e2:b.S=c.S
  ·rw [if_pos e1] at h1
   rw [if_pos e2] at h2
   rw [if_pos (e1.trans e2)]
   by_cases d1:zJ a.V=zJ b.V
   ·by_cases d2:zJ b.V=zJ c.V
    ·rw [if_pos d1] at h1
     rw [if_pos d2] at h2
     rw [if_pos (d1.trans d2)]
     exact qu7 h1 h2
    ·rw [if_neg d2] at h2
     rw [if_neg (fun h=>d2 (d1.symm.trans h)),d1]
     exact h2
   ·rw [if_neg d1] at h1
    by_cases d2:zJ b.V=zJ c.V
    ·rw [if_neg (fun h=>d1 (h.trans d2.symm)),← d2]
     exact h1
    ·rw [if_neg d2] at h2
     have:=qSL h1 h2
     rw [if_neg (qP4 this)]
     exact this
  ·rw [if_neg e2] at h2
   rw [if_neg (fun h=>e2 (e1.symm.trans h)),e1]
   exact h2
 ·rw [if_neg e1] at h1
  by_cases e2:b.S=c.S
  ·rw [if_neg (fun h=>e1 (h.trans e2.symm)),← e2]
   exact h1
  ·rw [if_neg e2] at h2
   have:=KI h1 h2
   rw [if_neg (qSU this)]
   exact this
theorem qSR (a:qe):j8 a a=false:=by
 rcases quu a a with h | h | h
 ·exact h.2
 ·unfold j8; rw [if_pos rfl,if_pos rfl,WH]
 ·exact h.2
theorem qfR {a b:qe} (h:j8 a b=true):cJ a b=b:=if_pos h
theorem qgf {a b:qe} (h:j8 a b=false):cJ a b=a:=if_neg (by rw [h]; simp)
theorem qXc (a b:qe):cJ a b=cJ b a:=by
 rcases quu a b with h | h | h
 ·rw [qfR h.1,qgf h.2]
 ·subst h; rfl
 ·rw [qgf h.2,qfR h.1]
theorem qTN (a b c:qe):cJ (cJ a b) c=cJ a (cJ b c):=by
 cases h1:j8 a b with
 | true=>
  rw [qfR h1]
  cases h2:j8 b c with
  | true=>rw [qfR h2,qfR (qxH h1 h2)]
  | false=>rw [qgf h2,qfR h1]
 | false=>
  rw [qgf h1]
  cases h2:j8 b c with
  | true=>rw [qfR h2]
  | false=>
   rw [qgf h2,qgf h1]
   refine qgf ?_
   cases h3:j8 a c with
   | false=>rfl
   | true=>
    rcases quu a b with h | h | h
    ·rw [h1] at h; exact absurd h.1 (by simp)
    ·subst h; rw [h3] at h2; cases h2
    ·have:=qxH h.1 h3; rw [h2] at this; cases this
theorem qEo (o p:Option qe):jC o p=jC p o:=by
 cases o<;>cases p<;>first | rfl | exact congrArg some (qXc _ _)
theorem qV6 (o p q:Option qe):jC (jC o p) q=jC o (jC p q):=by
 cases o<;>cases p<;>cases q<;>first | rfl | exact congrArg some (qTN _ _ _)
theorem qaV {a b:qd} (h:slB a b=true):mxS a b=b:=if_pos h
theorem qa1 {a b:qd} (h:slB a b=false):mxS a b=a:=if_neg (by rw [h]; simp)
theorem qrA (a:qd):mxS a a=a:=qa1 (Q6 a)
theorem qq5 (a b:qd):mxS a b=mxS b a:=by
 rcases Y8 a b with h | h | h
 ·rw [qaV h.1,qa1 h.2]
 ·subst h; rfl
 ·rw [qa1 h.2,qaV h.1]
theorem qED (a b c:qd):mxS (mxS a b) c=mxS a (mxS b c):=by
 cases h1:slB a b with
 | true=>
  rw [qaV h1]
  cases h2:slB b c with
  | true=>rw [qaV h2,qaV (KI h1 h2)]
  | false=>rw [qa1 h2,qaV h1]
 | false=>
  rw [qa1 h1]
  cases h2:slB b c with
  | true=>rw [qaV h2]
  | false=>
   rw [qa1 h2,qa1 h1]
   refine qa1 ?_
   cases h3:slB a c with
   | false=>rfl
   | true=>
    rcases Y8 a b with h | h | h
    ·rw [h1] at h; exact absurd h.1 (by simp)
    ·subst h; rw [h3] at h2; cases h2
    ·have:=KI h.1 h3; rw [h2] at this; cases this
theorem qJp (a b:qd):slB (mxS a b) a=false:=by
 rcases Y8 a b with h | h | h
 ·rw [qaV h.1]; exact h.2
 ·subst h; rw [qrA,Q6]
 ·rw [qa1 h.2,Q6]
abbrev fl (d:qd) (o:Option qe):Option qe:=o.filter fun c=>slB d c.S
theorem qfg {d:qd} {c:qe}:fl d (some c)=if slB d c.S=true then some c else none:=by
 show Option.filter _ (some c)=_
 rw [Option.filter_some]
theorem qWr {a b:qe} (h:j8 a b=false):slB a.S b.S=false:=by
 unfold j8 at h
 by_cases e:a.S=b.S
 ·rw [e,Q6]
 ·rw [if_neg e] at h; exact h
theorem qqp {a b c:qd} (h1:slB a b=false) (h2:slB b c=false):slB a c=false:=by
 cases h:slB a c with
 | false=>rfl
 | true=>
  rcases Y8 a b with h' | h' | h'
  ·rw [h1] at h'; exact absurd h'.1 (by simp)
  ·subst h'; rw [h] at h2; cases h2
  ·have:=KI h'.1 h; rw [h2] at this; cases this
theorem qEj {d d1:qd} (hd:slB d d1=false) (u z:Option qe):fl d (jC (fl d1 u) z)=fl d (jC u z):=by
 cases u with
 | none=>rfl
 | some c=>
  rw [qfg]
  by_cases h:slB d1 c.S=true
  ·rw [if_pos h]
  ·rw [if_neg h]
   have hc:slB d c.S=false:=qqp hd (by cases e:slB d1 c.S with | false=>rfl | true=>exact (h e).elim)
   cases z with
   | none=>
    show none=fl d (some c)
    rw [qfg,if_neg (by rw [hc]; simp)]
   | some y=>
    show fl d (some y)=fl d (some (cJ c y))
    cases hl:j8 c y with
    | true=>rw [qfR hl]
    | false=>
     have:slB d y.S=false:=qqp hc (qWr hl)
     rw [qgf hl,qfg,qfg,if_neg (by rw [this]; simp),if_neg (by rw [hc]; simp)]
theorem qUK {d d1:qd} (hd:slB d d1=false) (u z:Option qe):fl d (jC z (fl d1 u))=fl d (jC z u):=by
 rw [qEo,qEj hd,qEo]
theorem qWs {r:qa} (h:zZ r=true) (no:Int):fl r.qB (cO r.F no)=cO r.F no:=by
 cases e:cO r.F no with
 | none=>rfl
 | some c=>rw [qfg,if_pos (qll h e).2.2.2]
theorem qWE {r s:qa} (h:zZ r=true) (h':zZ s=true) (hid:r.ID=s.ID):rJ r s=rJ s r:=
 qDP (Wn h h') (Wn h' h) hid (qq5 _ _) fun no=>by rw [qnd h h',qnd h' h,qEo,qq5]
theorem qUn {r s t:qa} (h:zZ r=true) (h':zZ s=true) (h'':zZ t=true):rJ (rJ r s) t=rJ r (rJ s t):=
 qDP (Wn (Wn h h') h'') (Wn h (Wn h' h'')) rfl (qED _ _ _) fun no=>by
  rw [qnd (Wn h h') h'',qnd h (Wn h' h''),qnd h h',qnd h' h'',qwA,qwA]
  have e1:=qEj (d:=mxS (mxS r.qB s.qB) t.qB) (d1:=mxS r.qB s.qB) (qJp _ _) (jC (cO r.F no) (cO s.F no)) (cO t.F no)
  have e2:=qUK (d:=mxS r.qB (mxS s.qB t.qB)) (d1:=mxS s.qB t.qB) (by rw [qq5]; exact qJp _ _) (jC (cO s.F no) (cO t.F no)) (cO r.F no)
  show fl (mxS (mxS r.qB s.qB) t.qB) (jC (fl (mxS r.qB s.qB) (jC (cO r.F no) (cO s.F no))) (cO t.F no))=fl (mxS r.qB (mxS s.qB t.qB)) (jC (cO r.F no) (fl (mxS s.qB t.qB) (jC (cO s.F no) (cO t.F no))))
  rw [e1,e2,qED,qV6]
def VO (id:Vector UInt8 16) (o:Option qa):Prop:=∀ r,o=some r→zZ r=true∧r.ID=id
theorem qWC {id:Vector UInt8 16}:VO id none:=fun _ h=>by cases h
theorem qj4 {l:List qa} (h:∀ r∈l,zZ r=true) (id:Vector UInt8 16):VO id (rO l id):=fun r hr=>⟨h r (QJ hr).1,(QJ hr).2⟩
theorem qwb {id:Vector UInt8 16} {o p:Option qa} (ho:VO id o) (hp:VO id p):VO id (jR o p):=by
 cases o with
 | none=>exact hp
 | some r=>
  cases p with
  | none=>exact ho
  | some s=>
   intro t ht
   obtain rfl:=Option.some.inj ht
   exact ⟨Wn (ho r rfl).1 (hp s rfl).1,(ho r rfl).2⟩
theorem qEa {id:Vector UInt8 16} {o p:Option qa} (ho:VO id o) (hp:VO id p):jR o p=jR p o:=by
 cases o with
 | none=>cases p<;>rfl
 | some r=>
  cases p with
  | none=>rfl
  | some s=>exact congrArg some (qWE (ho r rfl).1 (hp s rfl).1 ((ho r rfl).2.trans (hp s rfl).2.symm))
theorem qIJ {id:Vector UInt8 16} {o p q:Option qa} (ho:VO id o) (hp:VO id p) (hq:VO id q):jR (jR o p) q=jR o (jR p q):=by
 cases o with
 | none=>rfl
 | some r=>
  cases p with
  | none=>rfl
  | some s=>
   cases q with
   | none=>rfl
   | some t=>exact congrArg some (qUn (ho r rfl).1 (hp s rfl).1 (hq t rfl).1)
theorem qJZ {α:Type} [DecidableEq α]:∀ {l m:List α},l.Nodup→(∀ x∈l,x∈m)→l.length≤m.length
 | [],_,_,_=>Nat.zero_le _
 | x::l,m,h,hm=>by
  rw [List.nodup_cons] at h
  have hx:=hm x (List.mem_cons_self ..)
  have:=qJZ (l:=l) (m:=m.erase x) h.2 fun y hy=>(List.mem_erase_of_ne (fun e=>by subst e; exact h.1 hy)).2 (hm y (List.mem_cons_of_mem _ hy))
  rw [List.length_erase_of_mem hx] at this
  have hp:0 < m.length:=List.length_pos_of_mem hx
  rw [List.length_cons]; omega
theorem qSA {l:List qa} (h:qaZ l):(l.map fun r=>r.ID).Nodup:=by
 rw [List.nodup_iff_pairwise_ne,List.pairwise_map]
 refine h.imp fun {a b} hab e=>?_
 rw [e,qeC] at hab; cases hab
end Go.Rx
end
set_option maxRecDepth 100000
noncomputable section
namespace Go.Rx
open Go.Proofs
open Go.Lib (compareBytes)
section g
variable {α:Type}
theorem qIG {p q:List α} {x:α} {n:Nat} (h:(p++x::q).length=n):ZN (p++x::q) n p.length=some x:=by
 unfold ZN
 rw [if_pos h,List.getElem?_append_right (Nat.le_refl _),Nat.sub_self]; rfl
theorem qDC {x y:α} {q:List α}:∀ {p:List α},(p++x::q).set p.length y=p++y::q
 | []=>rfl
 | z::p=>by
  show z::(p++x::q).set p.length y=_
  rw [qDC]; rfl
end g
def Kd (rp:List (Vector UInt8 16)) (x:Vector UInt8 16) (q:List (Vector UInt8 16)):List (Vector UInt8 16):=match rp with
 | []=>x::q
 | y::r=>if lbB x y=true then Kd r x (y::q) else (y::r).reverse++x::q
def Q9 (l:List (Vector UInt8 16)):List (Vector UInt8 16):=l.foldl (fun p x=>Kd p.reverse x []) []
theorem qvC {x:Vector UInt8 16}:∀ {rp q:List (Vector UInt8 16)},(Kd rp x q).Perm (x::(rp++q))
 | [],q=>List.Perm.refl _
 | y::r,q=>by
  unfold Kd
  split
  ·exact qvC.trans (List.Perm.cons _ List.perm_middle)
  ·exact List.perm_middle.trans (List.Perm.cons _ ((List.reverse_perm _).append_right _))
theorem qEw {x:Vector UInt8 16} {s:List (Vector UInt8 16)}:∀ {rp q:List (Vector UInt8 16)},Kd rp x (q++s)=Kd rp x q++s
 | [],q=>rfl
 | y::r,q=>by
  unfold Kd
  split
  ·exact qEw (q:=y::q)
  ·rw [List.append_assoc]; rfl
abbrev qkh (l:List (Vector UInt8 16)):Prop:=l.Pairwise fun a b=>lbB a b=true
theorem qx4 {x:Vector UInt8 16}:∀ {rp q:List (Vector UInt8 16)},qkh (rp.reverse++q)→(∀ y∈q,lbB x y=true)→x∉rp→qkh (Kd rp x q)
 | [],q,h,hq,_=>List.pairwise_cons.2 ⟨hq,h⟩
 | y::r,q,h,hq,hx=>by
  rw [List.mem_cons,not_or] at hx
  unfold Kd
  split
  ·rename_i hlt
   refine qx4 (rp:=r) (q:=y::q) ?_ (fun z hz=>?_) hx.2
   ·rw [List.reverse_cons,List.append_assoc] at h; exact h
   ·rcases List.mem_cons.1 hz with rfl | hz
    ·exact hlt
    ·exact hq z hz
  ·rename_i hlt
   have hyx:lbB y x=true:=by
    rcases qWx x y with h1 | h1 | h1
    ·exact (hlt h1.1).elim
    ·exact (hx.1 h1).elim
    ·exact h1.1
   obtain ⟨h1,h2,h3⟩:=List.pairwise_append.1 h
   refine List.pairwise_append.2 ⟨h1,List.pairwise_cons.2 ⟨hq,h2⟩,fun a ha b hb=>?_⟩
   have hay:lbB a x=true:=by
    rw [List.reverse_cons,List.mem_append,List.mem_singleton] at ha
    rcases ha with ha | rfl
    ·rw [List.reverse_cons] at h1
     exact qvz ((List.pairwise_append.1 h1).2.2 a ha y (List.mem_singleton.2 rfl)) hyx
    ·exact hyx
   rcases List.mem_cons.1 hb with rfl | hb
   ·exact hay
   ·exact h3 a ha b hb
theorem qFn:∀ {l p:List (Vector UInt8 16)},qkh p→(p++l).Nodup→qkh (l.foldl (fun p x=>Kd p.reverse x []) p)∧(l.foldl (fun p x=>Kd p.reverse x []) p).Perm (p++l)
 | [],p,h,_=>⟨h,by rw [List.append_nil]; exact List.Perm.refl _⟩
 | x::l,p,h,hn=>by
  have hp:(Kd p.reverse x []).Perm (x::p):=qvC.trans (List.Perm.cons _ (by rw [List.append_nil]; exact List.reverse_perm _))
  have hx:x∉p:=fun hx=>by
   have:=(List.nodup_append.1 hn).2.2 x hx x (List.mem_cons_self ..)
   exact this rfl
  have hs:qkh (Kd p.reverse x []):=qx4 (by rw [List.reverse_reverse,List.append_nil]; exact h) (fun y hy=>absurd hy (List.not_mem_nil)) (by rw [List.mem_reverse]; exact hx)
  have hpl:(Kd p.reverse x []++l).Perm (p++x::l):=(hp.append_right l).trans List.perm_middle.symm
  obtain ⟨h1,h2⟩:=qFn (l:=l) hs (hpl.nodup_iff.2 hn)
  exact ⟨h1,h2.trans hpl⟩
theorem qVh {l:List (Vector UInt8 16)} (h:l.Nodup):qkh (Q9 l)∧(Q9 l).Perm l:=by
 have:=qFn (l:=l) (p:=[]) List.Pairwise.nil (by simpa using h)
 rw [List.nil_append] at this
 exact this
section
variable {N:Nat} [ZB N]
theorem qU0 (a b:Vector UInt8 16):∃ n:Int,qld a b=some n∧decide (n < 0)=lbB a b:=by
 refine ⟨compareBytes a.toList b.toList,rfl,?_⟩
 rw [qwd]; rfl
theorem qL9 {s2 s8 : Int} : ∀ (rp : List (Vector UInt8 16)) (x : Vector UInt8 16) (q : List (Vector UInt8 16)) (n m : Nat), (rp.reverse ++ x :: q).length = n → n ≤ 1000 → rp.length < m →
    ∃ j b,qV (jD N n 0 s2 s8) some m (rp.reverse++x::q,(rp.length:Int))=some (Kd rp x q,j,b)
 | _,_,_,_,0,_,_,hm=>by omega
 | [],x,q,n,m + 1,hn,hs,hm=>by
  refine ⟨((0:Nat):Int),false,?_⟩
  rw [jb (x:=(([]:List (Vector UInt8 16)).reverse++x::q,((0:Nat):Int),false)) (by unfold jD; exact w_f rfl (qC rfl)) m]
  rfl
 | y::r,x,q,n,m + 1,hn,hs,hm=>by
  have hl:(y::r).reverse.length=r.length + 1:=by simp
  have e0:(y::r).reverse++x::q=r.reverse++y::(x::q):=by rw [List.reverse_cons,List.append_assoc]; rfl
  have hrl:r.reverse.length=r.length:=List.length_reverse
  have hnl:r.length + 1 < n:=by rw [← hn,List.length_append,hl,List.length_cons]; omega
  obtain ⟨c,hc,hlt⟩:=qU0 x y
  have c0:(0:Int)≤((r.length + 1:Nat):Int)∧((r.length + 1:Nat):Int) < ((n:Nat):Int):=by omega
  have c1:qw (((r.length + 1:Nat):Int) - 1):=by unfold qw; omega
  have c2:(0:Int)≤((r.length + 1:Nat):Int) - 1∧((r.length + 1:Nat):Int) - 1 < ((n:Nat):Int):=by omega
  have g1:ZN ((y::r).reverse++x::q) n (((r.length + 1:Nat):Int)).toNat=some x:=by
   have:=qIG (p:=(y::r).reverse) (x:=x) (q:=q) hn
   rw [hl] at this; exact this
  have t1:(((r.length + 1:Nat):Int) - 1).toNat=r.length:=by omega
  have g2:ZN ((y::r).reverse++x::q) n (((r.length + 1:Nat):Int) - 1).toNat=some y:=by
   rw [t1,e0]
   have:=qIG (p:=r.reverse) (x:=y) (q:=x::q) (n:=n) (by rw [← e0]; exact hn)
   rw [hrl] at this; exact this
  cases hb:lbB x y with
  | false=>
   refine ⟨((r.length + 1:Nat):Int),decide (c < 0),?_⟩
   rw [jb (x:=((y::r).reverse++x::q,((r.length + 1:Nat):Int),decide (c < 0))) (by
    unfold jD
    exact w_t (decide_eq_true (by show (0:Int) < ((r.length + 1:Nat):Int); omega)) (qY c0 (qu g1 (qY c1 (qY c2 (qu g2 (qu hc (w_f (hlt.trans hb) (qC rfl)))))))) ) m]
   unfold Kd
   rw [if_neg (by rw [hb]; simp)]
  | true=>
   obtain ⟨j,b,h⟩:=qL9 r x (y::q) n m (by rw [← hn,e0]; simp) hs (by simp at hm; omega)
   refine ⟨j,b,?_⟩
   have s1:((y::r).reverse++x::q).set (((r.length + 1:Nat):Int)).toNat y=(y::r).reverse++y::q:=by
    have:=qDC (p:=(y::r).reverse) (x:=x) (y:=y) (q:=q)
    rw [hl] at this; exact this
   have s2:((y::r).reverse++y::q).set (((r.length + 1:Nat):Int) - 1).toNat x=r.reverse++x::(y::q):=by
    rw [t1,show (y::r).reverse++y::q=r.reverse++y::(y::q) by rw [List.reverse_cons,List.append_assoc]; rfl]
    have:=qDC (p:=r.reverse) (x:=y) (y:=x) (q:=y::q)
    rw [hrl] at this; exact this
   have v1:qei ((y::r).reverse++x::q).length n (((r.length + 1:Nat):Int)).toNat:=⟨hn,by omega⟩
   have v2:qei (((y::r).reverse++x::q).set (((r.length + 1:Nat):Int)).toNat y).length n (((r.length + 1:Nat):Int) - 1).toNat:=⟨by rw [List.length_set]; exact hn,by omega⟩
   rw [JM (v':=(r.reverse++x::(y::q),(r.length:Int))) (by
    unfold jD
    refine w_t (decide_eq_true (by show (0:Int) < ((r.length + 1:Nat):Int); omega)) (qY c0 (qu g1 (qY c1 (qY c2 (qu g2 (qu hc (w_t (hlt.trans hb) (qY c1 (qY c1 (qY c2 (qu g2 (qY c0 (qu g1 (qY c0 (qY v1 (qY c2 (qY v2 (qY c1 (qC ?_)))))))))))))))))))
    show some (Sum.inl ((((y::r).reverse++x::q).set (((r.length + 1:Nat):Int)).toNat y).set (((r.length + 1:Nat):Int) - 1).toNat x,((r.length + 1:Nat):Int) - 1))=_
    rw [s1,s2,show ((r.length + 1:Nat):Int) - 1=(r.length:Int) by omega]) m]
   unfold Kd
   rw [if_pos hb]
   exact h
theorem qPd {l:List (Vector UInt8 16)} (hs:l.length≤1000) (h0:l≠[]):jh N l 0 (l.length:Int)=some (Q9 l):=by
 have hN:=big N
 have hpos:0 < l.length:=List.length_pos_iff.2 h0
 have key:vU N l.length 0 (l.length:Int) l 1=some (Q9 l,(l.length:Int),false):=by
  have h:=Xg (B:=zW N l.length 0 (l.length:Int)) (g:=some) (I:=fun v=>∃ k:Nat,1≤k∧k≤l.length∧v=(Q9 (l.take k)++l.drop k,(k:Int))) (Q:=fun y=>y=(Q9 l,(l.length:Int),false)) (fun v=>l.length - v.2.toNat) ?_ N (l,((1:Nat):Int))
   ⟨1,Nat.le_refl _,hpos,by
    cases l with
    | nil=>exact (h0 rfl).elim
    | cons x r=>rfl⟩ (by simp; omega)
  ·obtain ⟨y,e,rfl⟩:=h
   exact e
  rintro v ⟨k,h1,hk,rfl⟩
  have hlen:∀ j,j≤l.length→(Q9 (l.take j)).length=j:=by
   intro j hj
   have:∀ (m p:List (Vector UInt8 16)),(m.foldl (fun p x=>Kd p.reverse x []) p).length=p.length + m.length:=by
    intro m
    induction m with
    | nil=>intro p; rfl
    | cons x m ih=>
     intro p
     rw [List.foldl_cons,ih,qvC.length_eq]
     simp; omega
   unfold Q9
   rw [this]; simp; omega
  by_cases h:k < l.length
  ·left
   have ed:l.drop k=l.getD k (Vector.replicate 16 0)::l.drop (k + 1):=by
    rw [List.drop_eq_getElem_cons h,List.getD_eq_getElem?_getD,List.getElem?_eq_getElem h]; rfl
   have et:Q9 (l.take (k + 1))=Kd (Q9 (l.take k)).reverse (l.getD k (Vector.replicate 16 0)) []:=by
    unfold Q9
    rw [List.take_succ_eq_append_getElem h,List.foldl_append,List.getD_eq_getElem?_getD,List.getElem?_eq_getElem h]; rfl
   have hll:(Q9 (l.take k)).reverse.length=k:=by rw [List.length_reverse,hlen k hk]
   obtain ⟨j,b,e⟩:=qL9 (N:=N) (s2:=(l.length:Int)) (s8:=(k:Int)) (Q9 (l.take k)).reverse (l.getD k (Vector.replicate 16 0)) (l.drop (k + 1)) l.length N (by
    rw [List.reverse_reverse,← ed,List.length_append,hlen k hk,List.length_drop]; omega) hs (by omega)
   rw [List.reverse_reverse,← ed,hll] at e
   have er:Kd (Q9 (l.take k)).reverse (l.getD k (Vector.replicate 16 0)) (l.drop (k + 1))=Q9 (l.take (k + 1))++l.drop (k + 1):=by
    rw [et,← qEw]; rfl
   rw [er] at e
   refine ⟨(Q9 (l.take (k + 1))++l.drop (k + 1),((k + 1:Nat):Int)),?_,⟨k + 1,by omega,h,rfl⟩,by simp only [Int.toNat_natCast]; omega⟩
   unfold zW
   exact w_t (dec_lt h) (qu e (qY (jm (by omega)) (qC (by rw [zf]))))
  ·right
   obtain rfl:k=l.length:=by omega
   refine ⟨(Q9 l,(l.length:Int),false),_,?_,rfl,rfl⟩
   unfold zW
   refine w_f (zn (Nat.lt_irrefl _)) (qC ?_)
   dsimp only
   rw [zn (Nat.lt_irrefl _),List.take_of_length_le (Nat.le_refl _),List.drop_of_length_le (Nat.le_refl _),List.append_nil]
 unfold jh Qb
 exact qY (by unfold qw; omega) (qu key (qC rfl))
theorem qLy:jh N [] 0 ((([]:List (Vector UInt8 16)).length:Nat):Int)=some []:=by
 have key:vU N 0 0 ((0:Nat):Int) [] 1=some ([],1,false):=by
  obtain ⟨M,hM⟩:∃ M,N=M + 1:=⟨N - 1,by have:=big N; omega⟩
  show qV (zW N 0 0 ((0:Nat):Int)) some N ([],1)=_
  have:∀ K,K=M + 1→qV (zW N 0 0 ((0:Nat):Int)) some K ([],1)=some ([],1,false):=by
   rintro K rfl
   rw [jb (x:=([],1,false)) (by unfold zW; exact w_f rfl (qC rfl))]
  exact this N hM
 unfold jh Qb
 exact qY (by unfold qw; omega) (qu key (qC rfl))
theorem qWu {l:List (Vector UInt8 16)} (h:l.length≤12):WZ N l=some (Q9 l):=by
 have e1:jh N l 0 ((l.length:Nat):Int)=some (Q9 l):=by
  cases l with
  | nil=>exact qLy
  | cons x r=>exact qPd (by omega) (by simp)
 have e2:∀ z:Int,Jx N l 0 ((l.length:Nat):Int) z=some (Q9 l):=fun z=>by
  have key:VB N l 0 ((l.length:Nat):Int) z=some (Q9 l):=by
   obtain ⟨M,hM⟩:∃ M,N=M + 1:=⟨N - 1,by have:=big N; omega⟩
   show qV (QM N l 0 ((l.length:Nat):Int) z) some N ()=_
   have:∀ K,K=M + 1→qV (QM N l 0 ((l.length:Nat):Int) z) some K ()=some (Q9 l):=by
    rintro K rfl
    rw [jb (x:=Q9 l) (by unfold QM; exact qY (by unfold qw; omega) (w_t (decide_eq_true (by omega)) (qu ((zo rfl).trans e1) (qC rfl))))]
   exact this N hM
  unfold Jx Xd
  exact qu ((zo rfl).trans key) (qC rfl)
 have e3:∃ z,qef (IntKind.u64.wrap ((l.length:Nat):Int))=some z:=by
  rw [qVu (by omega)]
  have:∀ k,k≤12→(qef ((k:Nat):Int)).isSome=true:=by decide +kernel
  exact Option.isSome_iff_exists.1 (this _ h)
 obtain ⟨z,e3⟩:=e3
 unfold WZ KZ
 exact qu e3 (qu ((zo rfl).trans (e2 z)) (qC rfl))
end
end Go.Rx
end
set_option maxRecDepth 100000
noncomputable section
namespace Go.Rx
open Go.Proofs
open Go.Lib (compareBytes)
section
variable {N:Nat} [ZB N]
theorem qrW (a b:Vector UInt8 32):qht a b=some (ltD a b):=by
 unfold qht qrq ltD
 rw [qI,eqD]
 by_cases h:a=b
 ·subst h; rw [decide_eq_true rfl,WH]; rfl
 ·rw [decide_eq_false h]; rfl
end
end Go.Rx
end
set_option maxRecDepth 100000
noncomputable section
namespace Go.Rx
open Go.Proofs
open Go.Lib (compareBytes)
section
variable {N:Nat} [ZB N]
theorem qUQ {x y : Bool} {p : Prop} (h : (x = true ∧ y = false) ∨ p ∨ (y = true ∧ x = false)) (hp : p → x = false ∧ y = false) :
    ∃ n:Int,(Tree.cond x (.ret (-1:Int)) (.cond y (.ret 1) (.ret 0))).run some=some n∧(decide (n=0)=true↔p)∧(¬ p→decide (n < 0)=x):=by
 rcases h with ⟨h1,h2⟩ | h1 | ⟨h1,h2⟩
 ·subst h1; subst h2
  exact ⟨-1,rfl,⟨fun h=>by simp at h,fun h=>by have:=(hp h).1; simp at this⟩,fun _=>rfl⟩
 ·obtain ⟨h2,h3⟩:=hp h1
  subst h2; subst h3
  exact ⟨0,rfl,⟨fun _=>h1,fun _=>rfl⟩,fun h=>(h h1).elim⟩
 ·subst h1; subst h2
  exact ⟨1,rfl,⟨fun h=>by simp at h,fun h=>by have:=(hp h).2; simp at this⟩,fun _=>rfl⟩
theorem qQM (a b:qd):∃ n:Int,KY N a b=some n∧(decide (n=0)=true↔a=b)∧(a≠b→decide (n < 0)=slB a b):=by
 obtain ⟨n,h1,h2,h3⟩:=qUQ (Y8 a b) fun h=>by subst h; exact ⟨Q6 a,Q6 a⟩
 refine ⟨n,?_,h2,h3⟩
 unfold KY qbZ
 rw [run_bind,XN,Option.bind_some,← h1,qI,qI,run_bind,XN,Option.bind_some]
theorem qQB (a b:Vector UInt8 32):∃ n:Int,YU a b=some n∧(decide (n=0)=true↔a=b)∧(a≠b→decide (n < 0)=ltD a b):=by
 have ht:(ltD a b=true∧ltD b a=false)∨a=b∨(ltD b a=true∧ltD a b=false):=by
  rcases qkl a.toList b.toList with h | h | h
  ·exact .inl h
  ·exact .inr (.inl (Vector.toList_inj.1 h))
  ·exact .inr (.inr h)
 obtain ⟨n,h1,h2,h3⟩:=qUQ ht fun h=>by subst h; exact ⟨WH _,WH _⟩
 refine ⟨n,?_,h2,h3⟩
 unfold YU qa9
 rw [run_bind,qrW,Option.bind_some,← h1,qI,qI,run_bind,qrW,Option.bind_some]
theorem qWT (a b:List UInt8):∃ n:Int,W_ a b=some n∧(decide (n=0)=true↔a=b)∧(a≠b→decide (n < 0)=ltB a b):=by
 have e:∀ x:List UInt8,KR x=some ():=fun x=>rfl
 have g:(!(Op.bytesLess a b||decide (a=b)))=ltB b a:=by
  rw [qAi]
  rcases qkl a b with h | h | h
  ·rw [h.1,h.2]; rfl
  ·subst h; rw [decide_eq_true rfl,WH]; rfl
  ·have:a≠b:=fun e=>by subst e; rw [WH] at h; simp at h
   rw [h.1,h.2,decide_eq_false this]; rfl
 obtain ⟨n,h1,h2,h3⟩:=qUQ (qkl a b) fun h=>by subst h; exact ⟨WH _,WH _⟩
 refine ⟨n,?_,h2,h3⟩
 unfold W_ qac
 refine qu (e a) (qu (e b) (w_f (by rw [decide_eq_true rfl]; rfl) (w_f (by rw [decide_eq_true rfl]; rfl) ?_)))
 rw [← h1,qI,qI,qI,qI,qAi a b,← g,qAi a b]
theorem qUC {a b:qe} (ha:a.V.length≤50000) (hb:b.V.length≤50000):qmq N a b=some (j8 a b):=by
 obtain ⟨n1,e1,z1,l1⟩:=qQM (N:=N) a.S b.S
 obtain ⟨n2,e2,z2,l2⟩:=qQB (zJ a.V) (zJ b.V)
 obtain ⟨n3,e3,z3,l3⟩:=qWT a.V b.V
 have f1:qhL N a b=some n1:=by unfold qhL qiv; exact qu e1 (qC rfl)
 have f2:qhN N a b=some n2:=by unfold qhN qiC; exact qu (qho ha) (qu (qho hb) (qu e2 (qC rfl)))
 have f3:qhC a b=some n3:=by unfold qhC qiJ; exact qu e3 (qC rfl)
 have key:∃ M,N=M + 1:=⟨N - 1,by have:=big N; omega⟩
 obtain ⟨M,hM⟩:=key
 have z:∀ {n:Int} {p:Prop},(decide (n=0)=true↔p)→p→(!decide (n=0))=false:=fun h hp=>by rw [h.2 hp]; rfl
 have nz:∀ {n:Int} {p:Prop},(decide (n=0)=true↔p)→¬ p→(!decide (n=0))=true:=fun {n} {p} h hp=>by
  cases e:decide (n=0) with
  | false=>rfl
  | true=>exact (hp (h.1 e)).elim
 have hl:qfV N a b=some (if a.S=b.S∧zJ a.V=zJ b.V∧a.V=b.V then .inr () else .inl (j8 a b)):=by
  have s1:qfV N a b=qV (qc6 N a b) (qg9 N N (a,b)) (M + 1) ():=by rw [← hM]; rfl
  rw [s1]
  by_cases h1:a.S=b.S
  ·rw [jb (x:=.inl ()) (by unfold qc6; exact qY (by omega) (qu f1 (w_f (z z1 h1) (qC rfl))))]
   show qV (JJ N a b) (Xo N N (a,b)) N ()=_
   rw [show qV (JJ N a b) (Xo N N (a,b)) N ()=qV (JJ N a b) (Xo N N (a,b)) (M + 1) () by rw [← hM]]
   by_cases h2:zJ a.V=zJ b.V
   ·rw [jb (x:=.inl ()) (by unfold JJ; exact qY (by omega) (qu f2 (w_f (z z2 h2) (qC rfl))))]
    show qV (JG N a b) (Xy N N (a,b)) N ()=_
    rw [show qV (JG N a b) (Xy N N (a,b)) N ()=qV (JG N a b) (Xy N N (a,b)) (M + 1) () by rw [← hM]]
    by_cases h3:a.V=b.V
    ·rw [jb (x:=.inl ()) (by unfold JG; exact qY (by omega) (qu f3 (w_f (z z3 h3) (qC rfl))))]
     show qV (Xt N a b) some N ()=_
     rw [show qV (Xt N a b) some N ()=qV (Xt N a b) some (M + 1) () by rw [← hM]]
     rw [jb (x:=.inr ()) (by unfold Xt; exact qC rfl),if_pos ⟨h1,h2,h3⟩]
    ·rw [jb (x:=.inr (.inl (decide (n3 < 0)))) (by unfold JG; exact qY (by omega) (qu f3 (w_t (nz z3 h3) (qC rfl)))),if_neg (fun h=>h3 h.2.2)]
     show some (Sum.inl (decide (n3 < 0)))=_
     rw [l3 h3]
     unfold j8
     rw [if_pos h1,if_pos h2]
   ·rw [jb (x:=.inr (.inl (decide (n2 < 0)))) (by unfold JJ; exact qY (by omega) (qu f2 (w_t (nz z2 h2) (qC rfl)))),if_neg (fun h=>h2 h.2.1)]
    show some (Sum.inl (decide (n2 < 0)))=_
    rw [l2 h2]
    unfold j8
    rw [if_pos h1,if_neg h2]
  ·rw [jb (x:=.inr (.inl (decide (n1 < 0)))) (by unfold qc6; exact qY (by omega) (qu f1 (w_t (nz z1 h1) (qC rfl)))),if_neg (fun h=>h1 h.1)]
   show some (Sum.inl (decide (n1 < 0)))=_
   rw [l1 h1]
   unfold j8
   rw [if_neg h1]
 unfold qmq qnL
 refine qu hl ?_
 by_cases h:a.S=b.S∧zJ a.V=zJ b.V∧a.V=b.V
 ·rw [if_pos h]
  show some false=_
  unfold j8
  rw [if_pos h.1,if_pos h.2.1,h.2.2,WH]
 ·rw [if_neg h]; rfl
theorem qYU {a b:qe} (ha:a.V.length≤50000) (hb:b.V.length≤50000):qmP N a b=some (cJ a b):=by
 unfold qmP qnJ cJ
 refine qu (qUC ha hb) ?_
 cases j8 a b<;>rfl
theorem qX_ (a b:qd):qm_ N a b=some (mxS a b):=by
 unfold qm_ qoF mxS
 refine qu (XN _ _) ?_
 cases slB a b<;>rfl
end
end Go.Rx
end
set_option maxRecDepth 100000
noncomputable section
namespace Go.Rx
open Go.Proofs
section
variable {N:Nat} [ZB N]
theorem qWR {l : List qc} (h8 : l.length ≤ 600) (hV : ∀ k, k < l.length → (l.getD k zF).C.V.length ≤ 200) {c : Nat} {M : List (Int × qe × Nat)} {g : Int → Option qe} (hM : ∀ no, qcm no M = g no) (hg : qj3 g) :
    ∃ c' M',qa6 N l ((l.length:Nat):Int) c M 0=some (c',M',((l.length:Nat):Int),false)∧(∀ no,qcm no M'=l.foldl WY g no)∧qj3 (l.foldl WY g):=by
 have key:∃ y,qV (ZS N l ((l.length:Nat):Int)) some N (c,M,((0:Nat):Int))=some y∧∃ c' M',y=(c',M',((l.length:Nat):Int),false)∧(∀ no,qcm no M'=l.foldl WY g no)∧qj3 (l.foldl WY g):=by
  refine Xg (I:=fun v=>∃ (k c':Nat) (M':List (Int×qe×Nat)),k≤l.length∧v=(c',M',(k:Int))∧(∀ no,qcm no M'=(l.take k).foldl WY g no)∧qj3 ((l.take k).foldl WY g)) (fun v=>l.length - v.2.2.toNat) ?_ N _ ⟨0,c,M,Nat.zero_le _,rfl,hM,hg⟩ (by have:=big N; simp; omega)
  rintro v ⟨k,c',M',hk,rfl,hi,hs⟩
  by_cases h:k < l.length
  ·left
   have et:(l.take (k + 1)).foldl WY g=WY ((l.take k).foldl WY g) (l.getD k zF):=by
    rw [List.take_succ_eq_append_getElem h,List.foldl_append,List.getD_eq_getElem?_getD,List.getElem?_eq_getElem h]; rfl
   have hs':qj3 ((l.take (k + 1)).foldl WY g):=by rw [et]; exact qOF hs (hV k h)
   have hno:=hi (l.getD k zF).No
   unfold qcm at hno
   cases e:fnd (β:=qe) (.i .i64) (l.getD k zF).No M' with
   | none=>
    rw [e] at hno
    refine ⟨((Jc (.i .i64) (qc.No (l.getD k zF)) (qc.C (l.getD k zF)) c' M').1,(Jc (.i .i64) (qc.No (l.getD k zF)) (qc.C (l.getD k zF)) c' M').2,((k + 1:Nat):Int)),?_,⟨k + 1,_,_,h,rfl,?_,hs'⟩,by simp only [Int.toNat_natCast]; omega⟩
    ·unfold ZS
     exact w_t (dec_lt h) (qu (zO (d:=zF) h) (qIU e (qY (jm (by omega)) (qC (by rw [zf])))))
    ·intro no
     rw [qIs,et,qIQ]
     by_cases hq:no=(l.getD k zF).No
     ·rw [if_pos hq,if_pos hq.symm,hq,← hno]; rfl
     ·rw [if_neg hq,if_neg (fun e=>hq e.symm),hi no]
   | some x=>
    rw [e] at hno
    have hx:x.1.V.length≤200:=hs _ _ hno.symm
    refine ⟨((Jc (.i .i64) (qc.No (l.getD k zF)) (cJ x.1 (qc.C (l.getD k zF))) c' M').1,(Jc (.i .i64) (qc.No (l.getD k zF)) (cJ x.1 (qc.C (l.getD k zF))) c' M').2,((k + 1:Nat):Int)),?_,⟨k + 1,_,_,h,rfl,?_,hs'⟩,by simp only [Int.toNat_natCast]; omega⟩
    ·unfold ZS
     exact w_t (dec_lt h) (qu (zO (d:=zF) h) (qBF e (qu (qYU (by omega) (by have:(l.getD k zF).C.V.length≤200:=hV k h; omega)) (qY (jm (by omega)) (qC (by rw [zf]))))))
    ·intro no
     rw [qIs,et,qIQ]
     by_cases hq:no=(l.getD k zF).No
     ·rw [if_pos hq,if_pos hq.symm,hq,← hno]; rfl
     ·rw [if_neg hq,if_neg (fun e=>hq e.symm),hi no]
  ·right
   obtain rfl:k=l.length:=by omega
   refine ⟨(c',M',((l.length:Nat):Int),false),_,?_,rfl,c',M',rfl,?_⟩
   ·unfold ZS
    exact w_f (zn (Nat.lt_irrefl _)) (qC (by rw [zn (Nat.lt_irrefl _)]))
   ·rw [List.take_of_length_le (Nat.le_refl _)] at hi hs
    exact ⟨hi,hs⟩
 obtain ⟨y,e,c',M',rfl,h⟩:=key
 exact ⟨c',M',e,h⟩
theorem qM5 {r : qa} (hr : zZ r = true) {c : Nat} {M : List (Int × qe × Nat)} {g : Int → Option qe} (hM : ∀ no, qcm no M = g no) (hg : qj3 g) :
    ∃ c' M',Wo N c M r=some (c',M')∧(∀ no,qcm no M'=jC (g no) (cO r.F no))∧qj3 (r.F.foldl WY g):=by
 have h8:=J_ hr
 obtain ⟨c',M',e,h,hs⟩:=qWR (N:=N) (l:=r.F) (by omega) (fun k hk=>qhd (Jv.1 ((Vl.1 hr).2.2 k hk)).2.2.1) (c:=c) hM hg
 refine ⟨c',M',?_,fun no=>?_,hs⟩
 ·unfold Wo qbE
  exact qu e (qC rfl)
 ·rw [h,qC6 (qJk hr)]
theorem qTj {o : List qc} {c : Nat} {M : List (Int × qe × Nat)} {o5 : Vector UInt8 16} {o6 : qd} {o7 : Vector UInt8 16} {o8 dead : qd} :
    VY N o [] c M o5 o6 o7 o8 dead=some (Jz (fun no=>qcm no M) dead 8 0):=by
 have key:Wb N o c M o5 o6 o7 o8 dead [] 0=some (Jn (fun k s=>s++qmR dead k (qcm (k:Int) M)) 8 0 [],(8:Int),false):=by
  refine jU (σ:=List qc) (B:=ZJ N o c M o5 o6 o7 o8 dead) (g:=some) (at_:=fun k s=>(s,(k:Int))) (I:=fun k s=>s.length≤k) (f:=fun k s=>s++qmR dead k (qcm (k:Int) M)) (n:=8)
   (fin:=fun s=>(s,(8:Int),false)) (fun k s hk hs=>⟨?_,?_⟩) (fun s _=>?_) N 0 [] (Nat.le_refl _) (Nat.zero_le _) (by have:=big N; omega)
  ·have d8:decide ((k:Int) < 8)=true:=decide_eq_true (by omega)
   unfold ZJ
   refine w_t d8 ?_
   unfold qcm
   cases e:fnd (β:=qe) (.i .i64) (k:Int) M with
   | none=>exact qIU rfl (qY (jm (by omega)) (qC (by rw [zf]; show _=some (Sum.inl (s++[],_)); rw [List.append_nil])))
   | some x=>
    refine qBF rfl (qu (XN _ _) ?_)
    have hk2:qmR dead k (Option.map (fun x=>x.1) (some x))=if slB dead x.1.S=true then [qc.mk (k:Int) x.1] else []:=rfl
    rw [hk2]
    cases hb:slB dead (qe.S x.1) with
    | false=>
     rw [if_neg (by simp),List.append_nil]
     exact w_f rfl (qY (jm (by omega)) (qC (by rw [zf])))
    | true=>
     rw [if_pos rfl]
     have er:KW o s c M o5 o6 o7 o8 dead (qc.mk (k:Int) x.1)=some ():=by
      unfold KW qcs
      exact qY ⟨rfl,by rw [List.length_append]; unfold zi; simp; omega⟩ (qC rfl)
     exact w_t rfl (qu ((zo rfl).trans ((zo rfl).trans er)) (qY (jm (by omega)) (qC (by rw [zf]))))
  ·have:=qE8 (dead:=dead) (k:=k) (c:=qcm (k:Int) M)
   rw [List.length_append]; omega
  ·unfold ZJ
   exact w_f rfl (qC rfl)
 unfold VY Ww
 refine qu ((zo rfl).trans ((zo rfl).trans key)) (qC ?_)
 rw [qus (g:=fun no=>qcm no M),List.nil_append]
theorem qYM {a b:qa} (ha:zZ a=true) (hb:zZ b=true) (hid:a.ID=b.ID):qqk N a b=some (rJ a b,true):=by
 have hN:=big N
 have h8a:=J_ ha
 have h8b:=J_ hb
 obtain ⟨c1,M1,e1,h1,s1⟩:=qM5 (N:=N) ha (c:=0) (M:=[]) (g:=fun _=>none) (fun no=>rfl) (fun no c h=>by cases h)
 obtain ⟨c2,M2,e2,h2,_⟩:=qM5 (N:=N) hb (c:=c1) (M:=M1) (g:=fun no=>cO a.F no) (fun no=>by rw [h1]; rfl) (by
  have:(a.F.foldl WY fun _=>none)=fun no=>cO a.F no:=by funext no; rw [qC6 (qJk ha)]; rfl
  rw [← this]; exact s1)
 have ef:=qTj (N:=N) (o:=[]) (c:=c2) (M:=M2) (o5:=Vector.replicate 16 0) (o6:=qd.mk 0 0) (o7:=a.ID) (o8:=mxS a.qB b.qB) (dead:=mxS a.qB b.qB)
 have eg:(fun no=>qcm no M2)=fun no=>jC (cO a.F no) (cO b.F no):=funext h2
 rw [eg] at ef
 unfold qqk qrS
 exact qu (qwl (by omega) (by omega)) (w_f (by rw [ha]; rfl) (qu (qwl (by omega) (by omega)) (w_f (by rw [hb]; rfl) (w_f (by rw [qDS]; show (!decide (a.ID=b.ID))=false; rw [decide_eq_true hid]; rfl)
  (qu e1 (qu e2 (qu (qX_ _ _) (qu rfl (qu ((zo rfl).trans ((zo rfl).trans ef)) (qY rfl (qC rfl)))))))))))
end
end Go.Rx
end
set_option maxRecDepth 100000
noncomputable section
namespace Go.Rx
open Go.Proofs
section n
variable {N:Nat} [ZB N]
theorem qPz {l:List qa} {id:Vector UInt8 16} (h:l.length≤600):XG N id l=some (qNP (qg1 l id)):=by
 have key:=qeW (B:=QE N id l ((l.length:Nat):Int)) (g:=some) (p:=fun k=>decide ((l.getD k zR).ID=id)) (n:=l.length) (hit:=fun k=>.inl (k:Int)) (fin:=.inr (((l.length:Nat):Int),false)) (fun k hk=>by
  unfold QE qnN qiO
  rw [qI,dec_lt hk,cond_true,run_bind,zO (d:=zR) hk,Option.bind_some,run_bind,qP,Option.bind_some,qI,qDS,qP,qX,qj (show qw ((k:Int) + 1) by unfold qw; omega),qP,zf]
  cases decide ((l.getD k zR).ID=id)<;>rfl) (by
  unfold QE
  rw [qI,zn (Nat.lt_irrefl _),cond_false,qP]) N 0 (Nat.zero_le _) (by have:=big N; omega)
 have e:Wv N id l ((l.length:Nat):Int) 0=qV (QE N id l ((l.length:Nat):Int)) some N ((0:Nat):Int):=rfl
 unfold XG Yq
 rw [run_bind,e,key,Nat.sub_zero]
 unfold qg1
 cases Qm (fun k=>decide ((l.getD k zR).ID=id)) l.length 0<;>rfl
theorem qQ7 {l:List qc} {no:Int} (h:l.length≤600):Vx N no l=some (qNP (qiy l no)):=by
 have key:=qeW (B:=vX N no l ((l.length:Nat):Int)) (g:=some) (p:=fun k=>decide ((l.getD k zF).No=no)) (n:=l.length) (hit:=fun k=>.inl (k:Int)) (fin:=.inr (((l.length:Nat):Int),false)) (fun k hk=>by
  unfold vX qrz qlh
  rw [qI,dec_lt hk,cond_true,run_bind,zO (d:=zF) hk,Option.bind_some,run_bind,qP,Option.bind_some,qI,qP,qX,qj (show qw ((k:Int) + 1) by unfold qw; omega),qP,zf]
  cases decide ((l.getD k zF).No=no)<;>rfl) (by
  unfold vX
  rw [qI,zn (Nat.lt_irrefl _),cond_false,qP]) N 0 (Nat.zero_le _) (by have:=big N; omega)
 have e:XH N no l ((l.length:Nat):Int) 0=qV (vX N no l ((l.length:Nat):Int)) some N ((0:Nat):Int):=rfl
 unfold Vx X9
 rw [run_bind,e,key,Nat.sub_zero]
 unfold qiy
 cases Qm (fun k=>decide ((l.getD k zF).No=no)) l.length 0<;>rfl
theorem qEB {l:List qc} (h:l.length≤1000000):Zx l=some ():=by
 unfold Zx
 cases l with
 | nil=>kernel_rfl
 | cons x r=>
  show qbT (x::r)=_
  unfold qbT KV
  have h2:jG ([]:List qc).length 0 ([]++x::r).length 40:=⟨rfl,by rw [List.nil_append]; unfold zi; omega⟩
  rw [qX,qj (List.isEmpty_cons),qX,qj h2,qX,qj rfl,qP]
theorem qTR {b:qb} (h:zw b=true) (id:Vector UInt8 16):qmQ N b id=some (recAt b id):=by
 have hb:=XR.1 h
 unfold qmQ qnT recAt
 rw [run_bind,qPz (by omega),Option.bind_some]
 cases e:qg1 b.R id with
 | none=>rfl
 | some i=>
  have hi:=(qdK e).1
  have hn:decide (((i:Nat):Int) < 0)=false:=decide_eq_false (by omega)
  have hF:=J_ (hb.1 i hi).1
  have ho:qeO (b.R.getD i zR)=some ():=by
   unfold qeO qkd
   rw [run_bind,qEB (by omega),Option.bind_some,qP]
  show (Tree.cond (decide (((i:Nat):Int) < 0)) _ (Tree.bind (zl (qb.R b) ((i:Nat):Int)) _)).run some=_
  rw [qI,hn,cond_false,run_bind,zO (d:=zR) hi,Option.bind_some,run_bind,ho,Option.bind_some,qP]
  rfl
theorem qVx {r:qa} (h:r.F.length≤8) (no:Int):qrx N r no=some (cellAt r no):=by
 unfold qrx qp_ cellAt
 rw [run_bind,qQ7 (by omega),Option.bind_some]
 cases e:qiy r.F no with
 | none=>rfl
 | some i=>
  have hi:=(qdK e).1
  have hn:decide (((i:Nat):Int) < 0)=false:=decide_eq_false (by omega)
  show (Tree.cond (decide (((i:Nat):Int) < 0)) _ (Tree.bind (zl (qa.F r) ((i:Nat):Int)) _)).run some=_
  rw [qI,hn,cond_false,run_bind,zO (d:=zF) hi,Option.bind_some,qP]
end n
end Go.Rx
end
set_option maxRecDepth 100000
noncomputable section
namespace Go.Rx
open Go.Proofs
def qv5 (g:Vector UInt8 16→Option qa) (r:qa) (id:Vector UInt8 16):Option qa:=if r.ID=id then jR (g id) (some r) else g id
theorem qyZ {g:Vector UInt8 16→Option qa} {r:qa} {id:Vector UInt8 16}:qv5 g r id=if r.ID=id then jR (g id) (some r) else g id:=rfl
theorem Q5 {x:Option qa}:jR x none=x:=by cases x<;>rfl
theorem qDE:∀ {l:List qa} {g:Vector UInt8 16→Option qa} {id:Vector UInt8 16},qaZ l→l.foldl qv5 g id=jR (g id) (rO l id)
 | [],g,id,_=>by rw [qBY,Q5]; rfl
 | r::l,g,id,h=>by
  have hp:=List.pairwise_cons.1 h
  rw [List.foldl_cons,qDE hp.2,VI,qyZ]
  by_cases e:r.ID=id
  ·rw [if_pos e,if_pos e]
   have:rO l id=none:=by
    cases hc:rO l id with
    | none=>rfl
    | some x=>
     have:=hp.1 x (QJ hc).1
     rw [e,(QJ hc).2,qeC] at this; cases this
   rw [this,Q5]
  ·rw [if_neg e,if_neg e]
def XI (id:Vector UInt8 16) (M:List (Vector UInt8 16×qa×Nat)):Option qa:=(fnd (β:=qa) (.ba 16) id M).map (·.1)
theorem qH7 {q k:Vector UInt8 16} {p:qa} {c:Nat} {M:List (Vector UInt8 16×qa×Nat)}:XI q (Jc (β:=qa) (.ba 16) k p c M).2=if q=k then some p else XI q M:=by
 have:=@qyX (El (.ba 16)) qa (JN (.ba 16)) k q p c M
 rw [show XI q (Jc (β:=qa) (.ba 16) k p c M).2=@qzm (El (.ba 16)) qa (JN (.ba 16)) q (@qkJ (El (.ba 16)) qa (JN (.ba 16)) k p c M).2 from rfl,this]
 by_cases h:q=k
 ·rw [if_pos h]; exact if_pos h
 ·rw [if_neg h]; exact if_neg h
structure qVp (l:List qa) (nm:List (Vector UInt8 16)) (M:List (Vector UInt8 16×qa×Nat)):Prop where
 nd:nm.Nodup
 val:∀ id,XI id M=l.foldl qv5 (fun _=>none) id
 mem:∀ id,id∈nm↔XI id M≠none
 ok:∀ id r,XI id M=some r→zZ r=true∧r.ID=id
 len:nm.length≤l.length
def qdA (M:List (Vector UInt8 16×qa×Nat)) (l:List (Vector UInt8 16)):List qa:=l.map fun id=>(XI id M).getD zR
theorem qPv {M:List (Vector UInt8 16×qa×Nat)} {id:Vector UInt8 16}:∀ {l:List (Vector UInt8 16)},(∀ i∈l,∃ r,XI i M=some r∧r.ID=i)→rO (qdA M l) id=if id∈l then XI id M else none
 | [],_=>by rw [if_neg List.not_mem_nil]; rfl
 | i::l,h=>by
  obtain ⟨r,e,hr⟩:=h i (List.mem_cons_self ..)
  show rO ((XI i M).getD zR::qdA M l) id=_
  rw [e,VI,qPv fun j hj=>h j (List.mem_cons_of_mem _ hj)]
  by_cases c:i=id
  ·subst c
   rw [if_pos (show (Option.getD (some r) zR).ID=i from hr),if_pos (List.mem_cons_self ..),e]; rfl
  ·rw [if_neg (show ¬ (Option.getD (some r) zR).ID=id from fun h'=>c (hr.symm.trans h'))]
   by_cases m:id∈l
   ·rw [if_pos m,if_pos (List.mem_cons_of_mem _ m)]
   ·rw [if_neg m,if_neg (fun hm=>by rcases List.mem_cons.1 hm with e' | e'; exact c e'.symm; exact m e')]
section
variable {N:Nat} [ZB N]
theorem qE4 {α:Type} {l:List (List α)} {k:Nat} (h:k < l.length):(l.take (k + 1)).flatten=(l.take k).flatten++l.getD k []:=by
 rw [qew (d:=[]) h,List.flatten_append]; simp
theorem qMz {α:Type} {l:List (List α)} {k:Nat}:(l.take k).flatten.length≤l.flatten.length:=by
 have:(l.take k).flatten++(l.drop k).flatten=l.flatten:=by rw [← List.flatten_append,List.take_append_drop]
 rw [← this,List.length_append]; omega
theorem qNw {l:List (List qa)} (hl:l.length≤1000) (hf:l.flatten.length≤1000):YQ N l=some l.flatten:=by
 have hN:=big N
 have k1:K8 N l l ((l.length:Nat):Int) 0 0=some (((l.flatten.length:Nat):Int),((l.length:Nat):Int),false):=by
  refine jU (σ:=Unit) (B:=Vv N l l ((l.length:Nat):Int)) (g:=some) (at_:=fun k _=>((((l.take k).flatten.length:Nat):Int),(k:Int))) (I:=fun _ _=>True) (f:=fun _ s=>s) (n:=l.length)
   (fin:=fun _=>(((l.flatten.length:Nat):Int),((l.length:Nat):Int),false)) (fun k s hk _=>⟨?_,trivial⟩) (fun s _=>?_) N 0 () trivial (Nat.zero_le _) (by omega)
  ·have e1:(((l.take k).flatten.length:Nat):Int) + (((l.getD k []).length:Nat):Int)=(((l.take (k + 1)).flatten.length:Nat):Int):=by rw [qE4 hk,List.length_append]; omega
   have h2:=qMz (l:=l) (k:=k + 1)
   unfold Vv
   refine w_t (dec_lt hk) (qu (zO (d:=[]) hk) ?_)
   dsimp only
   rw [e1]
   exact qY (by unfold qw; omega) (w_f (decide_eq_false (by omega)) (qY (jm (by omega)) (qC (by rw [zf]))))
  ·unfold Vv
   exact w_f (zn (Nat.lt_irrefl _)) (qC (by rw [zn (Nat.lt_irrefl _),List.take_of_length_le (Nat.le_refl _)]))
 have k2:VZ N l ((l.length:Nat):Int) [] 0=some (l.flatten,((l.length:Nat):Int),false):=by
  refine jU (σ:=Unit) (B:=JQ N l ((l.length:Nat):Int)) (g:=some) (at_:=fun k _=>((l.take k).flatten,(k:Int))) (I:=fun _ _=>True) (f:=fun _ s=>s) (n:=l.length)
   (fin:=fun _=>(l.flatten,((l.length:Nat):Int),false)) (fun k s hk _=>⟨?_,trivial⟩) (fun s _=>?_) N 0 () trivial (Nat.zero_le _) (by omega)
  ·have h2:=qMz (l:=l) (k:=k + 1)
   unfold JQ
   refine w_t (dec_lt hk) (qu (zO (d:=[]) hk) ?_)
   dsimp only
   rw [← qE4 hk]
   exact qY ⟨rfl,by unfold zi; omega⟩ (qY (jm (by omega)) (qC (by rw [zf])))
  ·unfold JQ
   exact w_f (zn (Nat.lt_irrefl _)) (qC (by rw [zn (Nat.lt_irrefl _),List.take_of_length_le (Nat.le_refl _)]))
 unfold YQ qbc
 refine qu k1 ?_
 by_cases h0:l.flatten.length=0
 ·have kg : VX ((l.flatten.length : Nat) : Int) = some (.inr ()) := by
     unfold VX YM
     exact w_f (decide_eq_false (by omega)) (qY (by unfold qw; omega) (w_f (decide_eq_false (by omega)) (qC rfl)))
  exact qu kg (w_r rfl (qu ((zo rfl).trans k2) (qY rfl (qC rfl))))
 ·have kg : VX ((l.flatten.length : Nat) : Int) = some (.inl ()) := by
     unfold VX YM
     exact w_f (decide_eq_false (by omega)) (qY (by unfold qw; omega) (w_t (decide_eq_true (by omega)) (qY ⟨by omega,by unfold zi; omega⟩ (qC rfl))))
  exact qu kg (w_l rfl (qu ((zo rfl).trans k2) (qY rfl (qC rfl))))
theorem qXm {r:qa} (h:zZ r=true):qeO r=some ():=by
 unfold qeO qkd
 exact qu (qEB (by have:=J_ h; omega)) (qC rfl)
theorem qUj {L : List qa} (hl : L.length ≤ 1000) (hr : ∀ r ∈ L, zZ r = true) :
    ∃ nm c M,qkA N [] L ((L.length:Nat):Int) [] 0 [] 0=some (nm,c,M,((L.length:Nat):Int),false)∧qVp L nm M:=by
 have hN:=big N
 have key:∃ y,qV (Kc N [] L ((L.length:Nat):Int)) some N ([],0,[],((0:Nat):Int))=some y∧∃ nm c M,y=(nm,c,M,((L.length:Nat):Int),false)∧qVp L nm M:=by
  refine Xg (I:=fun v=>∃ (k:Nat) (nm:List (Vector UInt8 16)) (c:Nat) (M:List (Vector UInt8 16×qa×Nat)),k≤L.length∧v=(nm,c,M,(k:Int))∧qVp (L.take k) nm M) (fun v=>L.length - v.2.2.2.toNat) ?_ N _ ⟨0,[],0,[],Nat.zero_le _,rfl,⟨List.nodup_nil,fun _=>rfl,fun id=>⟨fun h=>absurd h List.not_mem_nil,fun h=>(h rfl).elim⟩,fun _ _ h=>(by cases h),Nat.le_refl _⟩⟩ (by simp; omega)
  rintro v ⟨k,nm,c,M,hk,rfl,hi⟩
  by_cases h:k < L.length
  ·left
   have hmem:L.getD k zR∈L:=by rw [List.getD_eq_getElem?_getD,List.getElem?_eq_getElem h]; exact List.getElem_mem h
   have hrec:=hr _ hmem
   have et:∀ id,(L.take (k + 1)).foldl qv5 (fun _=>none) id=qv5 ((L.take k).foldl qv5 fun _=>none) (L.getD k zR) id:=fun id=>by
    rw [qew (d:=zR) h,List.foldl_append]; rfl
   have hlk:(L.take k).length=k:=by rw [List.length_take]; omega
   have hlk1:(L.take (k + 1)).length=k + 1:=by rw [List.length_take]; omega
   have hv:=hi.val (L.getD k zR).ID
   have hnl:=hi.len
   cases e:fnd (β:=qa) (.ba 16) (L.getD k zR).ID M with
   | none=>
    have hn:XI (L.getD k zR).ID M=none:=by unfold XI; rw [e]; rfl
    rw [hn] at hv
    refine ⟨(nm++[(L.getD k zR).ID],(Jc (.ba 16) (qa.ID (L.getD k zR)) (L.getD k zR) c M).1,(Jc (.ba 16) (qa.ID (L.getD k zR)) (L.getD k zR) c M).2,((k + 1:Nat):Int)),?_,⟨k + 1,_,_,_,h,rfl,?_⟩,by simp only [Int.toNat_natCast]; omega⟩
    ·unfold Kc
     exact w_t (dec_lt h) (qu (zO (d:=zR) h) (qIU e (qY ⟨rfl,by rw [List.length_append]; unfold zi; simp; omega⟩ (qu (qXm hrec) (qY (jm (by omega)) (qC (by rw [zf]; rfl)))))))
    ·have hpv:∀ id,XI id (Jc (.ba 16) (qa.ID (L.getD k zR)) (L.getD k zR) c M).2=if id=(L.getD k zR).ID then some (L.getD k zR) else XI id M:=fun id=>qH7
     refine ⟨?_,fun id=>?_,fun id=>?_,fun id r hr'=>?_,?_⟩
     ·refine List.nodup_append.2 ⟨hi.nd,List.nodup_cons.2 ⟨List.not_mem_nil,List.nodup_nil⟩,fun a ha b hb=>?_⟩
      obtain rfl:=List.mem_singleton.1 hb
      intro hab
      rw [hab] at ha
      exact (hi.mem _).1 ha hn
     ·rw [hpv,et,qyZ]
      by_cases q:id=(L.getD k zR).ID
      ·rw [if_pos q,if_pos q.symm,q,← hv]; rfl
      ·rw [if_neg q,if_neg (fun x=>q x.symm),hi.val]
     ·rw [hpv,List.mem_append,List.mem_singleton,hi.mem]
      by_cases q:id=(L.getD k zR).ID
      ·rw [if_pos q]; exact ⟨fun _=>by simp,fun _=>.inr q⟩
      ·rw [if_neg q]; exact ⟨fun x=>x.resolve_right q,fun x=>.inl x⟩
     ·rw [hpv] at hr'
      by_cases q:id=(L.getD k zR).ID
      ·rw [if_pos q] at hr'
       obtain rfl:=Option.some.inj hr'
       exact ⟨hrec,q.symm⟩
      ·rw [if_neg q] at hr'; exact hi.ok id r hr'
     ·rw [hlk1,List.length_append]; simp; omega
   | some x=>
    have hn:XI (L.getD k zR).ID M=some x.1:=by unfold XI; rw [e]; rfl
    rw [hn] at hv
    have hx:=hi.ok _ _ hn
    have ej:=qYM (N:=N) hx.1 hrec hx.2
    refine ⟨(nm,(Jc (.ba 16) (qa.ID (L.getD k zR)) (rJ x.1 (L.getD k zR)) c M).1,(Jc (.ba 16) (qa.ID (L.getD k zR)) (rJ x.1 (L.getD k zR)) c M).2,((k + 1:Nat):Int)),?_,⟨k + 1,_,_,_,h,rfl,?_⟩,by simp only [Int.toNat_natCast]; omega⟩
    ·unfold Kc
     exact w_t (dec_lt h) (qu (zO (d:=zR) h) (qBF e (qu ej (qY (jm (by omega)) (qC (by rw [zf]))))))
    ·have hpv:∀ id,XI id (Jc (.ba 16) (qa.ID (L.getD k zR)) (rJ x.1 (L.getD k zR)) c M).2=if id=(L.getD k zR).ID then some (rJ x.1 (L.getD k zR)) else XI id M:=fun id=>qH7
     refine ⟨hi.nd,fun id=>?_,fun id=>?_,fun id r hr'=>?_,?_⟩
     ·rw [hpv,et,qyZ]
      by_cases q:id=(L.getD k zR).ID
      ·rw [if_pos q,if_pos q.symm,q,← hv]; rfl
      ·rw [if_neg q,if_neg (fun x=>q x.symm),hi.val]
     ·rw [hpv,hi.mem]
      by_cases q:id=(L.getD k zR).ID
      ·rw [if_pos q,q,hn]; simp
      ·rw [if_neg q]
     ·rw [hpv] at hr'
      by_cases q:id=(L.getD k zR).ID
      ·rw [if_pos q] at hr'
       obtain rfl:=Option.some.inj hr'
       exact ⟨Wn hx.1 hrec,by rw [qYP,hx.2,q]⟩
      ·rw [if_neg q] at hr'; exact hi.ok id r hr'
     ·rw [hlk1]; omega
  ·right
   obtain rfl:k=L.length:=by omega
   rw [List.take_of_length_le (Nat.le_refl _)] at hi
   refine ⟨(nm,c,M,((L.length:Nat):Int),false),_,?_,rfl,nm,c,M,rfl,hi⟩
   unfold Kc
   exact w_f (zn (Nat.lt_irrefl _)) (qC (by rw [zn (Nat.lt_irrefl _)]))
 obtain ⟨y,e,nm,c,M,rfl,h⟩:=key
 exact ⟨nm,c,M,e,h⟩
theorem qWz {nm : List (Vector UInt8 16)} {c n : Nat} {M : List (Vector UInt8 16 × qa × Nat)} (hn : nm.length = n) (hl : n ≤ 1000) (h : ∀ i ∈ nm, ∃ r, XI i M = some r ∧ r.ID = i) :
    qi4 N [] nm c M n ((n:Nat):Int) [] 0=some (qdA M nm,((n:Nat):Int),false):=by
 subst hn
 have hN:=big N
 refine jU (σ:=Unit) (B:=qbl N [] nm c M nm.length ((nm.length:Nat):Int)) (g:=some) (at_:=fun k _=>(qdA M (nm.take k),(k:Int))) (I:=fun _ _=>True) (f:=fun _ s=>s) (n:=nm.length)
  (fin:=fun _=>(qdA M nm,((nm.length:Nat):Int),false)) (fun k s hk _=>⟨?_,trivial⟩) (fun s _=>?_) N 0 () trivial (Nat.zero_le _) (by omega)
 ·have hmem:nm.getD k (Vector.replicate 16 0)∈nm:=by rw [List.getD_eq_getElem?_getD,List.getElem?_eq_getElem hk]; exact List.getElem_mem hk
  obtain ⟨r,hr,_⟩:=h _ hmem
  have hf:∃ x,fnd (β:=qa) (.ba 16) (nm.getD k (Vector.replicate 16 0)) M=some x∧x.1=r:=by
   unfold XI at hr
   cases e:fnd (β:=qa) (.ba 16) (nm.getD k (Vector.replicate 16 0)) M with
   | none=>rw [e] at hr; cases hr
   | some x=>rw [e] at hr; exact ⟨x,rfl,Option.some.inj hr⟩
  obtain ⟨x,ex,hx⟩:=hf
  have eo:qdA M (nm.take (k + 1))=qdA M (nm.take k)++[x.1]:=by
   unfold qdA
   rw [qew (d:=Vector.replicate 16 0) hk,List.map_append,List.map_cons,hr,hx]; rfl
  have cav:jG (qdA M (nm.take k)).length (qdA M (nm.take k)).length (qdA M (nm.take k)++[x.1]).length 56:=⟨rfl,by
   rw [List.length_append]; unfold qdA; rw [List.length_map,List.length_take]; unfold zi; simp; omega⟩
  unfold qbl
  exact w_t (dec_lt hk) (qY ⟨by show (0:Int)≤(k:Int); omega,by show (k:Int) < _; omega⟩ (qu (qlj rfl hk) (qBF ex (qY cav (qY (jm (by omega)) (qC (by rw [zf,eo])))))))
 ·unfold qbl
  exact w_f (zn (Nat.lt_irrefl _)) (qC (by rw [zn (Nat.lt_irrefl _),List.take_of_length_le (Nat.le_refl _)]))
theorem qhi {b:qb} (h:zw b=true):vP N b:=by
 have hN:=big N
 have hb:=XR.1 h
 exact ⟨by omega,by omega,fun k hk=>by have:=J_ (hb.1 k hk).1; exact ⟨by omega,by omega⟩⟩
def qBt (c:List qa):qb×Int:=if c.length≤10 then (qb.mk c,0) else (qb.mk [],4)
theorem qHa {a b:qb} (ha:zw a=true) (hb:zw b=true):∃ c,qAK a.R b.R c∧Yi N a b=some (qBt c):=by
 have hA:=Qd.1 ha
 have hB:=Qd.1 hb
 have hfl:[a.R,b.R].flatten=a.R++b.R:=by simp
 have hll:(a.R++b.R).length≤20:=by rw [List.length_append]; omega
 have ec:=qNw (N:=N) (l:=[a.R,b.R]) (by simp) (by rw [hfl]; omega)
 rw [hfl] at ec
 obtain ⟨nm,c,M,el,hi⟩:=qUj (N:=N) (L:=a.R++b.R) (by omega) (fun r hr=>by
  rcases List.mem_append.1 hr with h | h
  ·exact hA.1.2 r h
  ·exact hB.1.2 r h)
 have hval:∀ id,XI id M=jR (rO a.R id) (rO b.R id):=fun id=>by
  rw [hi.val,List.foldl_append,qDE hB.1.1,qDE hA.1.1]; rfl
 obtain ⟨hs,hp⟩:=qVh hi.nd
 have hin:∀ i∈Q9 nm,∃ r,XI i M=some r∧r.ID=i:=fun i h=>by
  have:=(hi.mem i).1 (hp.mem_iff.1 h)
  cases e:XI i M with
  | none=>exact (this e).elim
  | some r=>exact ⟨r,rfl,(hi.ok i r e).2⟩
 have hlen:(qdA M (Q9 nm)).length=nm.length:=by unfold qdA; rw [List.length_map,hp.length_eq]
 refine ⟨qdA M (Q9 nm),⟨?_,fun id=>?_⟩,?_⟩
 ·unfold qaZ qdA
  rw [List.pairwise_map]
  refine (List.Pairwise.and_mem.1 hs).imp fun {i j} h=>?_
  obtain ⟨r,e1,h1⟩:=hin i h.1
  obtain ⟨s,e2,h2⟩:=hin j h.2.1
  rw [e1,e2]
  show lbB r.ID s.ID=true
  rw [h1,h2]; exact h.2.2
 ·rw [qPv hin,← hval]
  by_cases m:id∈Q9 nm
  ·rw [if_pos m]
  ·rw [if_neg m]
   cases e:XI id M with
   | none=>rfl
   | some r=>exact (m (hp.mem_iff.2 ((hi.mem id).2 (by rw [e]; simp)))).elim
 ·have hnl:=hi.len
  unfold Yi qhK
  refine qu (qfk (qhi ha)) (w_f (by rw [ha]; rfl) (qu (qfk (qhi hb)) (w_f (by rw [hb]; rfl) (qu ec (qu ((zo rfl).trans ((zo rfl).trans el)) ?_)))))
  unfold qBt
  rw [hlen]
  by_cases h10:nm.length≤10
  ·rw [if_pos h10]
   exact w_f (decide_eq_false (by show ¬ (10:Int) < ((nm.length:Nat):Int); omega)) (qu ((zo rfl).trans (qWu (by show nm.length≤12; omega))) (qu ((zo rfl).trans ((zo rfl).trans (qWz hp.length_eq (by show nm.length≤1000; omega) hin))) (qY rfl (qC rfl))))
  ·rw [if_neg h10]
   exact w_t (decide_eq_true (by show (10:Int) < ((nm.length:Nat):Int); omega)) (qY rfl (qC rfl))
theorem qId {a b:qb} (fa:vP N a) (fb:vP N b) (h:¬ (zw a=true∧zw b=true)):Yi N a b=some (qb.mk [],1):=by
 unfold Yi qhK
 refine qu (qfk fa) ?_
 cases ha:zw a with
 | false=>exact w_t rfl (qY rfl (qC rfl))
 | true=>
  refine w_f rfl (qu (qfk fb) ?_)
  cases hb:zw b with
  | false=>exact w_t rfl (qY rfl (qC rfl))
  | true=>exact (h ⟨ha,hb⟩).elim
end
end Go.Rx
end
set_option maxRecDepth 100000
noncomputable section
namespace Go.Rx
open Go.Proofs
def exB (c:qe) (x:qp) (no:Int):Bool:=slB x.qB c.S&&(match quW x.F no with
 | none=>true
 | some i=>if (x.F.getD i zE).S=c.S then ltD (x.F.getD i zE).D (zJ c.V) else slB (x.F.getD i zE).S c.S)
def partOf (m:qt) (r:qa):qa:=
 qa.mk r.ID (if slB (QF m r.ID).1.qB r.qB=true then r.qB else zSt) (r.F.filter fun f=>exB f.C (QF m r.ID).1 f.No)
def jk (p:qa):Bool:=decide (p.qB=zSt)&&decide (p.F.length=0)
def JV (m:qt) (r:qa):List qa:=if jk (partOf m r)=true then [] else [partOf m r]
def vA (m:qt) (l:List qa):List qa:=l.flatMap (JV m)
theorem qEs {m:qt} {r:qa}:(JV m r).length≤1:=by
 unfold JV
 split
 ·exact Nat.zero_le _
 ·exact Nat.le_refl _
theorem qkb {m:qt}:∀ {l:List qa},(vA m l).length≤l.length
 | []=>Nat.le_refl _
 | r::l=>by
  unfold vA
  rw [List.flatMap_cons,List.length_append,List.length_cons]
  have h1:=qEs (m:=m) (r:=r)
  have h2:=qkb (m:=m) (l:=l)
  unfold vA at h2
  omega
theorem qL4 {α:Type} {p:α→Bool} {d:α} {l:List α} {k:Nat} (h:k < l.length):(l.take (k + 1)).filter p=(l.take k).filter p++(if p (l.getD k d)=true then [l.getD k d] else []):=by
 rw [List.take_succ_eq_append_getElem h,List.filter_append,List.getD_eq_getElem?_getD,List.getElem?_eq_getElem h]
 show _++List.filter p [l[k]]=_++(if p l[k]=true then [l[k]] else [])
 cases hp:p l[k]<;>simp [hp]
theorem qlq {α β:Type} {f:α→List β} {d:α} {l:List α} {k:Nat} (h:k < l.length):(l.take (k + 1)).flatMap f=(l.take k).flatMap f++f (l.getD k d):=by
 rw [List.take_succ_eq_append_getElem h,List.flatMap_append,List.getD_eq_getElem?_getD,List.getElem?_eq_getElem h]
 simp
end Go.Rx
end
set_option maxRecDepth 100000
noncomputable section
namespace Go.Rx
open Go.Proofs
def jB (N:Nat) (a b:qb):qb×Int:=(Yi N a b).getD (qb.mk [],0)
def jS (p:qa):qa:=qa.mk p.ID p.qB []
def Qe (p:qa):qa:=qa.mk p.ID zSt p.F
def Q8 (N:Nat) (b:qb) (e:qa):qb×Int:=if jk e=true then (b,0) else jB N b (qb.mk [e])
theorem qIe {N:Nat} {b:qb} {e:qa} (h:jk e=true):Q8 N b e=(b,0):=if_pos h
theorem qJ5 {N:Nat} {b:qb} {e:qa} (h:jk e=false):Q8 N b e=jB N b (qb.mk [e]):=if_neg (by rw [h]; simp)
def qDr (N:Nat) (b:qb) (e1 e2:qa):qb×Int:=
 if (Q8 N b e1).2=0 then (if (Q8 N (Q8 N b e1).1 e2).2=0 then ((Q8 N (Q8 N b e1).1 e2).1,0) else (qb.mk [],(Q8 N (Q8 N b e1).1 e2).2)) else (qb.mk [],(Q8 N b e1).2)
def qJW (b:qb) (p:qa):Bool:=zw b&&(!jk p&&(stB p.qB&&(decide (p.F.length=0)||zZ (Qe p))))
def ZP (N:Nat) (b:qb) (p:qa):qb×Int:=if qJW b p=true then qDr N b (jS p) (Qe p) else (qb.mk [],1)
section
variable {N:Nat} [ZB N]
theorem qWd {a b:qb} (fa:vP N a) (fb:vP N b):Yi N a b=some (jB N a b):=by
 unfold jB
 by_cases h:zw a=true∧zw b=true
 ·obtain ⟨c,_,e⟩:=qHa (N:=N) h.1 h.2
  rw [e]; rfl
 ·rw [qId fa fb h]; rfl
theorem qQU {a b:qb} (ha:zw a=true) (hb:zw b=true):∃ c,qAK a.R b.R c∧jB N a b=qBt c:=by
 obtain ⟨c,hc,e⟩:=qHa (N:=N) ha hb
 exact ⟨c,hc,by unfold jB; rw [e]; rfl⟩
theorem qYZ {a b:qb} (fa:vP N a) (fb:vP N b) (h:¬ (zw a=true∧zw b=true)):jB N a b=(qb.mk [],1):=by
 unfold jB
 rw [qId fa fb h]; rfl
theorem qDw {a b:qb} (fa:vP N a) (fb:vP N b) (h:(jB N a b).2=0):zw a=true∧zw b=true∧qAK a.R b.R (jB N a b).1.R∧zw (jB N a b).1=true:=by
 by_cases hab:zw a=true∧zw b=true
 ·obtain ⟨c,hc,e⟩:=qQU (N:=N) hab.1 hab.2
  rw [e] at h ⊢
  unfold qBt at h ⊢
  by_cases h10:c.length≤10
  ·rw [if_pos h10] at h ⊢
   exact ⟨hab.1,hab.2,hc,Qd.2 ⟨qPI (Qd.1 hab.1).1 (Qd.1 hab.2).1 hc,h10⟩⟩
  ·rw [if_neg h10] at h; cases h
 ·rw [qYZ fa fb hab] at h; cases h
theorem qyG {e:qa} (h1:e.F.length < N) (h2:e.F.length≤4611686018427387904):vP N (qb.mk [e]):=by
 have:=big N
 refine ⟨by show 1 < N; omega,by show 1≤4611686018427387904; omega,fun k hk=>?_⟩
 have hk:k < 1:=hk
 obtain rfl:k=0:=by omega
 exact ⟨h1,h2⟩
theorem qPQ {b:qb} {e:qa} (fb:vP N b) (h1:e.F.length < N) (h2:e.F.length≤4611686018427387904) (h:(Q8 N b e).2=0):vP N (Q8 N b e).1:=by
 unfold Q8 at *
 split
 ·exact fb
 ·rename_i hn
  rw [if_neg hn] at h
  exact qhi (qDw fb (qyG h1 h2) h).2.2.2
theorem qEZ {b : qb} {e : qa} {s47 : List qa} {k : Nat} (hk : k < s47.length) (hs : s47.length ≤ 10) (he : s47.getD k zR = e) (fb : vP N b) (h1 : e.F.length < N) (h2 : e.F.length ≤ 4611686018427387904) :
    (Y7 N [] s47 ((s47.length:Nat):Int) (b,(k:Int))).run some=some (if (Q8 N b e).2=0 then .inl ((Q8 N b e).1,((k + 1:Nat):Int)) else .inr (.inr (Q8 N b e).2)):=by
 unfold Y7
 refine w_t (dec_lt hk) <| qu ((zO (d:=zR) hk).trans (by rw [he])) <| qu (by
  have e0:eqE qk (qa.qB e) (qd.mk 0 0)=decide (e.qB=zSt):=qfU _ _
  have e2:decide (((e.F.length:Nat):Int)=0)=decide (e.F.length=0):=decide_eq_decide.2 (by omega)
  show Jf e=some (jk e)
  unfold Jf qbB jk
  refine vp e0 (fun h=>qC ?_) fun h=>qC ?_
  ·rw [h]; exact congrArg some e2
  ·rw [h]; rfl) ?_
 cases hn:jk e with
 | true=>
  rw [qIe hn]
  exact w_t rfl <| qY (jm (by omega)) <| qC (by rw [zf]; rfl)
 | false=>
  rw [qJ5 hn]
  refine w_f rfl <| qu (qWd fb (qyG h1 h2)) ?_
  by_cases hz:(jB N b (qb.mk [e])).2=0
  ·rw [if_pos hz]
   exact w_f (by rw [decide_eq_true hz]; rfl) <| qY (jm (by omega)) <| qC (by rw [zf])
  ·rw [if_neg hz]
   exact w_t (by rw [decide_eq_false hz]; rfl) <| qC rfl
theorem qV9 {b : qb} {e1 e2 : qa} (fb : vP N b) (h1 : e1.F.length < N ∧ e1.F.length ≤ 4611686018427387904) (h2 : e2.F.length < N ∧ e2.F.length ≤ 4611686018427387904) :
    ∃ z,Y2 N [] [e1,e2] ((([e1,e2]:List qa).length:Nat):Int) b 0=some z∧(match z with | .inl w=>(w.1,(0:Int)) | .inr e=>(qb.mk [],e))=qDr N b e1 e2:=by
 obtain ⟨M,hM⟩:∃ M,N=M + 3:=⟨N - 3,by have:=big N; omega⟩
 have s0:Y2 N [] [e1,e2] ((([e1,e2]:List qa).length:Nat):Int) b 0=qV (Y7 N [] [e1,e2] ((([e1,e2]:List qa).length:Nat):Int)) some (M + 3) (b,((0:Nat):Int)):=by rw [← hM]; rfl
 rw [s0]
 have r1:=qEZ (N:=N) (b:=b) (e:=e1) (s47:=[e1,e2]) (k:=0) (by simp) (by simp) rfl fb h1.1 h1.2
 unfold qDr
 by_cases z1:(Q8 N b e1).2=0
 ·rw [if_pos z1] at r1 ⊢
  rw [JM r1]
  have r2:=qEZ (N:=N) (b:=(Q8 N b e1).1) (e:=e2) (s47:=[e1,e2]) (k:=1) (by simp) (by simp) rfl (qPQ fb h1.1 h1.2 z1) h2.1 h2.2
  by_cases z2:(Q8 N (Q8 N b e1).1 e2).2=0
  ·rw [if_pos z2] at r2 ⊢
   rw [JM r2,jb (x:=.inl ((Q8 N (Q8 N b e1).1 e2).1,((2:Nat):Int),false)) (by
    unfold Y7
    exact w_f rfl (qC rfl))]
   exact ⟨_,rfl,rfl⟩
  ·rw [if_neg z2] at r2 ⊢
   rw [jb r2]
   exact ⟨_,rfl,rfl⟩
 ·rw [if_neg z1] at r1 ⊢
  rw [jb r1]
  exact ⟨_,rfl,rfl⟩
theorem qJJ {b:qb} {p:qa} (fb:vP N b) (h1:p.F.length < N) (h2:p.F.length≤4611686018427387904):KB N b p=some (ZP N b p):=by
 have hN:=big N
 have hn:Jf p=some (jk p):=by
  have e0:eqE qk (qa.qB p) (qd.mk 0 0)=decide (p.qB=zSt):=qfU _ _
  have e2:decide (((p.F.length:Nat):Int)=0)=decide (p.F.length=0):=decide_eq_decide.2 (by omega)
  unfold Jf qbB jk
  refine vp e0 (fun h=>qC ?_) fun h=>qC ?_
  ·rw [h]; exact congrArg some e2
  ·rw [h]; rfl
 obtain ⟨z,ez,hz⟩:=qV9 (N:=N) (b:=b) (e1:=jS p) (e2:=Qe p) fb ⟨by show 0 < N; omega,Nat.zero_le _⟩ ⟨h1,h2⟩
 have fin:(Tree.bind (zY [(([]:List qa).length,0)] (Y2 N [] [jS p,Qe p] ((([jS p,Qe p]:List qa).length:Nat):Int) b 0)) fun z5=>.sum z5 (fun z6=>.ret (z6.1,(0:Int))) fun z6=>.chk (0=0) (.ret (qb.mk [],z6))).run some=some (qDr N b (jS p) (Qe p)):=by
  refine qu ((zo rfl).trans ez) ?_
  rw [← hz]
  cases z with
  | inl w=>rfl
  | inr e=>exact w_r rfl <| qY rfl <| qC rfl
 unfold KB qon ZP qJW
 refine qu (qfk fb) ?_
 cases hb:zw b with
 | false=>exact w_t rfl <| qY rfl <| qC rfl
 | true=>
  refine w_f rfl <| qu hn ?_
  cases hnp:jk p with
  | true=>exact w_t rfl <| qY rfl <| qC rfl
  | false=>
   refine w_f rfl <| qu (qcg _) ?_
   have hst:stB (qa.qB p)=stB p.qB:=rfl
   rw [hst]
   cases hs:stB p.qB with
   | false=>exact w_t rfl <| qY rfl <| qC rfl
   | true=>
    refine w_f rfl ?_
    by_cases h0:p.F.length=0
    ·rw [decide_eq_true h0]
     exact w_f (decide_eq_false (by show ¬ (0:Int) < ((p.F.length:Nat):Int); omega)) fin
    ·rw [decide_eq_false h0]
     refine w_t (decide_eq_true (by show (0:Int) < ((p.F.length:Nat):Int); omega)) <| qu (qwl (r:=Qe p) h1 h2) ?_
     cases hr:zZ (Qe p) with
     | false=>exact w_t rfl <| qY rfl <| qC rfl
     | true=>exact w_f rfl fin
end
end Go.Rx
end
set_option maxRecDepth 100000
noncomputable section
namespace Go.Rx
open Go.Proofs
theorem qWc {l : Option (Unit ⊕ (Int × Bool))} {n m : Nat} {q : Nat → Bool} (h : n = m → l = some (if vm q n then .inr (((n : Nat) : Int), false) else .inl ())) :
    (Tree.cond (!decide (((n:Nat):Int)=((m:Nat):Int))) (.ret false) (.bind l fun z=>.sum z (fun _=>.ret false) fun _=>.ret true)).run some=some (decide (n=m)&&vm q n):=by
 have e:decide (((n:Nat):Int)=((m:Nat):Int))=decide (n=m):=decide_eq_decide.2 (by omega)
 rw [qI,e,qP,run_bind]
 by_cases hn:n=m
 ·rw [decide_eq_true hn,h hn]
  cases vm q n<;>rfl
 ·rw [decide_eq_false hn]; rfl
theorem qHU {α:Type} {d:α}:∀ {a b:List α},a.length=b.length→(∀ k,k < a.length→a.getD k d=b.getD k d)→a=b
 | [],[],_,_=>rfl
 | [],_::_,h,_=>by simp at h
 | _::_,[],h,_=>by simp at h
 | x::a,y::b,h,hk=>by
  have h0:=hk 0 (by simp)
  simp only [List.getD_cons_zero] at h0
  rw [h0,qHU (a:=a) (b:=b) (by simpa using h) fun k hk'=>by
   have:=hk (k + 1) (by simp; omega)
   simpa using this]
theorem qMS {t:Ty} {sz:Nat} (a b:List (El t)) (d:El t):(decide (a.length=b.length)&&vm (fun k=>eqE t (a.getD k d) (b.getD k d)) a.length)=eqE (.sl sz t) a b:=by
 refine Bool.eq_iff_iff.2 (Iff.trans ?_ (Q2 (.sl sz t) a b).symm)
 rw [Bool.and_eq_true,decide_eq_true_iff,Qu]
 constructor
 ·rintro ⟨h1,h2⟩
  exact qHU (d:=d) h1 fun k hk=>(Q2 t _ _).1 (h2 k hk)
 ·intro h
  subst h
  exact ⟨rfl,fun k _=>(Q2 t _ _).2 rfl⟩
end Go.Rx
end
set_option maxRecDepth 100000
noncomputable section
namespace Go.Rx
open Go.Proofs
section n
variable {N:Nat} [ZB N]
theorem qK1 {a b:List qc} (hN:a.length < N) (h62:a.length≤4611686018427387904):WW N a b=some (eqE (.sl 4 qo) a b):=by
 unfold WW KL
 rw [qWc (q:=fun k=>eqE qo (a.getD k zF) (b.getD k zF)) fun hl=>?_]
 ·rw [show (decide (a.length=b.length)&&vm (fun k=>eqE qo (a.getD k zF) (b.getD k zF)) a.length)=eqE (.sl 4 qo) a b from qMS (t:=qo) a b zF]
 ·refine XT (B:=JT N a b ((a.length:Nat):Int)) (g:=some) (fun k hk=>?_) ?_ hN
  ·have hk2:k < b.length:=by omega
   unfold JT
   rw [qI,dec_lt hk,cond_true,run_bind,zO (d:=zF) hk,Option.bind_some,run_bind,zO (d:=zF) hk2,Option.bind_some,qI,qP,qX,qj (show qw ((k:Int) + 1) by unfold qw; omega),qP,zf]
   cases eqE qo (a.getD k zF) (b.getD k zF)<;>rfl
  ·unfold JT
   rw [qI,zn (Nat.lt_irrefl _),cond_false,qP]
theorem qYV (r s:qa):eqE qf r s=(eqE (.ba 16) r.ID s.ID&&(eqE qk r.qB s.qB&&eqE (.sl 4 qo) r.F s.F)):=by
 show (eqE (.ba 16) _ _&&(eqE qk _ _&&(eqE (.sl 4 qo) _ _&&true)))=_
 rw [Bool.and_true]
 rfl
theorem qNk {r s:qa} (hN:r.F.length < N) (h62:r.F.length≤4611686018427387904):qqv N r s=some (eqE qf r s):=by
 unfold qqv qqi
 rw [qYV,qI,qP,qI,qP,run_bind,qK1 hN h62,Option.bind_some,qP]
 cases eqE (.ba 16) r.ID s.ID<;>cases eqE qk r.qB s.qB<;>rfl
theorem qP2 {a b:List qa} (hN:a.length < N) (h62:a.length≤4611686018427387904) (hF:∀ k,k < a.length→(a.getD k zR).F.length < N∧(a.getD k zR).F.length≤4611686018427387904):XK N a b=some (eqE (.sl 19 qf) a b):=by
 unfold XK Yr
 rw [qWc (q:=fun k=>eqE qf (a.getD k zR) (b.getD k zR)) fun hl=>?_]
 ·rw [show (decide (a.length=b.length)&&vm (fun k=>eqE qf (a.getD k zR) (b.getD k zR)) a.length)=eqE (.sl 19 qf) a b from qMS (t:=qf) a b zR]
 ·refine XT (B:=Jb N b a ((a.length:Nat):Int)) (g:=some) (fun k hk=>?_) ?_ hN
  ·have hk2:k < b.length:=by omega
   unfold Jb
   rw [qI,dec_lt hk,cond_true,run_bind,zO (d:=zR) hk,Option.bind_some,run_bind,zO (d:=zR) hk2,Option.bind_some,run_bind,qNk (hF k hk).1 (hF k hk).2,Option.bind_some,qI,qP,qX,qj (show qw ((k:Int) + 1) by unfold qw; omega),qP,zf]
   cases eqE qf (a.getD k zR) (b.getD k zR)<;>rfl
  ·unfold Jb
   rw [qI,zn (Nat.lt_irrefl _),cond_false,qP]
theorem qHx {a b:qb} (hf:vP N a):qie N a b=some (eqE (.sl 19 qf) a.R b.R):=by
 unfold qie qnn
 rw [run_bind,qP2 hf.1 hf.2.1 hf.2.2,Option.bind_some,qP]
end n
end Go.Rx
end
set_option maxRecDepth 100000
noncomputable section
namespace Go.Rx
open Go.Proofs
def oP (e:qa) (id:Vector UInt8 16):Option qa:=if jk e=true then none else rO [e] id
theorem qMi {p:qa} (hs:stB p.qB=true):jk (jS p)=true∨zZ (jS p)=true:=by
 by_cases h:p.qB=zSt
 ·left
  show (decide (p.qB=zSt)&&true)=true
  rw [decide_eq_true h]; rfl
 ·right
  exact ve.2 ⟨hs,.inr h,List.Pairwise.nil,fun f hf=>absurd hf List.not_mem_nil⟩
theorem qq2 {e:qa} (he:jk e=true∨zZ e=true) (id:Vector UInt8 16):VO id (oP e id):=by
 unfold oP
 split
 ·exact qWC
 ·rename_i hn
  have hr:=he.resolve_left hn
  exact qj4 (fun r hr'=>by rw [List.mem_singleton.1 hr']; exact hr) id
section
variable {N:Nat} [ZB N]
theorem qtN {b : qb} {e : qa} (hb : zw b = true) (h1 : e.F.length < N) (h2 : e.F.length ≤ 4611686018427387904) (h : (Q8 N b e).2 = 0) :
    zw (Q8 N b e).1=true∧∀ id,rO (Q8 N b e).1.R id=jR (rO b.R id) (oP e id):=by
 cases hn:jk e with
 | true=>
  rw [qIe hn]
  refine ⟨hb,fun id=>?_⟩
  unfold oP
  rw [if_pos hn,Q5]
 | false=>
  rw [qJ5 hn] at h ⊢
  obtain ⟨_,_,hj,hv⟩:=qDw (qhi hb) (qyG h1 h2) h
  refine ⟨hv,fun id=>?_⟩
  rw [hj.2 id]
  unfold oP
  rw [if_neg (by rw [hn]; simp)]; rfl
theorem qFe {b:qb} {p:qa} (h:(ZP N b p).2=0):qJW b p=true∧(Q8 N b (jS p)).2=0∧(Q8 N (Q8 N b (jS p)).1 (Qe p)).2=0∧ZP N b p=((Q8 N (Q8 N b (jS p)).1 (Qe p)).1,0):=by
 unfold ZP qDr at *
 split at h
 ·rename_i h1
  rw [if_pos h1]
  split at h
  ·rename_i h2
   rw [if_pos h2]
   split at h
   ·rename_i h3
    rw [if_pos h3]
    exact ⟨h1,h2,h3,rfl⟩
   ·rename_i h3
    exact (h3 h).elim
  ·rename_i h2
   exact (h2 h).elim
 ·cases h
theorem qyu {b:qb} {p:qa}:qJW b p=true↔zw b=true∧jk p=false∧stB p.qB=true∧(p.F.length=0∨zZ (Qe p)=true):=by
 unfold qJW
 rw [Bool.and_eq_true,Bool.and_eq_true,Bool.and_eq_true,Bool.or_eq_true,Bool.not_eq_true',decide_eq_true_iff]
theorem qMe {p:qa} (h:p.F.length=0∨zZ (Qe p)=true):jk (Qe p)=true∨zZ (Qe p)=true:=by
 refine h.imp (fun h0=>?_) id
 show (true&&decide (p.F.length=0))=true
 rw [decide_eq_true h0]; rfl
theorem qwu {b : qb} {p : qa} (h1 : p.F.length < N) (h2 : p.F.length ≤ 4611686018427387904) (h : (ZP N b p).2 = 0) :
    zw b=true∧zw (ZP N b p).1=true∧(∀ id,rO (ZP N b p).1.R id=jR (jR (rO b.R id) (oP (jS p) id)) (oP (Qe p) id)):=by
 obtain ⟨ha,z1,z2,e⟩:=qFe h
 obtain ⟨hb,hn,hs,hl⟩:=qyu.1 ha
 obtain ⟨v1,r1⟩:=qtN (e:=jS p) hb (by have:=big N; show 0 < N; omega) (Nat.zero_le _) z1
 obtain ⟨v2,r2⟩:=qtN (e:=Qe p) v1 h1 h2 z2
 rw [e]
 exact ⟨hb,v2,fun id=>by rw [r2,r1]⟩
end
end Go.Rx
end
set_option maxRecDepth 100000
noncomputable section
namespace Go.Rx
open Go.Proofs
def qXP (o:qh):qa:=qa.mk o.ID o.S []
def qOE (o:qh) (v:List UInt8):qa:=qa.mk o.ID zSt [qc.mk o.No (qe.mk o.S v)]
def KX (b:qb) (id:Vector UInt8 16) (no:Int):List UInt8×Int:=
 if (cellAt (recAt b id).1 no).2=true then ((cellAt (recAt b id).1 no).1.V,0) else ([],6)
def qyA (o:qh) (x:List UInt8×Int):List UInt8×Int:=if x.2=0 then (if zJ x.1=o.D then x else ([],7)) else x
def qUt (N:Nat) (b:qb) (o:qh) (x:List UInt8×Int):qb×Int:=if x.2=0 then ZP N b (qOE o x.1) else (qb.mk [],x.2)
theorem qOX {b:qb} (h:zw b=true) (id:Vector UInt8 16):(recAt b id).1.F.length≤8:=by
 unfold recAt
 cases e:qg1 b.R id with
 | none=>exact Nat.zero_le _
 | some i=>exact J_ ((XR.1 h).1 i (qdK e).1).1
theorem qyb {b:qb} (h:zw b=true) (id:Vector UInt8 16) (no:Int):(cellAt (recAt b id).1 no).1.V.length≤200:=by
 unfold cellAt
 cases e:qiy (recAt b id).1.F no with
 | none=>exact Nat.zero_le _
 | some j=>
  unfold recAt at e ⊢
  cases e2:qg1 b.R id with
  | none=>rw [e2] at e; cases e
  | some i=>
   rw [e2] at e
   exact qhd (qB6 ((XR.1 h).1 i (qdK e2).1).1 j (qdK e).1)
section
variable {N:Nat} [ZB N]
theorem qIA {b:qb} (h:zw b=true) (o:qh) (id:Vector UInt8 16) (no:Int):YX N (zk.mk b o) id no=some (KX b id no):=by
 unfold YX qez KX
 refine qu (qTR h id) <| qu (qVx (qOX h id) no) ?_
 cases e:(cellAt (recAt b id).1 no).2 with
 | true=>exact w_f rfl (qC rfl)
 | false=>exact w_t rfl (qC rfl)
theorem qMD (b:qb) (o:qh) {v:List UInt8} {e:Int} (h:v.length≤50000):Xv N (zk.mk b o) v e=some (qyA o (v,e)):=by
 unfold Xv qa_ qyA
 refine vp rfl (fun h0=>?_) fun h0=>qC (by rw [if_neg (of_decide_eq_false h0)])
 rw [if_pos (of_decide_eq_true h0)]
 refine qu (qho h) ?_
 have e2:eqE (.ba 32) (zJ v) (qh.D (zk.o (zk.mk b o)))=decide (zJ v=o.D):=qXZ _ _
 refine vp (by rw [e2]) (fun h1=>qC ?_) fun h1=>qC ?_
 ·rw [Bool.not_eq_true'] at h1
  exact congrArg some (if_neg (of_decide_eq_false h1)).symm
 ·rw [Bool.not_eq_false'] at h1
  exact congrArg some (if_pos (of_decide_eq_true h1)).symm
theorem qQT {b:qb} (h:zw b=true) (o:qh):qad N (zk.mk b o)=some (qyA o (KX b o.vV o.Xw)):=by
 unfold qad qb8
 have hl:(KX b o.vV o.Xw).1.length≤50000:=by
  unfold KX
  split
  ·have:=qyb h o.vV o.Xw; show (cellAt (recAt b o.vV).1 o.Xw).1.V.length≤50000; omega
  ·exact Nat.zero_le _
 exact qu (qIA h o _ _) <| qu (qMD b o hl) <| qC rfl
def qTx (b:qb) (o:qh) (m:List UInt8×Int):List UInt8×Int:=if o.Kind=1 then (o.V,0) else if o.Kind=2 then qyA o (KX b o.vV o.Xw) else m
def doD (N:Nat) (b:qb) (o:qh) (m:List UInt8×Int):qb×Int:=
 if zw b=true∧opB o=true then (if o.Kind=0 then ZP N b (qXP o) else qUt N b o (qTx b o m)) else (qb.mk [],1)
theorem qU_ {o:qh} (h:opB o=true):0≤o.Kind∧o.Kind < 4:=by
 unfold opB at h
 simp only [Bool.and_eq_true,Bool.not_eq_true',decide_eq_false_iff_not] at h
 omega
theorem qYR {b:qb} {o:qh} (fb:vP N b) (hl:(qh.P o).length < N) (hl2:(qh.P o).length≤1000000000000000) (hk:o.Kind≠3) (m:List UInt8×Int):qwj N b o=some (doD N b o m):=by
 have hN:=big N
 have add1:∀ v,KB N b (qOE o v)=some (ZP N b (qOE o v)):=fun v=>qJJ fb (by show 1 < N; omega) (by show 1≤4611686018427387904; omega)
 unfold qwj qwq doD
 refine qu (qfk fb) ?_
 cases hb:zw b with
 | false=>exact w_t rfl <| qY rfl <| qC (by rw [if_neg (fun h=>by cases h.1)])
 | true=>
  refine w_f rfl <| qu (qIc hl hl2) ?_
  cases ho:opB o with
  | false=>exact w_t rfl <| qY rfl <| qC (by rw [if_neg (fun h=>by cases h.2)])
  | true=>
   refine w_f rfl ?_
   rw [if_pos ⟨rfl,rfl⟩]
   unfold qTx
   refine vp rfl (fun h0=>?_) fun h0=>?_
   ·rw [if_pos (of_decide_eq_true h0)]
    exact qY (by omega) <| qu (qJJ (p:=qXP o) fb (by show 0 < N; omega) (Nat.zero_le _)) <| qC rfl
   rw [if_neg (of_decide_eq_false h0)]
   refine vp rfl (fun h1=>?_) fun h1=>?_
   ·rw [if_pos (of_decide_eq_true h1)]
    exact qY (by omega) <| qu (show qiQ (zk.mk b o)=some () from rfl) <| qu (add1 o.V) <| qC rfl
   rw [if_neg (of_decide_eq_false h1)]
   refine vp rfl (fun h2=>?_) fun h2=>?_
   ·rw [if_pos (of_decide_eq_true h2)]
    refine qY (by omega) <| qu (qQT hb o) ?_
    unfold qUt
    by_cases hz:(qyA o (KX b o.vV o.Xw)).2=0
    ·rw [if_pos hz]
     exact w_f (by rw [decide_eq_true hz]; rfl) <| qu (add1 _) <| qC rfl
    ·rw [if_neg hz]
     exact w_t (by rw [decide_eq_false hz]; rfl) <| qY rfl <| qC rfl
   have:=qU_ ho
   have h0:=of_decide_eq_false h0; have h1:=of_decide_eq_false h1; have h2:=of_decide_eq_false h2
   exact (hk (by omega)).elim
end
end Go.Rx
end
set_option maxRecDepth 100000
noncomputable section
namespace Go.Rx
open Go.Proofs
end Go.Rx
end
set_option maxRecDepth 100000
noncomputable section
namespace Go.Rx
open Go.Proofs
end Go.Rx
end
set_option maxRecDepth 100000
noncomputable section
namespace Go.Rx
open Go.Proofs
end Go.Rx
end
set_option maxRecDepth 100000
noncomputable section
namespace Go.Rx
open Go.Proofs
end Go.Rx
end
set_option maxRecDepth 100000
noncomputable section
namespace Go.Rx
open Go.Proofs
end Go.Rx
end
set_option maxRecDepth 100000
noncomputable section
namespace Go.Rx
open Go.Proofs
end Go.Rx
end
set_option maxRecDepth 100000
noncomputable section
namespace Go.Rx
open Go.Proofs
end Go.Rx
end
set_option maxRecDepth 100000
noncomputable section
namespace Go.Rx
open Go.Proofs
end Go.Rx
end
set_option maxRecDepth 100000
noncomputable section
namespace Go.Rx
open Go.Proofs
end Go.Rx
end
set_option maxRecDepth 100000
noncomputable section
namespace Go.Rx
open Go.Proofs
end Go.Rx
end
set_option maxRecDepth 100000
noncomputable section
namespace Go.Rx
open Go.Proofs
end Go.Rx
end
set_option maxRecDepth 100000
noncomputable section
namespace Go.Rx
open Go.Proofs
end Go.Rx
end
set_option maxRecDepth 100000
noncomputable section
namespace Go.Rx
open Go.Proofs
structure Cod {α:Type} (V:α→Prop) (put:α→List UInt8) (get:List UInt8→Option (α×Nat)):Prop where
 back:∀ a r,V a→get (put a++r)=some (a,(put a).length)
 forth:∀ b a n,get b=some (a,n)→V a∧n≤b.length∧b.take n=put a
theorem Cod.cut {α:Type} {V:α→Prop} {put:α→List UInt8} {get:List UInt8→Option (α×Nat)} (C:Cod V put get) {a:α} (h:V a) {k:Nat} (hk:k < (put a).length):get ((put a).take k)=none:=by
 cases e:get ((put a).take k) with
 | none=>rfl
 | some x=>
  obtain ⟨a',n⟩:=x
  obtain ⟨h1,h2,h3⟩:=C.forth _ _ _ e
  have hn:n≤k:=by rw [List.length_take] at h2; omega
  rw [List.take_take,Nat.min_eq_left hn] at h3
  have h4:=C.back a' ((put a).drop n) h1
  rw [← h3,List.take_append_drop,List.length_take,Nat.min_eq_left (by omega)] at h4
  have h5:=C.back a [] h
  rw [List.append_nil,h4] at h5
  have:n=(put a).length:=(Prod.mk.inj (Option.some.inj h5)).2
  omega
end Go.Rx
end
set_option maxRecDepth 100000
noncomputable section
namespace Go.Rx
open Go.Proofs
theorem qA9 {l:List ql}:qc5 l=true↔(∀ p∈l,Xm p=true)∧l.length≤60∧qiT l l.length≤200:=by
 unfold qc5
 rw [Bool.and_eq_true,Bool.and_eq_true,decide_eq_true_iff,decide_eq_true_iff,Qu,and_assoc]
 constructor
 ·rintro ⟨h,h2⟩
  refine ⟨fun p hp=>?_,h2⟩
  obtain ⟨i,hi,rfl⟩:=List.getElem_of_mem hp
  have:=h i hi
  rw [List.getD_eq_getElem?_getD,List.getElem?_eq_getElem hi] at this
  exact this
 ·rintro ⟨h,h2⟩
  refine ⟨fun j hj=>?_,h2⟩
  rw [List.getD_eq_getElem?_getD,List.getElem?_eq_getElem hj]
  exact h _ (List.getElem_mem hj)
end Go.Rx
end
set_option maxRecDepth 100000
noncomputable section
namespace Go.Rx
open Go.Proofs
def qdG (a:List UInt8):List ql→List UInt8→List UInt8×Bool
 | [],acc=>(acc,true)
 | p::l,acc=>if p.qhu=true then (if ((a.length:Nat):Int) - p.vV < p.Len then ([],false) else qdG a l (acc++p.Lit++(a.take (p.vV + p.Len).toNat).drop p.vV.toNat)) else qdG a l (acc++p.Lit)
theorem qKV {p:ql} (h:Xm p=true):(0≤p.vV∧p.vV≤200)∧(0≤p.Len∧p.Len≤200)∧p.Lit.length≤200∧(p.qhu=true→p.Lit=[]):=by
 have h1:=qvU h
 unfold Xm inP at h
 cases e:p.qhu with
 | true=>
  rw [e,cond_true] at h
  simp only [Bool.and_eq_true,decide_eq_true_eq] at h
  obtain ⟨⟨h2,h3⟩,h4⟩:=h
  refine ⟨h2,⟨by omega,by omega⟩,by rw [h4]; simp,fun _=>h4⟩
 | false=>
  rw [e,cond_false] at h
  simp only [Bool.and_eq_true,decide_eq_true_eq] at h
  obtain ⟨h2,h3⟩:=h
  have e1:p.vV=0:=by rw [h2]; rfl
  have e2:p.Len=0:=by rw [h2]; rfl
  rw [e1,e2]
  exact ⟨⟨by omega,by omega⟩,⟨by omega,by omega⟩,by omega,fun e=>by cases e⟩
theorem qtA {a:List UInt8} (ha:a.length≤50000):∀ {l:List ql} {acc:List UInt8},(∀ p∈l,Xm p=true)→acc.length + 400 * l.length≤100000→qfr a l acc=some (qdG a l acc)∧(qdG a l acc).1.length≤acc.length + 400 * l.length
 | [],acc,_,_=>⟨rfl,Nat.le_refl _⟩
 | p::l,acc,h,hl=>by
  obtain ⟨h1,h2,h3,h4⟩:=qKV (h p (List.mem_cons_self ..))
  have ht:∀ q∈l,Xm q=true:=fun q hq=>h q (List.mem_cons_of_mem _ hq)
  rw [List.length_cons] at hl ⊢
  unfold qfr qdG
  cases e:p.qhu with
  | false=>
   have hr:=qtA ha (l:=l) (acc:=acc++p.Lit) ht (by rw [List.length_append]; omega)
   rw [List.length_append] at hr
   rw [cond_false,if_neg (by simp)]
   refine ⟨(if_pos (by omega)).trans hr.1,by omega⟩
  | true=>
   rw [cond_true,if_pos rfl]
   by_cases hs:((a.length:Nat):Int) - p.vV < p.Len
   ·rw [if_pos hs]
    refine ⟨(if_pos (by unfold qw; omega)).trans ?_,Nat.zero_le _⟩
    rw [decide_eq_true hs]; rfl
   ·rw [if_neg hs]
    have hd:((a.take (p.vV + p.Len).toNat).drop p.vV.toNat).length≤200:=by rw [List.length_drop,List.length_take]; omega
    have hr:=qtA ha (l:=l) (acc:=acc++p.Lit++(a.take (p.vV + p.Len).toNat).drop p.vV.toNat) ht (by rw [List.length_append,List.length_append]; omega)
    rw [List.length_append,List.length_append] at hr
    refine ⟨(if_pos (by unfold qw; omega)).trans ?_,by omega⟩
    rw [decide_eq_false hs]
    exact (if_pos ⟨by unfold qw; omega,by omega,by omega⟩).trans hr.1
def qm0 (b:qb) (o:qh):List UInt8×Int:=
 if (KX b o.ID o.No).2=0 then (if (qdG (KX b o.ID o.No).1 o.P []).2=true then qyA o ((qdG (KX b o.ID o.No).1 o.P []).1,0) else ([],7)) else ([],(KX b o.ID o.No).2)
theorem qTd {b:qb} (h:zw b=true) (id:Vector UInt8 16) (no:Int):(KX b id no).1.length≤200:=by
 unfold KX
 split
 ·exact qyb h id no
 ·exact Nat.zero_le _
section
variable {N:Nat} [ZB N]
theorem qQ1 {a:List UInt8} {l:List ql} (ha:a.length≤50000) (h:qc5 l=true):qhy N a l=some (qdG a l [])∧(qdG a l []).1.length≤24000:=by
 have hN:=big N
 obtain ⟨h1,h2,_⟩:=qA9.1 h
 have hr:=qtA ha (l:=l) (acc:=[]) h1 (by rw [List.length_nil]; omega)
 rw [List.length_nil] at hr
 refine ⟨?_,by omega⟩
 unfold qhy
 rw [qEW (by omega) (by omega),Option.bind_some,h,cond_true]
 exact (if_pos (by omega)).trans hr.1
theorem qWo {b:qb} (h:zw b=true) {o:qh} (ho:qc5 o.P=true):qcD N (zk.mk b o)=some (qm0 b o):=by
 have hl:=qTd h o.ID o.No
 have e0:=qIA (N:=N) h o o.ID o.No
 obtain ⟨e1,e2⟩:=qQ1 (N:=N) (a:=(KX b o.ID o.No).1) (l:=o.P) (by omega) ho
 unfold qcD qeA qm0
 generalize KX b o.ID o.No=c at *
 generalize qdG c.1 o.P []=z at *
 have e3:=qMD (N:=N) b o (v:=z.1) (e:=0) (by omega)
 generalize qyA o (z.1,0)=y at *
 refine qu e0 ?_
 by_cases h0:c.2=0
 ·rw [if_pos h0]
  refine w_f (by rw [decide_eq_true h0]; rfl) <| qu e1 ?_
  cases e4:z.2 with
  | true=>exact w_f rfl <| qu e3 <| qC rfl
  | false=>exact w_t rfl <| qC rfl
 ·rw [if_neg h0]
  exact w_t (by rw [decide_eq_false h0]; rfl) <| qC rfl
theorem qXo {b:qb} {o:qh} (fb:vP N b) (hl:(qh.P o).length < N) (hl2:(qh.P o).length≤1000000000000000):qwj N b o=some (doD N b o (qm0 b o)):=by
 by_cases hk:o.Kind=3
 ·have hN:=big N
  unfold qwj qwq doD
  refine qu (qfk fb) ?_
  cases hb:zw b with
  | false=>exact w_t rfl <| qY rfl <| qC (by rw [if_neg (fun h=>by cases h.1)])
  | true=>
   refine w_f rfl <| qu (qIc hl hl2) ?_
   cases ho:opB o with
   | false=>exact w_t rfl <| qY rfl <| qC (by rw [if_neg (fun h=>by cases h.2)])
   | true=>
    have hp:qc5 o.P=true:=by unfold opB at ho; rw [Bool.and_eq_true] at ho; exact ho.2
    refine w_f rfl ?_
    rw [if_pos ⟨rfl,rfl⟩]
    unfold qTx
    rw [if_neg (by omega),if_neg (by omega),if_neg (by omega)]
    refine w_f (decide_eq_false (by show ¬ o.Kind=0; omega)) <| w_f (decide_eq_false (by show ¬ o.Kind=1; omega)) <| w_f (decide_eq_false (by show ¬ o.Kind=2; omega)) <| w_t (decide_eq_true hk) <| qY (by omega) <| qu (qWo hb hp) ?_
    unfold qUt
    by_cases hz:(qm0 b o).2=0
    ·rw [if_pos hz]
     exact w_f (by rw [decide_eq_true hz]; rfl) <| qu (qJJ (p:=qOE o (qm0 b o).1) fb (by show 1 < N; omega) (by show 1≤4611686018427387904; omega)) <| qC rfl
    ·rw [if_neg hz]
     exact w_t (by rw [decide_eq_false hz]; rfl) <| qY rfl <| qC rfl
 ·exact qYR fb hl hl2 hk _
end
end Go.Rx
end
set_option maxRecDepth 100000
noncomputable section
namespace Go.Rx
open Go.Proofs
end Go.Rx
end
set_option maxRecDepth 100000
noncomputable section
namespace Go.Rx
open Go.Proofs
theorem qQS {r:qa} {no:Int} {c:qe} (h:cO r.F no=some c):∃ i,qiy r.F no=some i∧(r.F.getD i zF).C=c:=by
 rw [← qQy] at h
 obtain ⟨i,h1,h2⟩:=Option.map_eq_some_iff.1 h
 exact ⟨i,h1,h2⟩
theorem qPx {r:qa} {no:Int} (h:cO r.F no=none):qiy r.F no=none:=by
 rw [← qQy] at h
 exact Option.map_eq_none_iff.1 h
def zX:Option qa→qd
 | some r=>r.qB
 | none=>zSt
def Qf (o:Option qa) (no:Int):Option qe:=o.bind fun r=>cO r.F no
def exK (c:qe) (o:Option qa) (no:Int):Bool:=slB (zX o) c.S&&(match Qf o no with
 | none=>true
 | some d=>if d.S=c.S then ltD (zJ d.V) (zJ c.V) else slB d.S c.S)
theorem qWQ {c:qe} {r:qa} {no:Int}:exB c (jj r) no=exK c (some r) no:=by
 unfold exB exK
 have e:quW (jj r).F no=qiy r.F no:=qWp no
 rw [e]
 show (slB r.qB c.S&&_)=(slB r.qB c.S&&(match cO r.F no with | none=>true | some d=>if d.S=c.S then ltD (zJ d.V) (zJ c.V) else slB d.S c.S))
 cases h:cO r.F no with
 | none=>rw [qPx h]
 | some d=>
  obtain ⟨i,h1,h2⟩:=qQS h
  rw [h1]
  have hi:=(qdK h1).1
  have eg:(jj r).F.getD i zE=Z6 (r.F.getD i zF):=Wh (d:=zF) hi
  show (_&&(if ((jj r).F.getD i zE).S=c.S then _ else _))=_
  rw [eg]
  show (_&&(if (r.F.getD i zF).C.S=c.S then ltD (zJ (r.F.getD i zF).C.V) (zJ c.V) else slB (r.F.getD i zF).C.S c.S))=_
  rw [h2]
theorem qM4 {b:qb} {D:Vector UInt8 32} {id:Vector UInt8 16}:(QF (jY D b) id).1=match rO b.R id with | some r=>jj r | none=>zL:=by
 rw [qON,← qXY]
 cases qg1 b.R id<;>rfl
theorem qSX {b:qb} {D:Vector UInt8 32} {id:Vector UInt8 16} {c:qe} {no:Int}:exB c (QF (jY D b) id).1 no=exK c (rO b.R id) no:=by
 rw [qM4]
 cases rO b.R id with
 | none=>rfl
 | some r=>exact qWQ
theorem qN_ {b:qb} {D:Vector UInt8 32} {id:Vector UInt8 16}:(QF (jY D b) id).1.qB=zX (rO b.R id):=by
 rw [qM4]
 cases rO b.R id<;>rfl
def jE (o:Option qa) (r:qa):qa:=qa.mk r.ID (if slB (zX o) r.qB=true then r.qB else zSt) (r.F.filter fun f=>exK f.C o f.No)
theorem qjG {b:qb} {D:Vector UInt8 32} {r:qa}:partOf (jY D b) r=jE (rO b.R r.ID) r:=by
 unfold partOf jE
 rw [qN_]
 congr 1
 refine List.filter_congr fun f _=>?_
 rw [qSX]
theorem qvO {m:qt} {r:qa} (h:jk (partOf m r)=true):JV m r=[]:=if_pos h
theorem qvH {m:qt} {r:qa} (h:jk (partOf m r)=false):JV m r=[partOf m r]:=if_neg (by rw [h]; simp)
theorem qNn {a b:qb} {D:Vector UInt8 32} (h:∀ r∈a.R,jk (jE (rO b.R r.ID) r)=true):vA (jY D b) a.R=[]:=by
 have key:∀ l:List qa,(∀ r∈l,jk (jE (rO b.R r.ID) r)=true)→vA (jY D b) l=[]:=by
  intro l
  induction l with
  | nil=>intro _; rfl
  | cons r l ih=>
   intro h
   show JV _ r++vA _ l=_
   rw [qvO (by rw [qjG]; exact h r (List.mem_cons_self ..)),ih fun x hx=>h x (List.mem_cons_of_mem _ hx)]; rfl
 exact key a.R h
end Go.Rx
end
set_option maxRecDepth 100000
noncomputable section
namespace Go.Rx
open Go.Proofs
section
variable {N:Nat} [ZB N]
theorem qP3 {l:List qv} {no:Int} (h:l.length≤600):JO N no l=some (qNP (quW l no)):=by
 have key:=qeW (B:=vH N no l ((l.length:Nat):Int)) (g:=some) (p:=fun k=>decide ((l.getD k zE).No=no)) (n:=l.length) (hit:=fun k=>.inl (k:Int)) (fin:=.inr (((l.length:Nat):Int),false)) (fun k hk=>by
  unfold vH
  refine w_t (dec_lt hk) <| qu (zO (d:=zE) hk) <| qu (show qfA no (l.getD k zE)=some () from rfl) <| vp (c:=decide ((l.getD k zE).No=no)) rfl (fun h=>qC ?_) fun h=>qY (jm (by omega)) <| qC ?_
  ·rw [h]; rfl
  ·rw [h,zf]; rfl) (by
  unfold vH
  exact w_f (zn (Nat.lt_irrefl _)) (qC (by rw [zn (Nat.lt_irrefl _)]))) N 0 (Nat.zero_le _) (by have:=big N; omega)
 rw [Nat.sub_zero] at key
 have e:V_ N no l ((l.length:Nat):Int) 0=qV (vH N no l ((l.length:Nat):Int)) some N ((0:Nat):Int):=rfl
 unfold JO XL
 refine qu (e.trans key) ?_
 unfold quW
 cases Qm (fun k=>decide ((l.getD k zE).No=no)) l.length 0<;>rfl
theorem qYt {c:qe} {x:qp} {no:Int} (hx:x.F.length≤600) (hc:c.V.length≤50000):qaq N c x no=some (exB c x no):=by
 unfold qaq qgo exB
 refine qu (qP3 hx) (qu (XN _ _) ?_)
 cases slB (qp.qB x) (qe.S c) with
 | false=>rfl
 | true=>
  refine w_f rfl ?_
  show _=some (match quW x.F no with | none=>true | some i=>if (x.F.getD i zE).S=c.S then ltD (x.F.getD i zE).D (zJ c.V) else slB (x.F.getD i zE).S c.S)
  cases e:quW x.F no with
  | none=>rfl
  | some i=>
   have hi:=(qdK e).1
   have g:=zO (d:=zE) hi
   refine w_f (decide_eq_false (by show ¬ ((i:Nat):Int) < 0; omega)) (qu g ?_)
   show _=some (if (x.F.getD i zE).S=c.S then ltD (x.F.getD i zE).D (zJ c.V) else slB (x.F.getD i zE).S c.S)
   by_cases h:(x.F.getD i zE).S=c.S
   ·rw [if_pos h]
    exact w_f (by rw [qfU]; show (!decide ((x.F.getD i zE).S=c.S))=false; rw [decide_eq_true h]; rfl) <| qu g <| qu (qho hc) <| qu (qrW _ _) <| qC rfl
   ·rw [if_neg h]
    exact w_t (by rw [qfU]; show (!decide ((x.F.getD i zE).S=c.S))=true; rw [decide_eq_false h]; rfl) <| qu g <| qu (XN _ _) <| qC rfl
end
end Go.Rx
end
set_option maxRecDepth 100000
noncomputable section
namespace Go.Rx
open Go.Proofs
section
variable {N:Nat} [ZB N]
theorem qL8 (p:qa):Jf p=some (jk p):=by
 have e:eqE qk (qa.qB p) (qd.mk 0 0)=decide (p.qB=zSt):=qfU _ _
 have e2:decide (((p.F.length:Nat):Int)=0)=decide (p.F.length=0):=decide_eq_decide.2 (by omega)
 unfold Jf qbB jk
 refine vp e (fun h=>qC ?_) fun h=>qC ?_
 ·rw [h]; exact congrArg some e2
 ·rw [h]; rfl
theorem qMU {b : qb} {m : qt} {x : qp} {o5 : Vector UInt8 16} {o6 : qd} {s12 : List qa} {s13 s14 : Int} {l : List qc} (hx : x.F.length ≤ 600) (hl : l.length ≤ 600) (hV : ∀ k, k < l.length → (l.getD k zF).C.V.length ≤ 200) :
    W9 N b m x o5 o6 s12 s13 s14 l ((l.length:Nat):Int) [] 0=some (l.filter fun f=>exB f.C x f.No,((l.length:Nat):Int),false):=by
 refine jU (σ:=Unit) (B:=YR N b m x o5 o6 s12 s13 s14 l ((l.length:Nat):Int)) (g:=some) (at_:=fun k _=>((l.take k).filter fun f=>exB f.C x f.No,(k:Int))) (I:=fun _ _=>True) (f:=fun _ s=>s) (n:=l.length)
  (fin:=fun _=>(l.filter fun f=>exB f.C x f.No,((l.length:Nat):Int),false)) (fun k s hk _=>⟨?_,trivial⟩) (fun s _=>?_) N 0 () trivial (Nat.zero_le _) (by have:=big N; omega)
 ·have hle:((l.take k).filter fun f=>exB f.C x f.No).length≤600:=Nat.le_trans (List.length_filter_le _ _) (by rw [List.length_take]; omega)
  have hVk:=hV k hk
  unfold YR
  rw [qL4 (d:=zF) hk]
  refine w_t (dec_lt hk) <| qu (zO (d:=zF) hk) <| qu (qYt hx (by show (l.getD k zF).C.V.length≤_; omega)) <| vp rfl (fun h=>?_) fun h=>?_
  ·rw [if_pos (show (fun f:qc=>exB f.C x f.No) (l.getD k zF)=true from h)]
   exact qY ⟨rfl,by rw [List.length_append]; unfold zi; simp; omega⟩ <| qY (jm (by omega)) <| qC (by rw [zf])
  ·rw [if_neg (show ¬ (fun f:qc=>exB f.C x f.No) (l.getD k zF)=true from fun h'=>by rw [show (fun f:qc=>exB f.C x f.No) (l.getD k zF)=false from h] at h'; cases h'),List.append_nil]
   exact qY (jm (by omega)) <| qC (by rw [zf])
 ·unfold YR
  exact w_f (zn (Nat.lt_irrefl _)) (qC (by rw [zn (Nat.lt_irrefl _),List.take_of_length_le (Nat.le_refl _)]))
theorem qFi {o2 : List qa} {b : qb} {m : qt} {x : qp} {o5 : Vector UInt8 16} {o6 : qd} {s12 : List qa} {s13 s14 : Int} {l : List qc} (hx : x.F.length ≤ 600) (hl : l.length ≤ 600) (hV : ∀ k, k < l.length → (l.getD k zF).C.V.length ≤ 200) :
    YO N o2 b m x o5 o6 s12 s13 s14 l ((l.length:Nat):Int) [] 0=some (l.filter fun f=>exB f.C x f.No,((l.length:Nat):Int),false):=qMU (b:=b) (m:=m) (o5:=o5) (o6:=o6) (s12:=s12) (s13:=s13) (s14:=s14) hx hl hV
section f
variable {m:qt} (hf:qHp m=true)
include hf
theorem qVQ {a:qb} (ha:zw a=true) (hm:qEg m=true):qhw N a m=some (vA m a.R):=by
 have hN:=big N
 have hA:=XR.1 ha
 have hfm:=qwi.1 hf
 have fits:vP N a:=⟨by omega,by omega,fun k hk=>by have:=J_ (hA.1 k hk).1; exact ⟨by omega,by omega⟩⟩
 have hpart:∀ k,k < a.R.length→∀ D,(qa.mk (a.R.getD k zR).ID D ((a.R.getD k zR).F.filter fun f=>exB f.C (QF m (a.R.getD k zR).ID).1 f.No))=partOf m (a.R.getD k zR)∨D≠(if slB (QF m (a.R.getD k zR).ID).1.qB (a.R.getD k zR).qB=true then (a.R.getD k zR).qB else zSt):=fun k hk D=>by
  by_cases h:D=(if slB (QF m (a.R.getD k zR).ID).1.qB (a.R.getD k zR).qB=true then (a.R.getD k zR).qB else zSt)
  ·left; rw [h]; rfl
  ·exact .inr h
 have hrec:∀ k,k < a.R.length→(a.R.getD k zR).F.length≤600∧∀ j,j < (a.R.getD k zR).F.length→((a.R.getD k zR).F.getD j zF).C.V.length≤200:=fun k hk=>⟨by have:=J_ (hA.1 k hk).1; omega,fun j hj=>qhd (qB6 (hA.1 k hk).1 j hj)⟩
 have hlx:∀ id,(QF m id).1.F.length≤600:=fun id=>by have:=(qPF hf id).1; omega
 have s1:∀ (s:List qa) (k:Nat),s.length≤k→k≤a.R.length→qV (Jr N a m a.R ((a.R.length:Nat):Int)) some N (s,(k:Int))=some (.inr (s++(a.R.drop k).flatMap (JV m),((a.R.length:Nat):Int),false)):=fun s k hs hk=>by
  have:=jU (σ:=List qa) (B:=Jr N a m a.R ((a.R.length:Nat):Int)) (g:=some) (at_:=fun k s=>(s,(k:Int))) (I:=fun k s=>s.length≤k) (f:=fun k s=>s++JV m (a.R.getD k zR)) (n:=a.R.length)
   (fin:=fun s=>.inr (s,((a.R.length:Nat):Int),false)) (fun k s hk hs=>⟨?_,?_⟩) (fun s _=>?_) N k s hs hk (by omega)
  ·rw [this]
   have key:∀ (m' k:Nat) (s:List qa),k + m'=a.R.length→Jn (fun k s=>s++JV m (a.R.getD k zR)) m' k s=s++(a.R.drop k).flatMap (JV m):=by
    intro m'
    induction m' with
    | zero=>intro k s h; rw [List.drop_of_length_le (by omega)]; show s=s++[]; rw [List.append_nil]
    | succ m' ih=>
     intro k s h
     rw [qmw (d:=zR) (show k < a.R.length by omega),List.flatMap_cons]
     unfold Jn
     rw [ih (k + 1) _ (by omega),List.append_assoc]
   rw [key _ k s (by omega)]
  ·have hr:=hrec k hk
   have keep:∀ D,D=(if slB (QF m (a.R.getD k zR).ID).1.qB (a.R.getD k zR).qB=true then (a.R.getD k zR).qB else zSt)→Z3 s a m (qa.mk (a.R.getD k zR).ID D ((a.R.getD k zR).F.filter fun f=>exB f.C (QF m (a.R.getD k zR).ID).1 f.No))=some (s++JV m (a.R.getD k zR)):=fun D hD=>by
    rw [(hpart k hk D).resolve_right (fun h=>h hD)]
    unfold Z3 Wx JV
    refine qu (qL8 _) ?_
    cases jk (partOf m (a.R.getD k zR)) with
    | true=>exact w_f rfl <| qC (by rw [if_pos rfl,List.append_nil])
    | false=>exact w_t rfl <| qY ⟨rfl,by rw [List.length_append]; unfold zi; simp; omega⟩ <| qC (by rw [if_neg (by simp)])
   unfold Jr
   refine w_t (dec_lt hk) <| qu (zO (d:=zR) hk) <| qu (qJq hf _) <| qu (XN _ _) <| vp rfl (fun h=>?_) fun h=>?_
   ·exact qu ((zo rfl).trans ((zo rfl).trans (qFi (hlx _) hr.1 hr.2))) <| qY rfl <| qu ((zo rfl).trans (keep _ (by rw [if_pos (show slB (QF m (a.R.getD k zR).ID).1.qB (a.R.getD k zR).qB=true from h)]))) <| qY (jm (by omega)) <| qC (by rw [zf])
   ·exact qu ((zo rfl).trans ((zo rfl).trans (qFi (hlx _) hr.1 hr.2))) <| qY rfl <| qu ((zo rfl).trans (keep _ (by rw [if_neg (show ¬ slB (QF m (a.R.getD k zR).ID).1.qB (a.R.getD k zR).qB=true from fun h'=>by rw [show slB (QF m (a.R.getD k zR).ID).1.qB (a.R.getD k zR).qB=false from h] at h'; cases h')]; rfl))) <| qY (jm (by omega)) <| qC (by rw [zf])
  ·rw [List.length_append]
   have:=qEs (m:=m) (r:=a.R.getD k zR)
   omega
  ·unfold Jr
   exact w_f (zn (Nat.lt_irrefl _)) (qC (by rw [zn (Nat.lt_irrefl _)]))
 have l1:∃ z,qfl N a m a.R ((a.R.length:Nat):Int) 0=some z∧(match z with | .inl _=>[] | .inr w=>w.1)=vA m a.R:=by
  refine Xg (B:=XA N a m a.R ((a.R.length:Nat):Int)) (g:=qdx N N (a,m,a.R,((a.R.length:Nat):Int))) (I:=fun v=>∃ k:Nat,k≤a.R.length∧v=(k:Int)∧(a.R.take k).flatMap (JV m)=[]) (Q:=fun z=>(match z with | .inl _=>[] | .inr w=>w.1)=vA m a.R) (fun v=>a.R.length - v.toNat) ?_ N ((0:Nat):Int) ⟨0,Nat.zero_le _,rfl,rfl⟩ (by simp; omega)
  rintro v ⟨k,hk,rfl,h0⟩
  by_cases h:k < a.R.length
  ·have hr:=hrec k h
   have hall:vA m a.R=(a.R.take k).flatMap (JV m)++(JV m (a.R.getD k zR)++(a.R.drop (k + 1)).flatMap (JV m)):=by
    have:a.R=a.R.take k++(a.R.getD k zR::a.R.drop (k + 1)):=by rw [← qmw (d:=zR) h,List.take_append_drop]
    unfold vA
    conv=>lhs; rw [this]
    rw [List.flatMap_append,List.flatMap_cons]
   have roundS:∀ D,D=(if slB (QF m (a.R.getD k zR).ID).1.qB (a.R.getD k zR).qB=true then (a.R.getD k zR).qB else zSt)→Zu a m (qa.mk (a.R.getD k zR).ID D ((a.R.getD k zR).F.filter fun f=>exB f.C (QF m (a.R.getD k zR).ID).1 f.No))=some (if jk (partOf m (a.R.getD k zR))=true then .inr () else .inl ()):=fun D hD=>by
    rw [(hpart k h D).resolve_right (fun h=>h hD)]
    unfold Zu Kt
    refine qu (qL8 _) ?_
    cases jk (partOf m (a.R.getD k zR)) with
    | true=>rfl
    | false=>exact w_t rfl <| qY (by unfold qDd; unfold zi; decide) <| qC rfl
   have both : ∀ D, D = (if slB (QF m (a.R.getD k zR).ID).1.qB (a.R.getD k zR).qB = true then (a.R.getD k zR).qB else zSt) →
       (Tree.bind (zY [(([]:List qc).length,0)] (W9 N a m (QF m (a.R.getD k zR).ID).1 (a.R.getD k zR).ID D a.R ((a.R.length:Nat):Int) (k:Int) (a.R.getD k zR).F (((a.R.getD k zR).F.length:Nat):Int) [] 0)) fun z4=>Tree.chk (z4.1.length=z4.1.length) <|
        .bind (Zu a m (qa.mk (a.R.getD k zR).ID D z4.1)) fun r5=>.sum r5 (fun _=>.chk (qw ((k:Int) + 1)) (.ret (.inr (.inl ([qa.mk (a.R.getD k zR).ID D z4.1],(k:Int) + 1))))) fun _=>.chk (qw ((k:Int) + 1)) (.ret (.inl ((k:Int) + 1):Int⊕YT))).run some =
       some (if jk (partOf m (a.R.getD k zR))=true then .inl ((k + 1:Nat):Int) else .inr (.inl ([partOf m (a.R.getD k zR)],((k + 1:Nat):Int)))):=fun D hD=>by
    refine qu ((zo rfl).trans (qMU (hlx _) hr.1 hr.2)) <| qY rfl <| qu (roundS D hD) ?_
    cases hn:jk (partOf m (a.R.getD k zR)) with
    | true=>exact w_r rfl <| qY (jm (by omega)) <| qC (by rw [zf]; rfl)
    | false=>
     refine w_l rfl <| qY (jm (by omega)) <| qC ?_
     rw [zf,← (hpart k h D).resolve_right (fun h=>h hD)]; rfl
   have step:(XA N a m a.R ((a.R.length:Nat):Int) (k:Int)).run some=some (if jk (partOf m (a.R.getD k zR))=true then .inl ((k + 1:Nat):Int) else .inr (.inl ([partOf m (a.R.getD k zR)],((k + 1:Nat):Int)))):=by
    unfold XA
    refine w_t (dec_lt h) <| qu (zO (d:=zR) h) <| qu (qJq hf _) <| qu (XN _ _) <| vp rfl (fun h=>?_) fun h=>?_
    ·exact both _ (by rw [if_pos (show slB (QF m (a.R.getD k zR).ID).1.qB (a.R.getD k zR).qB=true from h)])
    ·exact both _ (by rw [if_neg (show ¬ slB (QF m (a.R.getD k zR).ID).1.qB (a.R.getD k zR).qB=true from fun h'=>by rw [show slB (QF m (a.R.getD k zR).ID).1.qB (a.R.getD k zR).qB=false from h] at h'; cases h')]; rfl)
   cases hn:jk (partOf m (a.R.getD k zR)) with
   | true=>
    left
    rw [hn,if_pos rfl] at step
    exact ⟨_,step,⟨k + 1,h,rfl,by rw [qlq (d:=zR) h,h0]; unfold JV; rw [if_pos hn]; rfl⟩,by simp only [Int.toNat_natCast]; omega⟩
   | false=>
    right
    rw [hn,if_neg (by simp)] at step
    refine ⟨_,_,step,s1 _ (k + 1) (by show (1:Nat)≤k + 1; omega) h,?_⟩
    show [partOf m (a.R.getD k zR)]++(a.R.drop (k + 1)).flatMap (JV m)=_
    rw [hall,h0]
    unfold JV
    rw [if_neg (by rw [hn]; simp)]; rfl
  ·right
   obtain rfl:k=a.R.length:=by omega
   rw [List.take_of_length_le (Nat.le_refl _)] at h0
   refine ⟨.inr (.inl (((a.R.length:Nat):Int),false)),_,?_,rfl,h0.symm⟩
   unfold XA
   exact w_f (zn (Nat.lt_irrefl _)) (qC (by rw [zn (Nat.lt_irrefl _)]))
 obtain ⟨z,ez,hz⟩:=l1
 unfold qhw qiI
 refine qu (qfk fits) <| w_f (by rw [ha]; rfl) <| qu (qX3 (by omega) (fun k hk=>by have:=(hfm.2 k hk).1; omega)) <| w_f (by rw [hm]; rfl) <| qu (show qqD a m=some () from rfl) ?_
 rw [← hz]
 cases z with
 | inl w=>
  have e1:Ko N a m=some (.inl ()):=by
   unfold Ko qc8
   exact qu ez <| w_l rfl <| qC rfl
  exact qu e1 <| w_l rfl <| qC rfl
 | inr w=>
  have e1:Ko N a m=some (.inr w.1):=by
   unfold Ko qc8
   exact qu ez <| w_r rfl <| qC rfl
  exact qu e1 <| w_r rfl <| qY rfl <| qC rfl
end f
end
end Go.Rx
end
set_option maxRecDepth 100000
noncomputable section
namespace Go.Rx
open Go.Proofs
theorem qlg {α:Type} {d:α} {l:List α} {k:Nat} (h:k < l.length):l.getD k d∈l:=by
 rw [List.getD_eq_getElem?_getD,List.getElem?_eq_getElem h]; exact List.getElem_mem h
theorem qFc {a b:qb} {D:Vector UInt8 32} {x:qa} (h:x∈vA (jY D b) a.R):∃ r∈a.R,x=jE (rO b.R r.ID) r:=by
 obtain ⟨r,hr,hx⟩:=List.mem_flatMap.1 h
 refine ⟨r,hr,?_⟩
 unfold JV at hx
 split at hx
 ·exact absurd hx List.not_mem_nil
 ·rw [List.mem_singleton.1 hx,qjG]
end Go.Rx
end
set_option maxRecDepth 100000
noncomputable section
namespace Go.Rx
open Go.Proofs
theorem qMY {id:Vector UInt8 16} {o p:Option qa} (ho:VO id o) (hp:VO id p) (h1:zX o=zX p) (h2:∀ no,Qf o no=Qf p no):o=p:=by
 have emp:∀ {r:qa},zZ r=true→r.qB=zSt→(∀ no,cO r.F no=none)→False:=fun {r} hr hd hc=>by
  have hR:=ve.1 hr
  have hne:=hR.2.1.resolve_right (fun h=>h hd)
  obtain ⟨f,l,e⟩:=List.exists_cons_of_ne_nil hne
  have:=hc f.No
  rw [e,ZX,if_pos rfl] at this; cases this
 cases o with
 | none=>
  cases p with
  | none=>rfl
  | some r=>exact (emp (hp r rfl).1 h1.symm fun no=>(h2 no).symm).elim
 | some r=>
  cases p with
  | none=>exact (emp (ho r rfl).1 h1 h2).elim
  | some s=>exact congrArg some (qDP (ho r rfl).1 (hp s rfl).1 ((ho r rfl).2.trans (hp s rfl).2.symm) h1 h2)
theorem qk_ {id:Vector UInt8 16} {o:Option qa} (ho:VO id o):stB (zX o)=true:=by
 cases o with
 | none=>rfl
 | some r=>exact (ve.1 (ho r rfl).1).1
theorem qHg {d:qd} (h:stB d=true):mxS zSt d=d:=by
 by_cases e:d=zSt
 ·rw [e,qrA]
 ·exact qaV (qrI h e)
theorem qti {d:qd} (h:stB d=true):mxS d zSt=d:=by rw [qq5,qHg h]
theorem qDx {id:Vector UInt8 16} {o:Option qa} (ho:VO id o) (no:Int):fl (zX o) (Qf o no)=Qf o no:=by
 cases o with
 | none=>rfl
 | some r=>exact qWs (ho r rfl).1 no
theorem qoP {id:Vector UInt8 16} {o p:Option qa} (ho:VO id o) (hp:VO id p):zX (jR o p)=mxS (zX o) (zX p):=by
 cases o with
 | none=>exact (qHg (qk_ hp)).symm
 | some r=>
  cases p with
  | none=>exact (qti (qk_ ho)).symm
  | some s=>rfl
theorem qMv (o:Option qe):jC o none=o:=by cases o<;>rfl
theorem qpL {id:Vector UInt8 16} {o p:Option qa} (ho:VO id o) (hp:VO id p) (no:Int):Qf (jR o p) no=fl (mxS (zX o) (zX p)) (jC (Qf o no) (Qf p no)):=by
 cases o with
 | none=>
  show Qf p no=fl (mxS zSt (zX p)) (Qf p no)
  rw [qHg (qk_ hp),qDx hp]
 | some r=>
  cases p with
  | none=>
   show Qf (some r) no=fl (mxS (zX (some r)) zSt) (jC (Qf (some r) no) none)
   rw [qti (qk_ ho),qMv,qDx ho]
  | some s=>exact qnd (ho r rfl).1 (hp s rfl).1 no
theorem qXB {p:qa}:zX (oP (jS p) p.ID)=p.qB∧∀ no,Qf (oP (jS p) p.ID) no=none:=by
 unfold oP
 by_cases h:p.qB=zSt
 ·rw [if_pos (by show (decide (p.qB=zSt)&&true)=true; rw [decide_eq_true h]; rfl)]
  exact ⟨h.symm,fun _=>rfl⟩
 ·rw [if_neg (by show ¬ (decide (p.qB=zSt)&&true)=true; rw [decide_eq_false h]; simp),VI,if_pos (show (jS p).ID=p.ID from rfl)]
  exact ⟨rfl,fun _=>rfl⟩
theorem qMK {p:qa}:zX (oP (Qe p) p.ID)=zSt∧∀ no,Qf (oP (Qe p) p.ID) no=cO p.F no:=by
 unfold oP
 by_cases h:p.F.length=0
 ·rw [if_pos (by show (true&&decide (p.F.length=0))=true; rw [decide_eq_true h]; rfl)]
  refine ⟨rfl,fun no=>?_⟩
  rw [List.length_eq_zero_iff.1 h]; rfl
 ·rw [if_neg (by show ¬ (true&&decide (p.F.length=0))=true; rw [decide_eq_false h]; simp),VI,if_pos (show (Qe p).ID=p.ID from rfl)]
  exact ⟨rfl,fun _=>rfl⟩
theorem qlv {e:qa} {id:Vector UInt8 16} (h:e.ID≠id):oP e id=none:=by
 unfold oP
 split
 ·rfl
 ·rw [VI,if_neg h]; rfl
def qDX (o:Option qa) (r:qa):Prop:=∀ no d c,Qf o no=some d→cO r.F no=some c→zJ d.V=zJ c.V→d.V=c.V
theorem qE9 {q:qc→Bool} {no:Int}:∀ {l:List qc},qkf l→cO (l.filter q) no=(l.find? fun f=>decide (f.No=no)).bind fun f=>if q f=true then some f.C else none
 | [],_=>rfl
 | x::l,h=>by
  have hp:=List.pairwise_cons.1 h
  have ih:=qE9 (q:=q) (no:=no) hp.2
  rw [List.filter_cons,List.find?_cons]
  by_cases e:x.No=no
  ·rw [decide_eq_true e]
   show _=if q x=true then some x.C else none
   by_cases hq:q x=true
   ·rw [if_pos hq,if_pos hq,ZX,if_pos e]
   ·rw [if_neg hq,if_neg hq]
    cases hc:cO (l.filter q) no with
    | none=>rfl
    | some c=>
     obtain ⟨f,hf,h1,_⟩:=WA hc
     have:=hp.1 f (List.mem_filter.1 hf).1
     omega
  ·rw [decide_eq_false e]
   show _=(l.find? fun f=>decide (f.No=no)).bind _
   by_cases hq:q x=true
   ·rw [if_pos hq,ZX,if_neg e,ih]
   ·rw [if_neg hq,ih]
theorem qSj {o:Option qa} {r:qa} (hr:zZ r=true) (no:Int):cO (jE o r).F no=(cO r.F no).filter fun c=>exK c o no:=by
 show cO (r.F.filter fun f=>exK f.C o f.No) no=_
 rw [qE9 (ve.1 hr).2.2.1]
 unfold cO
 cases hf:r.F.find? fun f=>decide (f.No=no) with
 | none=>rfl
 | some f=>
  have hno:f.No=no:=of_decide_eq_true (List.find?_some (p:=fun f:qc=>decide (f.No=no)) hf)
  subst hno
  show (if exK f.C o f.No=true then some f.C else none)=(some f.C).filter fun c=>exK c o f.No
  rw [Option.filter_some]
theorem qXE {id:Vector UInt8 16} {o:Option qa} (ho:VO id o) {no:Int} {d:qe} (h:Qf o no=some d):slB (zX o) d.S=true:=by
 cases o with
 | none=>cases h
 | some r=>exact (qll (ho r rfl).1 h).2.2.2
theorem qPY {id : Vector UInt8 16} {o : Option qa} {c : qe} {D : qd} {no : Int} (hD : slB D (zX o) = false) (ho : VO id o) (hx : exK c o no = false) (hc : ∀ d, Qf o no = some d → zJ d.V = zJ c.V → d.V = c.V) :
    fl D (jC (Qf o no) none)=fl D (jC (Qf o no) (some c)):=by
 unfold exK at hx
 cases e:Qf o no with
 | none=>
  rw [e] at hx
  have hx:(slB (zX o) c.S&&true)=false:=hx
  rw [Bool.and_true] at hx
  show none=fl D (some c)
  rw [qfg,if_neg (by rw [qqp hD hx]; simp)]
 | some d=>
  rw [e] at hx
  have hd:=qXE ho e
  have key:j8 d c=false:=by
   cases hs:slB (zX o) c.S with
   | false=>
    have hcd:slB c.S d.S=true:=by
     rcases Y8 c.S (zX o) with h | h | h
     ·exact KI h.1 hd
     ·rw [h]; exact hd
     ·rw [hs] at h; exact absurd h.1 (by simp)
    unfold j8
    rw [if_neg (fun h=>qSU hcd h.symm)]
    rcases Y8 d.S c.S with h | h | h
    ·have:=KI hcd h.1; rw [Q6] at this; cases this
    ·rw [h,Q6]
    ·exact h.2
   | true=>
    rw [hs,Bool.true_and] at hx
    have hx:(if d.S=c.S then ltD (zJ d.V) (zJ c.V) else slB d.S c.S)=false:=hx
    unfold j8
    by_cases h1:d.S=c.S
    ·rw [if_pos h1] at hx ⊢
     by_cases h2:zJ d.V=zJ c.V
     ·rw [if_pos h2,hc d e h2,WH]
     ·rw [if_neg h2]; exact hx
    ·rw [if_neg h1] at hx ⊢; exact hx
  show fl D (some d)=fl D (some (cJ d c))
  rw [qgf key]
theorem qEG {o:Option qa} {r:qa}:mxS (zX o) (jE o r).qB=mxS (zX o) r.qB∨stB (zX o)=false:=by
 show mxS (zX o) (if slB (zX o) r.qB=true then r.qB else zSt)=_∨_
 cases hs:stB (zX o) with
 | false=>exact .inr rfl
 | true=>
  left
  cases h:slB (zX o) r.qB with
  | true=>rfl
  | false=>
   show mxS (zX o) zSt=_
   rw [qa1 h,qti hs]
theorem qMr {o:Option qa} {r:qa} (hr:zZ r=true):stB (jE o r).qB=true∧((jE o r).F.length=0∨zZ (Qe (jE o r))=true):=by
 have hR:=ve.1 hr
 refine ⟨?_,?_⟩
 ·show stB (if slB (zX o) r.qB=true then r.qB else zSt)=true
  split
  ·exact hR.1
  ·rfl
 ·by_cases h0:(jE o r).F.length=0
  ·exact .inl h0
  ·right
   refine ve.2 ⟨rfl,.inl (fun h=>h0 (by rw [show (jE o r).F=[] from h]; rfl)),hR.2.2.1.sublist (List.filter_sublist),fun f hf=>?_⟩
   have h1:=hR.2.2.2 f (List.mem_filter.1 hf).1
   have hc:=h1.2.2.1
   unfold V3 at hc
   simp only [Bool.and_eq_true,Bool.not_eq_true',decide_eq_false_iff_not] at hc
   exact ⟨h1.1,h1.2.1,h1.2.2.1,qrI hc.2.1 hc.1⟩
theorem qEQ {o : Option qa} {r : qa} (hr : zZ r = true) (ho : VO r.ID o) (hn : qDX o r) :
    jR (jR o (oP (jS (jE o r)) r.ID)) (oP (Qe (jE o r)) r.ID)=jR o (some r):=by
 obtain ⟨hs,hl⟩:=qMr (o:=o) hr
 have vh:VO r.ID (oP (jS (jE o r)) r.ID):=qq2 (qMi hs) _
 have vl:VO r.ID (oP (Qe (jE o r)) r.ID):=qq2 (qMe hl) _
 have vr:VO r.ID (some r):=fun x hx=>by obtain rfl:=Option.some.inj hx; exact ⟨hr,rfl⟩
 have h1:=qXB (p:=jE o r)
 have h2:=qMK (p:=jE o r)
 have hp:(jE o r).ID=r.ID:=rfl
 rw [hp] at h1 h2
 have so:=qk_ ho
 have d1:zX (jR o (oP (jS (jE o r)) r.ID))=mxS (zX o) r.qB:=by
  rw [qoP ho vh,h1.1]
  exact (qEG (o:=o) (r:=r)).resolve_right (by rw [so]; simp)
 have sd:stB (mxS (zX o) r.qB)=true:=by
  rcases qS4 (zX o) r.qB with e | e
  ·rw [e]; exact so
  ·rw [e]; exact (ve.1 hr).1
 refine qMY (qwb (qwb ho vh) vl) (qwb ho vr) ?_ fun no=>?_
 ·rw [qoP (qwb ho vh) vl,d1,h2.1,qti sd,qoP ho vr]; rfl
 ·rw [qpL (qwb ho vh) vl,qpL ho vr,d1,h2.1,qti sd,h2.2,qpL ho vh,h1.2]
  have e1:mxS (zX o) (zX (oP (jS (jE o r)) r.ID))=mxS (zX o) r.qB:=by
   rw [h1.1]; exact (qEG (o:=o) (r:=r)).resolve_right (by rw [so]; simp)
  rw [e1]
  have e2:=qEj (d:=mxS (zX o) r.qB) (d1:=mxS (zX o) r.qB) (Q6 _) (jC (Qf o no) none) (cO (jE o r).F no)
  have e3:fl (mxS (zX o) r.qB) (jC (fl (mxS (zX o) r.qB) (jC (Qf o no) none)) (cO (jE o r).F no))=fl (mxS (zX o) r.qB) (jC (Qf o no) (cO (jE o r).F no)):=by
   rw [e2,qMv]
  rw [e3,qSj hr]
  show fl (mxS (zX o) r.qB) (jC (Qf o no) ((cO r.F no).filter fun c=>exK c o no))=fl (mxS (zX o) r.qB) (jC (Qf o no) (cO r.F no))
  cases ec:cO r.F no with
  | none=>rfl
  | some c=>
   rw [Option.filter_some]
   by_cases hx:exK c o no=true
   ·rw [if_pos hx]
   ·rw [if_neg hx]
    exact qPY (qJp _ _) ho (by cases h:exK c o no with | false=>rfl | true=>exact (hx h).elim) fun d hd=>hn no d c hd ec
end Go.Rx
end
set_option maxRecDepth 100000
noncomputable section
namespace Go.Rx
open Go.Proofs
def qv6 (N:Nat) (fin:qb→Prop):List qa→qb→Prop
 | [],c=>zw c=true∧fin c
 | p::l,c=>zw c=true∧p.F.length≤8∧(ZP N c p).2=0∧qv6 N fin l (ZP N c p).1
theorem qt8 {N:Nat} {fin fin':qb→Prop} (h:∀ c,fin c→fin' c):∀ {l:List qa} {c:qb},qv6 N fin l c→qv6 N fin' l c
 | [],_,g=>⟨g.1,h _ g.2⟩
 | _::_,_,g=>⟨g.1,g.2.1,g.2.2.1,qt8 h g.2.2.2⟩
theorem qXr {c J:List qa} (hc:qaZ c) (h:∀ id,rO c id≠none→rO J id≠none):c.length≤J.length:=by
 have:=qJZ (l:=c.map fun r=>r.ID) (m:=J.map fun r=>r.ID) (qSA hc) fun id hid=>by
  obtain ⟨r,hr,rfl⟩:=List.mem_map.1 hid
  have hn:=h r.ID (by rw [qmW hc hr]; simp)
  cases e:rO J r.ID with
  | none=>exact (hn e).elim
  | some s=>exact List.mem_map.2 ⟨s,(QJ e).1,(QJ e).2⟩
 rwa [List.length_map,List.length_map] at this
section
variable {N:Nat} [ZB N]
theorem qJ8 {c:qb} {e:qa} {J:List qa} (hJ:J.length≤10) (hc:zw c=true) (he:jk e=true∨zZ e=true) (hsub:∀ id,jR (rO c.R id) (oP e id)≠none→rO J id≠none):(Q8 N c e).2=0:=by
 cases hn:jk e with
 | true=>rw [qIe hn]
 | false=>
  have hr:zZ e=true:=he.resolve_left (by rw [hn]; simp)
  have hb1:zw (qb.mk [e])=true:=Qd.2 ⟨⟨List.pairwise_singleton _ _,fun r hr'=>by rw [List.mem_singleton.1 hr']; exact hr⟩,by show 1≤10; omega⟩
  obtain ⟨d,hd,ed⟩:=qQU (N:=N) hc hb1
  have hl:d.length≤J.length:=qXr hd.1 fun id hid=>hsub id (by
   rw [hd.2] at hid
   unfold oP
   rw [if_neg (by rw [hn]; simp)]; exact hid)
  rw [qJ5 hn,ed]
  unfold qBt
  rw [if_pos (by omega)]
theorem qzd {c : qb} {p : qa} {J : List qa} (hJ : J.length ≤ 10) (hc : zw c = true) (h8 : p.F.length ≤ 8) (hn : jk p = false) (hs : stB p.qB = true) (hl : p.F.length = 0 ∨ zZ (Qe p) = true)
    (hsub:∀ id,jR (jR (rO c.R id) (oP (jS p) id)) (oP (Qe p) id)≠none→rO J id≠none):(ZP N c p).2=0:=by
 have hN:=big N
 have mono:∀ {o q:Option qa},o≠none→jR o q≠none:=fun {o q} h=>by
  cases o with
  | none=>exact (h rfl).elim
  | some r=>cases q<;>simp [jR]
 have z1:(Q8 N c (jS p)).2=0:=qJ8 hJ hc (qMi hs) fun id hid=>hsub id (mono hid)
 obtain ⟨v1,r1⟩:=qtN (e:=jS p) hc (by show 0 < N; omega) (Nat.zero_le _) z1
 have z2:(Q8 N (Q8 N c (jS p)).1 (Qe p)).2=0:=qJ8 hJ v1 (qMe hl) fun id hid=>hsub id (by rw [r1] at hid; exact hid)
 unfold ZP qDr
 rw [if_pos (qyu.2 ⟨hc,hn,hs,hl⟩),if_pos z1,if_pos z2]
theorem qIB {p:qa} (h:jk p=true) (id:Vector UInt8 16):oP (jS p) id=none∧oP (Qe p) id=none:=by
 unfold jk at h
 rw [Bool.and_eq_true] at h
 exact ⟨if_pos (by show (decide (p.qB=zSt)&&true)=true; rw [h.1]; rfl),if_pos (by show (true&&decide (p.F.length=0))=true; rw [h.2]; rfl)⟩
theorem qCL {J : List qa} (hJ : J.length ≤ 10) {m : qt} : ∀ (rs : List qa) (c : qb), zw c = true → qaZ rs → (∀ r ∈ rs, zZ r = true) →
    (∀ r∈rs,partOf m r=jE (rO c.R r.ID) r)→(∀ r∈rs,qDX (rO c.R r.ID) r)→(∀ id,rO c.R id≠none→rO J id≠none)→(∀ r∈rs,rO J r.ID≠none)→
    qv6 N (fun c'=>∀ id,rO c'.R id=jR (rO c.R id) (rO rs id)) (rs.flatMap (JV m)) c
 | [],c,hc,_,_,_,_,_,_=>⟨hc,fun id=>by rw [qBY,Q5]⟩
 | r::rs,c,hc,hs,hr,hp,hn,hsub,hin=>by
  have ps:=List.pairwise_cons.1 hs
  have hrr:=hr r (List.mem_cons_self ..)
  have hC:=Qd.1 hc
  have vo:VO r.ID (rO c.R r.ID):=qj4 hC.1.2 _
  have hjp:=qEQ hrr vo (hn r (List.mem_cons_self ..))
  have hpr:=hp r (List.mem_cons_self ..)
  have hne:∀ x∈rs,r.ID≠x.ID:=fun x hx e=>by
   have:=ps.1 x hx
   rw [e,qeC] at this; cases this
  have hrest:rO rs r.ID=none:=by
   cases e:rO rs r.ID with
   | none=>rfl
   | some x=>exact (hne x (QJ e).1 (QJ e).2.symm).elim
  rw [List.flatMap_cons]
  cases hno:jk (partOf m r) with
  | true=>
   rw [qvO hno]
   rw [hpr] at hno
   have ho:=qIB hno r.ID
   rw [ho.1,ho.2,Q5,Q5] at hjp
   refine qt8 (fun c' h id=>?_) (qCL hJ rs c hc ps.2 (fun x hx=>hr x (List.mem_cons_of_mem _ hx)) (fun x hx=>hp x (List.mem_cons_of_mem _ hx)) (fun x hx=>hn x (List.mem_cons_of_mem _ hx)) hsub fun x hx=>hin x (List.mem_cons_of_mem _ hx))
   rw [h id,VI]
   by_cases e:r.ID=id
   ·subst e
    rw [if_pos rfl,hrest,Q5]; exact hjp
   ·rw [if_neg e]
  | false=>
   rw [qvH hno]
   show qv6 N _ (partOf m r::rs.flatMap (JV m)) c
   rw [hpr] at hno ⊢
   obtain ⟨hst,hlv⟩:=qMr (o:=rO c.R r.ID) hrr
   have h8:(jE (rO c.R r.ID) r).F.length≤8:=Nat.le_trans (List.length_filter_le _ _) (J_ hrr)
   have hnew:∀ id,jR (jR (rO c.R id) (oP (jS (jE (rO c.R r.ID) r)) id)) (oP (Qe (jE (rO c.R r.ID) r)) id)=if r.ID=id then jR (rO c.R id) (some r) else rO c.R id:=fun id=>by
    by_cases e:r.ID=id
    ·subst e; rw [if_pos rfl]; exact hjp
    ·rw [if_neg e,qlv (show (jS (jE (rO c.R r.ID) r)).ID≠id from e),qlv (show (Qe (jE (rO c.R r.ID) r)).ID≠id from e),Q5,Q5]
   have hsub':∀ id,jR (jR (rO c.R id) (oP (jS (jE (rO c.R r.ID) r)) id)) (oP (Qe (jE (rO c.R r.ID) r)) id)≠none→rO J id≠none:=fun id h=>by
    rw [hnew] at h
    by_cases e:r.ID=id
    ·rw [← e]; exact hin r (List.mem_cons_self ..)
    ·rw [if_neg e] at h; exact hsub id h
   have hz:=qzd (N:=N) hJ hc h8 hno hst hlv hsub'
   have hN:=big N
   obtain ⟨_,hv,hrO⟩:=qwu (N:=N) (by omega) (by omega) hz
   have hrO':∀ id,rO (ZP N c (jE (rO c.R r.ID) r)).1.R id=if r.ID=id then jR (rO c.R id) (some r) else rO c.R id:=fun id=>(hrO id).trans (hnew id)
   have same:∀ x∈rs,rO (ZP N c (jE (rO c.R r.ID) r)).1.R x.ID=rO c.R x.ID:=fun x hx=>by rw [hrO',if_neg (hne x hx)]
   refine ⟨hc,h8,hz,qt8 (fun c' h id=>?_) (qCL hJ rs _ hv ps.2 (fun x hx=>hr x (List.mem_cons_of_mem _ hx)) (fun x hx=>by rw [same x hx]; exact hp x (List.mem_cons_of_mem _ hx)) (fun x hx=>by rw [same x hx]; exact hn x (List.mem_cons_of_mem _ hx)) (fun id h=>by rw [hrO] at h; exact hsub' id h) fun x hx=>hin x (List.mem_cons_of_mem _ hx))⟩
   rw [h id,hrO',VI]
   by_cases e:r.ID=id
   ·subst e
    rw [if_pos rfl,if_pos rfl,hrest,Q5]
   ·rw [if_neg e,if_neg e]
end
end Go.Rx
end
set_option maxRecDepth 100000
noncomputable section
namespace Go.Rx
open Go.Proofs
def qbQ (id:Vector UInt8 16) (f:qc):qh:=qh.mk 1 id f.C.S f.No f.C.V [] zI 0 zD
def qrT (r:qa):qh:=qh.mk 0 r.ID r.qB 0 [] [] zI 0 zD
def qJS (r:qa):List qh:=if r.qB=zSt then [] else [qrT r]
def Yz (r:qa):List qh:=qJS r++r.F.map (qbQ r.ID)
theorem qWO {id:Vector UInt8 16} {f:qc} (h0:0≤f.No) (h8:f.No < 8) (hc:V3 f.C=true):opB (qbQ id f)=true:=by
 unfold V3 at hc
 rw [Bool.and_eq_true,Bool.and_eq_true,Bool.not_eq_true',decide_eq_false_iff_not] at hc
 have hl:f.C.V.length≤200:=of_decide_eq_true hc.2.2
 exact qD6.2 ⟨⟨by show (0:Int)≤1; omega,by show (1:Int) < 4; omega⟩,rfl,hc.1,hc.2.1,⟨h0,h8⟩,⟨by show (0:Int)≤0; omega,by show (0:Int) < 8; omega⟩,hl,rfl⟩
theorem qUa {r:qa} (h:r.qB≠zSt) (hs:stB r.qB=true):opB (qrT r)=true:=
 qD6.2 ⟨⟨by show (0:Int)≤0; omega,by show (0:Int) < 4; omega⟩,rfl,h,hs,⟨by show (0:Int)≤0; omega,by show (0:Int) < 8; omega⟩,⟨by show (0:Int)≤0; omega,by show (0:Int) < 8; omega⟩,Nat.zero_le _,rfl⟩
abbrev vS (id:Vector UInt8 16) (fs:List qc):qa:=qa.mk id zSt fs
theorem qz0 (id:Vector UInt8 16) (fs:List qc):zX (oP (vS id fs) id)=zSt∧∀ no,Qf (oP (vS id fs) id) no=cO fs no:=qMK (p:=vS id fs)
theorem qJU {id:Vector UInt8 16} {fs:List qc} (h:fs=[]∨zZ (vS id fs)=true):jk (vS id fs)=true∨zZ (vS id fs)=true:=h.imp (fun e=>by subst e; rfl) fun h=>h
theorem qz3 {id:Vector UInt8 16} {f:qc} {fs:List qc} (h:zZ (vS id (f::fs))=true):zZ (vS id [f])=true∧(fs=[]∨zZ (vS id fs)=true):=by
 obtain ⟨h1,_,h3,h4⟩:=ve.1 h
 refine ⟨ve.2 ⟨h1,.inl (List.cons_ne_nil _ _),List.pairwise_singleton _ _,fun g hg=>h4 g (by rw [List.mem_singleton.1 hg]; exact List.mem_cons_self ..)⟩,?_⟩
 cases fs with
 | nil=>exact .inl rfl
 | cons g gs=>exact .inr (ve.2 ⟨h1,.inl (List.cons_ne_nil _ _),(List.pairwise_cons.1 h3).2,fun x hx=>h4 x (List.mem_cons_of_mem _ hx)⟩)
theorem qEE {id:Vector UInt8 16} {f:qc} {fs:List qc} (h:zZ (vS id (f::fs))=true) (i:Vector UInt8 16):jR (oP (vS id [f]) i) (oP (vS id fs) i)=oP (vS id (f::fs)) i:=by
 by_cases e:id=i
 ·subst e
  obtain ⟨h1,h2⟩:=qz3 h
  have v1:=qq2 (.inr h1) id
  have v2:=qq2 (qJU h2) id
  have v3:=qq2 (.inr h) id
  obtain ⟨d1,c1⟩:=qz0 id [f]
  obtain ⟨d2,c2⟩:=qz0 id fs
  obtain ⟨d3,c3⟩:=qz0 id (f::fs)
  refine qMY (qwb v1 v2) v3 ?_ fun no=>?_
  ·rw [qoP v1 v2,d1,d2,d3,qrA]
  ·have k3:=qDx v3 no
   rw [d3,c3] at k3
   rw [qpL v1 v2,d1,d2,qrA,c1,c2,c3,← k3]
   congr 1
   have hs:=(ve.1 h).2.2.1
   have e1:cO [f] no=if f.No=no then some f.C else none:=ZX
   have e2:cO (f::fs) no=if f.No=no then some f.C else cO fs no:=ZX
   rw [e1,e2]
   by_cases en:f.No=no
   ·rw [if_pos en,if_pos en]
    cases ec:cO fs no with
    | none=>rfl
    | some d=>
     obtain ⟨g,hg,hgn,_⟩:=WA ec
     have:=(List.pairwise_cons.1 hs).1 g hg
     rw [hgn,en] at this
     exact absurd this (by omega)
   ·rw [if_neg en,if_neg en]
    cases cO fs no<;>rfl
 ·rw [qlv (show (vS id [f]).ID≠i from e),qlv (show (vS id fs).ID≠i from e),qlv (show (vS id (f::fs)).ID≠i from e)]; rfl
theorem qWf {o q:Option qa} (h:o≠none∨q≠none):jR o q≠none:=by
 cases o<;>cases q<;>simp [jR] at h ⊢
section
variable {N:Nat} [ZB N]
theorem qM_ {c:qb} (hc:zw c=true) {id:Vector UInt8 16} {f:qc} (h:opB (qbQ id f)=true) (m:List UInt8×Int):doD N c (qbQ id f) m=ZP N c (vS id [f]):=by
 unfold doD
 rw [if_pos ⟨hc,h⟩,if_neg (by show ¬ (1:Int)=0; omega)]
 rfl
theorem qIF {c:qb} (hc:zw c=true) {r:qa} (h:opB (qrT r)=true) (m:List UInt8×Int):doD N c (qrT r) m=ZP N c (jS r):=by
 unfold doD
 rw [if_pos ⟨hc,h⟩,if_pos (show (qrT r).Kind=0 from rfl)]
 rfl
def qgi (N:Nat) (fin:qb→Prop):List qh→qb→Prop
 | [],c=>zw c=true∧fin c
 | o::os,c=>zw c=true∧opB o=true∧(doD N c o (qm0 c o)).2=0∧qgi N fin os (doD N c o (qm0 c o)).1
theorem qta {J : List qa} (hJ : J.length ≤ 10) {id : Vector UInt8 16} {fin : qb → Prop} {os : List qh} : ∀ (fs : List qc) (c : qb), zw c = true → (fs = [] ∨ zZ (vS id fs) = true) →
    (∀ i,jR (rO c.R i) (oP (vS id fs) i)≠none→rO J i≠none)→(∀ c':qb,zw c'=true→(∀ i,rO c'.R i=jR (rO c.R i) (oP (vS id fs) i))→qgi N fin os c')→qgi N fin (fs.map (qbQ id)++os) c
 | [],c,hc,_,_,k=>k c hc fun i=>by
  have:oP (vS id []) i=none:=if_pos rfl
  rw [this,Q5]
 | f::fs,c,hc,hr,hsub,k=>by
  have hN:=big N
  have hr:=hr.resolve_left (by simp)
  obtain ⟨h1,h2⟩:=qz3 hr
  have hf:=(ve.1 h1).2.2.2 f (List.mem_singleton.2 rfl)
  have hop:=qWO (id:=id) hf.1 hf.2.1 hf.2.2.1
  have hhead:∀ i,oP (jS (vS id [f])) i=none:=fun i=>if_pos rfl
  have hC:=Qd.1 hc
  have vc:∀ i,VO i (rO c.R i):=fun i=>qj4 hC.1.2 i
  have v1:∀ i,VO i (oP (vS id [f]) i):=fun i=>qq2 (.inr h1) i
  have v2:∀ i,VO i (oP (vS id fs) i):=fun i=>qq2 (qJU h2) i
  have hz:(ZP N c (vS id [f])).2=0:=qzd hJ hc (by show 1≤8; omega) rfl rfl (.inr h1) fun i hi=>hsub i (by
   rw [hhead,Q5] at hi
   rw [← qEE hr,← qIJ (vc i) (v1 i) (v2 i)]
   exact qWf (.inl hi))
  obtain ⟨_,hv,hrO⟩:=qwu (N:=N) (p:=vS id [f]) (by show 1 < N; omega) (by show 1≤4611686018427387904; omega) hz
  have hrO:∀ i,rO (ZP N c (vS id [f])).1.R i=jR (rO c.R i) (oP (vS id [f]) i):=fun i=>by
   have:=hrO i
   rw [hhead,Q5] at this
   exact this
  have all:∀ i,jR (rO (ZP N c (vS id [f])).1.R i) (oP (vS id fs) i)=jR (rO c.R i) (oP (vS id (f::fs)) i):=fun i=>by rw [hrO,qIJ (vc i) (v1 i) (v2 i),qEE hr]
  show qgi N fin (qbQ id f::(fs.map (qbQ id)++os)) c
  refine ⟨hc,hop,?_,?_⟩
  ·rw [qM_ hc hop]; exact hz
  ·rw [qM_ hc hop]
   exact qta hJ fs _ hv h2 (fun i hi=>hsub i (by rw [← all]; exact hi)) fun c' hc' hi=>k c' hc' fun i=>(hi i).trans (all i)
theorem qSl {c:qb} {p:qa} {fin:qb→Prop} {os:List qh} (h8:p.F.length≤8) (hz:(ZP N c p).2=0) (k:qgi N fin os (ZP N c p).1):qgi N fin (Yz p++os) c:=by
 have hN:=big N
 obtain ⟨ha,_,_,_⟩:=qFe hz
 obtain ⟨hc,hn,hs,hl⟩:=qyu.1 ha
 obtain ⟨_,hv,hrO⟩:=qwu (N:=N) (by omega) (by omega) hz
 have hV:=Qd.1 hv
 have hfs:p.F=[]∨zZ (vS p.ID p.F)=true:=hl.imp (fun h=>List.length_eq_zero_iff.1 h) fun h=>h
 have fin':∀ c':qb,zw c'=true→(∀ i,rO c'.R i=jR (jR (rO c.R i) (oP (jS p) i)) (oP (Qe p) i))→qgi N fin os c':=fun c' hc' hi=>by
  have e:c'=(ZP N c p).1:=by
   have:c'.R=(ZP N c p).1.R:=qqg (Qd.1 hc').1.1 hV.1.1 fun i=>(hi i).trans (hrO i).symm
   exact congrArg qb.mk this
  rw [e]; exact k
 unfold Yz qJS
 by_cases hd:p.qB=zSt
 ·rw [if_pos hd,List.nil_append]
  have hh:∀ i,oP (jS p) i=none:=fun i=>if_pos (by show (decide (p.qB=zSt)&&true)=true; rw [decide_eq_true hd]; rfl)
  refine qta (J:=(ZP N c p).1.R) hV.2 p.F c hc hfs (fun i hi=>?_) fun c' hc' hi=>fin' c' hc' fun i=>?_
  ·rw [hrO,hh,Q5]; exact hi
  ·rw [hi,hh,Q5]; rfl
 ·rw [if_neg hd]
  have hop:=qUa hd hs
  have hno:jk (jS p)=false:=by show (decide (p.qB=zSt)&&true)=false; rw [decide_eq_false hd]; rfl
  have hlive:∀ i,oP (Qe (jS p)) i=none:=fun i=>if_pos rfl
  have hz1:(ZP N c (jS p)).2=0:=qzd (J:=(ZP N c p).1.R) hV.2 hc (Nat.zero_le _) hno hs (.inl rfl) fun i hi=>by
   rw [hlive,Q5] at hi
   rw [hrO]
   exact qWf (.inl hi)
  obtain ⟨_,hv1,hr1⟩:=qwu (N:=N) (p:=jS p) (by show 0 < N; omega) (Nat.zero_le _) hz1
  have hr1:∀ i,rO (ZP N c (jS p)).1.R i=jR (rO c.R i) (oP (jS p) i):=fun i=>by
   have:=hr1 i
   rw [hlive,Q5] at this
   exact this
  show qgi N fin (qrT p::(p.F.map (qbQ p.ID)++os)) c
  refine ⟨hc,hop,by rw [qIF hc hop]; exact hz1,?_⟩
  rw [qIF hc hop]
  refine qta (J:=(ZP N c p).1.R) hV.2 p.F _ hv1 hfs (fun i hi=>?_) fun c' hc' hi=>fin' c' hc' fun i=>?_
  ·rw [hrO,← hr1]; exact hi
  ·rw [hi,hr1]; rfl
theorem qJN {fin:qb→Prop}:∀ {l:List qa} {c:qb},qv6 N fin l c→qgi N fin (l.flatMap Yz) c
 | [],c,h=>h
 | p::l,c,⟨_,h8,hz,h⟩=>by
  rw [List.flatMap_cons]
  exact qSl h8 hz (qJN h)
end
end Go.Rx
end
set_option maxRecDepth 100000
noncomputable section
namespace Go.Rx
open Go.Proofs
def qrm (r:qa):List (List UInt8):=r.F.map fun f=>f.C.V
def j9 (l:List qa):List (List UInt8):=l.flatMap qrm
def qdV (b:qb):Prop:=b.R.length≤1048576∧∀ r∈b.R,r.F.length≤1468006∧∀ f∈r.F,f.C.V.length≤58720256
theorem qin:∀ {l:List qa},(∀ r∈l,r.F.length≤1468006)→(j9 l).length≤l.length * 1468006
 | [],_=>Nat.zero_le _
 | r::l,h=>by
  have h1:=h r (List.mem_cons_self ..)
  have h2:=qin (l:=l) fun x hx=>h x (List.mem_cons_of_mem _ hx)
  unfold j9 at h2 ⊢
  rw [List.flatMap_cons,List.length_append,List.length_cons]
  have:(qrm r).length=r.F.length:=by unfold qrm; rw [List.length_map]
  rw [this,Nat.succ_mul]; omega
theorem qEr {l:List qa} {k:Nat} (h:k < l.length):j9 (l.take (k + 1))=j9 (l.take k)++qrm (l.getD k zR):=qlq (d:=zR) h
def okV (l:List (List UInt8)) (k:Nat):Bool:=vm (fun j=>decide (l.getD k []=l.getD j [])||!decide (zJ (l.getD k [])=zJ (l.getD j []))) k
theorem qBg {V W Y : Type} {B : V → Tree (V ⊕ W)} {g : W → Option Y} {at_ : Nat → V} {q : Nat → Bool} {n : Nat} {hit fin : W}
    (h1:∀ k,k < n→(B (at_ k)).run some=some (if q k then .inl (at_ (k + 1)) else .inr hit)) (h2:(B (at_ n)).run some=some (.inr fin)) :
    ∀ (m k:Nat),k + m=n→∀ N,m < N→(∀ j,j < k→q j=true)→qV B g N (at_ k)=g (if vm q n then fin else hit)
 | 0,k,hk,N + 1,_,hq=>by
  obtain rfl:k=n:=by omega
  rw [jb h2,if_pos (Qu.2 hq)]
 | m + 1,k,hk,N + 1,hN,hq=>by
  have h:=h1 k (by omega)
  cases e:q k with
  | true=>
   rw [e,if_pos rfl] at h
   rw [JM h]
   exact qBg h1 h2 m (k + 1) (by omega) N (by omega) fun j hj=>by
    by_cases ej:j=k
    ·rw [ej]; exact e
    ·exact hq j (by omega)
  | false=>
   rw [e,if_neg (by simp)] at h
   rw [jb h,if_neg (fun ha=>by have:=Qu.1 ha k (by omega); rw [e] at this; cases this)]
 | _,_,_,0,hN,_=>by omega
section
variable {N:Nat} [ZB N] (hN:100000000000000≤N)
include hN
theorem qQ_ {l:List UInt8} (h:l.length≤58720256):qav N l=some (zJ l):=by
 unfold qav qp7
 exact qY (show qmS l.length by unfold qmS; omega) <| qu (qIT (by omega) (by omega)) <| qC rfl
theorem qJn {a b : qb} {i : Nat} (hi : i < a.R.length) (hF : (a.R.getD i zR).F.length ≤ 1468006) {acc : List (List UInt8)} (ha : acc.length ≤ 4000000000000) :
    V6 N a b (i:Int) acc 0=some (acc++qrm (a.R.getD i zR),(((a.R.getD i zR).F.length:Nat):Int),false):=by
 have e0:V6 N a b (i:Int) acc 0=qV (Q_ N a b (i:Int)) some N (acc++((a.R.getD i zR).F.take 0).map (fun f=>f.C.V),((0:Nat):Int)):=by rw [List.take_zero,List.map_nil,List.append_nil]; rfl
 rw [e0]
 refine jU (σ:=Unit) (B:=Q_ N a b (i:Int)) (g:=some) (at_:=fun k _=>(acc++((a.R.getD i zR).F.take k).map (fun f=>f.C.V),(k:Int))) (I:=fun _ _=>True) (f:=fun _ s=>s) (n:=(a.R.getD i zR).F.length)
  (fin:=fun _=>(acc++qrm (a.R.getD i zR),(((a.R.getD i zR).F.length:Nat):Int),false)) (fun k s hk _=>⟨?_,trivial⟩) (fun s _=>?_) N 0 () trivial (Nat.zero_le _) (by omega)
 ·have eT : acc ++ ((a.R.getD i zR).F.take k).map (fun f => f.C.V) ++ [((a.R.getD i zR).F.getD k zF).C.V] = acc ++ ((a.R.getD i zR).F.take (k + 1)).map (fun f => f.C.V) := by
     rw [qew (d:=zF) hk,List.map_append,List.append_assoc]; rfl
  have hlen:(acc++((a.R.getD i zR).F.take (k + 1)).map (fun f=>f.C.V)).length≤4000001468006:=by rw [List.length_append,List.length_map,List.length_take]; omega
  unfold Q_
  refine qu (zO (d:=zR) hi) <| w_t (dec_lt hk) <| qu (zO (d:=zR) hi) <| qu (zO (d:=zF) hk) ?_
  show (Tree.chk (jG _ _ (acc++((a.R.getD i zR).F.take k).map (fun f=>f.C.V)++[((a.R.getD i zR).F.getD k zF).C.V]).length 16) _).run some=_
  refine qY ⟨rfl,by rw [eT]; unfold zi; omega⟩ <| qY (jm (by omega)) <| qC ?_
  rw [zf,← eT]
 ·unfold Q_
  exact qu (zO (d:=zR) hi) <| w_f (zn (Nat.lt_irrefl _)) (qC (by rw [zn (Nat.lt_irrefl _),List.take_of_length_le (Nat.le_refl _)]; rfl))
theorem qS5 {b : qb} {i : Nat} (hi : i < b.R.length) (hF : (b.R.getD i zR).F.length ≤ 1468006) {acc : List (List UInt8)} (ha : acc.length ≤ 4000000000000) :
    YA N b (i:Int) acc 0=some (acc++qrm (b.R.getD i zR),(((b.R.getD i zR).F.length:Nat):Int),false):=qJn hN (a:=b) (b:=b) hi hF ha
theorem qUW {a b:qb} (ha:qdV a):Kl N a b [] 0=some (j9 a.R,((a.R.length:Nat):Int),false):=by
 refine jU (σ:=Unit) (B:=JU N a b) (g:=some) (at_:=fun k _=>(j9 (a.R.take k),(k:Int))) (I:=fun _ _=>True) (f:=fun _ s=>s) (n:=a.R.length)
  (fin:=fun _=>(j9 a.R,((a.R.length:Nat):Int),false)) (fun k s hk _=>⟨?_,trivial⟩) (fun s _=>?_) N 0 () trivial (Nat.zero_le _) (by have:=ha.1; omega)
 ·have hF:=(ha.2 _ (qlg (d:=zR) hk)).1
  have hl:=qin (l:=a.R.take k) fun x hx=>(ha.2 x (List.mem_of_mem_take hx)).1
  have hk2:(a.R.take k).length≤1048576:=by rw [List.length_take]; have:=ha.1; omega
  have hl2:(j9 (a.R.take k)).length≤4000000000000:=by
   have:(a.R.take k).length * 1468006≤1048576 * 1468006:=Nat.mul_le_mul_right _ hk2
   omega
  unfold JU
  exact w_t (dec_lt hk) <| qu ((zo rfl).trans (qJn hN hk hF hl2)) <| qY (jm (by have:=ha.1; omega)) <| qC (by rw [zf,qEr hk])
 ·unfold JU
  exact w_f (zn (Nat.lt_irrefl _)) (qC (by rw [zn (Nat.lt_irrefl _),List.take_of_length_le (Nat.le_refl _)]))
theorem qRL {b:qb} (hb:qdV b) {acc:List (List UInt8)} (ha:acc.length≤1600000000000):Vy N b acc 0=some (acc++j9 b.R,((b.R.length:Nat):Int),false):=by
 have e0:Vy N b acc 0=qV (QQ N b) some N (acc++j9 (b.R.take 0),((0:Nat):Int)):=by rw [List.take_zero,show j9 []=[] from rfl,List.append_nil]; rfl
 rw [e0]
 refine jU (σ:=Unit) (B:=QQ N b) (g:=some) (at_:=fun k _=>(acc++j9 (b.R.take k),(k:Int))) (I:=fun _ _=>True) (f:=fun _ s=>s) (n:=b.R.length)
  (fin:=fun _=>(acc++j9 b.R,((b.R.length:Nat):Int),false)) (fun k s hk _=>⟨?_,trivial⟩) (fun s _=>?_) N 0 () trivial (Nat.zero_le _) (by have:=hb.1; omega)
 ·have hF:=(hb.2 _ (qlg (d:=zR) hk)).1
  have hl:=qin (l:=b.R.take k) fun x hx=>(hb.2 x (List.mem_of_mem_take hx)).1
  have hk2:(b.R.take k).length≤1048576:=by rw [List.length_take]; have:=hb.1; omega
  have hl2:(acc++j9 (b.R.take k)).length≤4000000000000:=by
   have:(b.R.take k).length * 1468006≤1048576 * 1468006:=Nat.mul_le_mul_right _ hk2
   rw [List.length_append]; omega
  unfold QQ
  exact w_t (dec_lt hk) <| qu ((zo rfl).trans (qS5 hN hk hF hl2)) <| qY (jm (by have:=hb.1; omega)) <| qC (by rw [zf,qEr hk,List.append_assoc])
 ·unfold QQ
  exact w_f (zn (Nat.lt_irrefl _)) (qC (by rw [zn (Nat.lt_irrefl _),List.take_of_length_le (Nat.le_refl _)]))
theorem qQi {l : List (List UInt8)} {i : Nat} (hi : i < l.length) (hl : l.length ≤ 4000000000000) :
    Yl N l ((l.take (i + 1)).map zJ) (i:Int) 0=some (if okV l i then .inr ((i:Int),false) else .inl ()):=by
 have hdl:((l.take (i + 1)).map zJ).length=i + 1:=by rw [List.length_map,List.length_take]; omega
 have gd:∀ j,j≤i→((l.take (i + 1)).map zJ).getD j (Vector.replicate 32 0)=zJ (l.getD j []):=fun j hj=>by
  have hjl:j < (l.take (i + 1)).length:=by rw [List.length_take]; omega
  rw [Wh (d:=[]) hjl,List.getD_eq_getElem?_getD,List.getD_eq_getElem?_getD,List.getElem?_take,if_pos (by omega)]
 refine XT (B:=Jy N l ((l.take (i + 1)).map zJ) (i:Int)) (g:=some) (q:=fun j=>decide (l.getD i []=l.getD j [])||!decide (zJ (l.getD i [])=zJ (l.getD j []))) (fun j hj=>?_) ?_ (by omega)
 ·have g1:ZN l l.length ((i:Nat):Int).toNat=some (l.getD i []):=qlj rfl hi
  have g2:ZN l l.length ((j:Nat):Int).toNat=some (l.getD j []):=qlj rfl (by omega)
  have g3:ZN ((l.take (i + 1)).map zJ) ((l.take (i + 1)).map zJ).length ((i:Nat):Int).toNat=some (zJ (l.getD i [])):=by rw [← gd i (Nat.le_refl _)]; exact qlj rfl (by rw [hdl,Int.toNat_natCast]; omega)
  have g4:ZN ((l.take (i + 1)).map zJ) ((l.take (i + 1)).map zJ).length ((j:Nat):Int).toNat=some (zJ (l.getD j [])):=by rw [← gd j (by omega)]; exact qlj rfl (by rw [hdl,Int.toNat_natCast]; omega)
  unfold Jy
  refine w_t (dec_lt hj) <| qY ⟨by show (0:Int)≤(i:Int); omega,by show (i:Int) < _; omega⟩ <| qu g1 <| qY ⟨by show (0:Int)≤(j:Int); omega,by show (j:Int) < _; omega⟩ <| qu g2 <| vp rfl (fun h=>?_) fun h=>?_
  ·have h':decide (l.getD i []=l.getD j [])=false:=by rw [Bool.not_eq_true'] at h; exact h
   rw [h',Bool.false_or]
   refine qY ⟨by show (0:Int)≤(i:Int); omega,by show (i:Int) < _; have:=hdl; omega⟩ <| qu g3 <| qY ⟨by show (0:Int)≤(j:Int); omega,by show (j:Int) < _; have:=hdl; omega⟩ <| qu g4 <| vp (eqD _ _) (fun h2=>qC ?_) fun h2=>qY (jm (by omega)) <| qC ?_
   ·rw [h2]; rfl
   ·rw [h2,zf]; rfl
  ·have h':decide (l.getD i []=l.getD j [])=true:=by rw [Bool.not_eq_false'] at h; exact h
   rw [h',Bool.true_or]
   exact qY (jm (by omega)) <| qC (by rw [zf]; rfl)
 ·unfold Jy
  exact w_f (zn (Nat.lt_irrefl _)) (qC (by rw [zn (Nat.lt_irrefl _)]))
theorem qP5 {l : List (List UInt8)} (hl : l.length ≤ 4000000000000) (hV : ∀ v ∈ l, v.length ≤ 58720256) :
    ∃ z,Yu N l [] 0=some (if vm (okV l) l.length then .inr z else .inl ()):=by
 refine ⟨(l.map zJ,((l.length:Nat):Int),false),?_⟩
 refine (qBg (B:=Jo N l) (g:=some) (at_:=fun k=>((l.take k).map zJ,(k:Int))) (q:=okV l) (n:=l.length) (hit:=.inl ()) (fin:=.inr (l.map zJ,((l.length:Nat):Int),false)) (fun k hk=>?_) ?_ l.length 0 (by omega) N (by omega) (fun j hj=>by omega)).trans ?_
 ·have g1:ZN l l.length ((k:Nat):Int).toNat=some (l.getD k []):=qlj rfl hk
  have eT:(l.take k).map zJ++[zJ (l.getD k [])]=(l.take (k + 1)).map zJ:=by rw [qew (d:=[]) hk,List.map_append]; rfl
  have e22:=qQi hN hk hl
  unfold Jo
  refine w_t (dec_lt hk) <| qY ⟨by show (0:Int)≤(k:Int); omega,by show (k:Int) < _; omega⟩ <| qu g1 <| qu (qQ_ hN (hV _ (qlg hk))) ?_
  dsimp only
  rw [eT]
  refine qY ⟨rfl,by rw [List.length_map,List.length_take]; unfold zi; omega⟩ <| qu ((zo rfl).trans ((zo rfl).trans e22)) ?_
  cases okV l k with
  | false=>rfl
  | true=>exact w_r rfl <| qY (jm (by omega)) <| qC (by rw [zf]; rfl)
 ·unfold Jo
  exact w_f (zn (Nat.lt_irrefl _)) (qC (by rw [zn (Nat.lt_irrefl _),List.take_of_length_le (Nat.le_refl _)]))
 ·split<;>rfl
theorem qQd {a b:qb} (ha:qdV a) (hb:qdV b):WN N a b=some (!vm (okV (j9 a.R++j9 b.R)) (j9 a.R++j9 b.R).length):=by
 have la:=qin (l:=a.R) fun x hx=>(ha.2 x hx).1
 have lb:=qin (l:=b.R) fun x hx=>(hb.2 x hx).1
 have la2:(j9 a.R).length≤1600000000000:=by
  have:a.R.length * 1468006≤1048576 * 1468006:=Nat.mul_le_mul_right _ ha.1
  omega
 have lb2:(j9 b.R).length≤1600000000000:=by
  have:b.R.length * 1468006≤1048576 * 1468006:=Nat.mul_le_mul_right _ hb.1
  omega
 have hV:∀ v∈j9 a.R++j9 b.R,v.length≤58720256:=fun v hv=>by
  rcases List.mem_append.1 hv with h | h
  ·obtain ⟨r,hr,hv⟩:=List.mem_flatMap.1 h
   obtain ⟨f,hf,rfl⟩:=List.mem_map.1 hv
   exact (ha.2 r hr).2 f hf
  ·obtain ⟨r,hr,hv⟩:=List.mem_flatMap.1 h
   obtain ⟨f,hf,rfl⟩:=List.mem_map.1 hv
   exact (hb.2 r hr).2 f hf
 obtain ⟨z,ez⟩:=qP5 hN (l:=j9 a.R++j9 b.R) (by rw [List.length_append]; omega) hV
 unfold WN K1
 refine qu ((zo rfl).trans (qUW hN ha)) <| qu ((zo rfl).trans (qRL hN hb la2)) <| qu ((zo rfl).trans ((zo rfl).trans ez)) ?_
 cases vm (okV (j9 a.R++j9 b.R)) (j9 a.R++j9 b.R).length<;>rfl
end
theorem qWw {l:List (List UInt8)} (h:vm (okV l) l.length=true):∀ u∈l,∀ v∈l,zJ u=zJ v→u=v:=by
 have key:∀ i j,i < l.length→j < i→zJ (l.getD i [])=zJ (l.getD j [])→l.getD i []=l.getD j []:=fun i j hi hj hs=>by
  have:=Qu.1 (Qu.1 h i hi) j hj
  rw [Bool.or_eq_true,decide_eq_true_iff,Bool.not_eq_true',decide_eq_false_iff_not] at this
  exact this.resolve_right (fun h=>h hs)
 intro u hu v hv hs
 obtain ⟨i,hi,rfl⟩:=List.getElem_of_mem hu
 obtain ⟨j,hj,rfl⟩:=List.getElem_of_mem hv
 have gi:l.getD i []=l[i]:=by rw [List.getD_eq_getElem?_getD,List.getElem?_eq_getElem hi]; rfl
 have gj:l.getD j []=l[j]:=by rw [List.getD_eq_getElem?_getD,List.getElem?_eq_getElem hj]; rfl
 rcases Nat.lt_trichotomy i j with h1 | h1 | h1
 ·have:=key j i hj h1 (by rw [gi,gj]; exact hs.symm)
  rw [gi,gj] at this; exact this.symm
 ·subst h1; rfl
 ·have:=key i j hi h1 (by rw [gi,gj]; exact hs)
  rw [gi,gj] at this; exact this
theorem qRD {o:Option qa} {r:qa} (hr:zZ r=true) (ho:VO r.ID o) (hn:jk (jE o r)=false):jR o (some r)≠o:=fun h=>by
 have vr:VO r.ID (some r):=fun x hx=>by obtain rfl:=Option.some.inj hx; exact ⟨hr,rfl⟩
 have hR:=ve.1 hr
 have hd:mxS (zX o) r.qB=zX o:=by
  have:=qoP ho vr
  rw [h] at this; exact this.symm
 have hnd:slB (zX o) r.qB=false:=by
  cases e:slB (zX o) r.qB with
  | false=>rfl
  | true=>rw [qaV e] at hd; rw [hd,Q6] at e; cases e
 have hpd:(jE o r).qB=zSt:=by
  show (if slB (zX o) r.qB=true then r.qB else zSt)=zSt
  rw [hnd]; rfl
 unfold jk at hn
 rw [hpd,decide_eq_true rfl,Bool.true_and,decide_eq_false_iff_not] at hn
 have hne:(jE o r).F≠[]:=fun e=>hn (by rw [e]; rfl)
 obtain ⟨f,l,e⟩:=List.exists_cons_of_ne_nil hne
 have hf:f∈r.F.filter fun f=>exK f.C o f.No:=by
  have:f∈(jE o r).F:=by rw [e]; exact List.mem_cons_self ..
  exact this
 obtain ⟨hfr,hx⟩:=List.mem_filter.1 hf
 have hc:=qEX hR.2.2.1 hfr
 have hS:=(hR.2.2.2 f hfr).2.2.2
 have hcell:=qpL ho vr f.No
 have hcell:Qf (jR o (some r)) f.No=fl (mxS (zX o) r.qB) (jC (Qf o f.No) (cO r.F f.No)):=hcell
 rw [h,hd] at hcell
 have hcell:Qf o f.No=fl (zX o) (jC (Qf o f.No) (cO r.F f.No)):=hcell
 rw [hc] at hcell
 unfold exK at hx
 rw [Bool.and_eq_true] at hx
 cases ec:Qf o f.No with
 | none=>
  rw [ec] at hcell
  have hcell:none=fl (zX o) (some f.C):=hcell
  rw [qfg,if_pos hx.1] at hcell; cases hcell
 | some d=>
  rw [ec] at hcell hx
  have hx2:(if d.S=f.C.S then ltD (zJ d.V) (zJ f.C.V) else slB d.S f.C.S)=true:=hx.2
  have hl:j8 d f.C=true:=by
   unfold j8
   by_cases h1:d.S=f.C.S
   ·rw [if_pos h1] at hx2 ⊢
    rw [if_neg (qP4 hx2)]; exact hx2
   ·rw [if_neg h1] at hx2 ⊢; exact hx2
  have hcell:some d=fl (zX o) (some (cJ d f.C)):=hcell
  rw [qfR hl,qfg,if_pos hx.1] at hcell
  rw [Option.some.inj hcell,qSR] at hl; cases hl
end Go.Rx
end
set_option maxRecDepth 100000
noncomputable section
namespace Go.Rx
open Go.Proofs
theorem qTA {r:qa} (h:r.F.length≤8):(Yz r).length≤9:=by
 unfold Yz qJS
 rw [List.length_append,List.length_map]
 split
 ·rw [List.length_nil]; omega
 ·rw [List.length_singleton]; omega
theorem qzj:∀ {l:List qa},(∀ r∈l,r.F.length≤8)→(l.flatMap Yz).length≤9 * l.length
 | [],_=>Nat.le_refl _
 | r::l,h=>by
  rw [List.flatMap_cons,List.length_append,List.length_cons]
  have h1:=qTA (h r (List.mem_cons_self ..))
  have h2:=qzj (l:=l) fun x hx=>h x (List.mem_cons_of_mem _ hx)
  omega
theorem qV2 {r:qa} (h:Yz r=[]):jk r=true:=by
 unfold Yz qJS at h
 obtain ⟨h1,h2⟩:=List.append_eq_nil_iff.1 h
 have hd:r.qB=zSt:=by
  by_cases e:r.qB=zSt
  ·exact e
  ·rw [if_neg e] at h1; cases h1
 have hf:r.F.length=0:=by rw [List.map_eq_nil_iff.1 h2]; rfl
 unfold jk
 rw [decide_eq_true hd,decide_eq_true hf]; rfl
theorem qE2 {m:qt}:∀ {rs:List qa},(vA m rs).flatMap Yz=[]↔vA m rs=[]
 | []=>⟨fun _=>rfl,fun _=>rfl⟩
 | r::rs=>by
  have ih:=qE2 (m:=m) (rs:=rs)
  unfold vA at ih ⊢
  rw [List.flatMap_cons,List.flatMap_append,List.append_eq_nil_iff,List.append_eq_nil_iff,ih]
  cases h:jk (partOf m r) with
  | true=>
   rw [qvO h]
   exact ⟨fun h=>⟨rfl,h.2⟩,fun h=>⟨rfl,h.2⟩⟩
  | false=>
   rw [qvH h]
   constructor
   ·rintro ⟨h1,_⟩
    rw [List.flatMap_cons,List.flatMap_nil,List.append_nil] at h1
    rw [qV2 h1] at h; cases h
   ·rintro ⟨h1,_⟩; cases h1
section
variable {N:Nat} [ZB N]
theorem qRB {r : qa} {l : List qa} {n i : Int} {acc : List qh} (hF : r.F.length ≤ 600) (ha : acc.length ≤ 100000) :
    qaI N r l n i r.F ((r.F.length:Nat):Int) acc 0=some (acc++r.F.map (qbQ r.ID),((r.F.length:Nat):Int),false):=by
 have hN:=big N
 have e0:qaI N r l n i r.F ((r.F.length:Nat):Int) acc 0=qV (Yc N r l n i r.F ((r.F.length:Nat):Int)) some N (acc++(r.F.take 0).map (qbQ r.ID),((0:Nat):Int)):=by rw [List.take_zero,List.map_nil,List.append_nil]; rfl
 refine e0.trans (jU (σ:=Unit) (B:=Yc N r l n i r.F ((r.F.length:Nat):Int)) (g:=some) (at_:=fun k _=>(acc++(r.F.take k).map (qbQ r.ID),(k:Int))) (I:=fun _ _=>True) (f:=fun _ s=>s) (n:=r.F.length)
  (fin:=fun _=>(acc++r.F.map (qbQ r.ID),((r.F.length:Nat):Int),false)) (fun k s hk _=>⟨?_,trivial⟩) (fun s _=>?_) N 0 () trivial (Nat.zero_le _) (by omega))
 ·have hl:(acc++(r.F.take k).map (qbQ r.ID)).length≤100600:=by rw [List.length_append,List.length_map,List.length_take]; omega
  have nxt:acc++(r.F.take (k + 1)).map (qbQ r.ID)=(acc++(r.F.take k).map (qbQ r.ID))++[qbQ r.ID (r.F.getD k zF)]:=by
   rw [qew (d:=zF) hk,List.map_append,List.append_assoc]; rfl
  rw [nxt]
  unfold Yc
  exact w_t (dec_lt hk) <| qu (zO (d:=zF) hk) <| qu (show qp8 _ _=some () from rfl) <| qY ⟨rfl,by rw [List.length_append]; show ((acc++(r.F.take k).map (qbQ r.ID)).length + 1) * 144≤zi; unfold zi; omega⟩ <| qY (jm (by omega)) <| qC (by rw [zf]; rfl)
 ·unfold Yc
  exact w_f (zn (Nat.lt_irrefl _)) (qC (by rw [zn (Nat.lt_irrefl _),List.take_of_length_le (Nat.le_refl _)]))
theorem qYs {l : List qa} (hl : l.length ≤ 600) (h8 : ∀ r ∈ l, r.F.length ≤ 8) :
    qeq N l ((l.length:Nat):Int) [] 0=some (l.flatMap Yz,((l.length:Nat):Int),false):=by
 have hN:=big N
 have e0:qeq N l ((l.length:Nat):Int) [] 0=qV (Ya N l ((l.length:Nat):Int)) some N ((l.take 0).flatMap Yz,((0:Nat):Int)):=rfl
 refine e0.trans (jU (σ:=Unit) (B:=Ya N l ((l.length:Nat):Int)) (g:=some) (at_:=fun k _=>((l.take k).flatMap Yz,(k:Int))) (I:=fun _ _=>True) (f:=fun _ s=>s) (n:=l.length)
  (fin:=fun _=>(l.flatMap Yz,((l.length:Nat):Int),false)) (fun k s hk _=>⟨?_,trivial⟩) (fun s _=>?_) N 0 () trivial (Nat.zero_le _) (by omega))
 ·have hlen : ((l.take k).flatMap Yz).length ≤ 5400 := by
     have:=qzj (l:=l.take k) fun r hr=>h8 r (List.mem_of_mem_take hr)
     rw [List.length_take] at this; omega
  have hF:=h8 _ (qlg (d:=zR) hk)
  have hg:=zO (d:=zR) hk
  rw [qlq (d:=zR) hk]
  generalize (l.take k).flatMap Yz=acc at *
  generalize l.getD k zR=r at *
  unfold Ya Yz qJS
  refine w_t (dec_lt hk) <| qu hg <| vp (congrArg (fun x=>!x) (qfU _ _)) (fun h=>?_) fun h=>?_
  ·rw [Bool.not_eq_true'] at h
   rw [if_neg (show ¬ r.qB=zSt from of_decide_eq_false h),← List.append_assoc]
   exact qY ⟨rfl,by rw [List.length_append]; show (acc.length + 1) * 144≤zi; unfold zi; omega⟩ <| qu ((zo rfl).trans ((qhR _).trans (qRB (acc:=acc++[qrT r]) (by omega) (by rw [List.length_append,List.length_singleton]; omega)))) <| qY (jm (by omega)) <| qC (by rw [zf])
  ·rw [Bool.not_eq_false'] at h
   rw [if_pos (show r.qB=zSt from of_decide_eq_true h),List.nil_append]
   exact qu ((zo rfl).trans ((qhR _).trans (qRB (acc:=acc) (by omega) (by omega)))) <| qY (jm (by omega)) <| qC (by rw [zf])
 ·unfold Ya
  exact w_f (zn (Nat.lt_irrefl _)) (qC (by rw [zn (Nat.lt_irrefl _),List.take_of_length_le (Nat.le_refl _)]))
theorem qT6 {a b:qb} {D:Vector UInt8 32} (ha:zw a=true) (hb:zw b=true):qfq N a (jY D b)=some ((vA (jY D b) a.R).flatMap Yz):=by
 have hA:=Qd.1 ha
 have h8:∀ x∈vA (jY D b) a.R,x.F.length≤8:=fun x hx=>by
  obtain ⟨r,hr,rfl⟩:=qFc hx
  exact Nat.le_trans (List.length_filter_le _ _) (J_ (hA.1.2 r hr))
 have hlen:(vA (jY D b) a.R).length≤10:=Nat.le_trans qkb hA.2
 have e:qj0 N a (jY D b)=some ((vA (jY D b) a.R).flatMap Yz):=by
  unfold qj0 qkG
  exact qu (qVQ (qRH hb D) ha (qQ8 hb D)) <| qu ((zo rfl).trans ((qhR _).trans (qYs (by omega) h8))) <| qY rfl <| qC rfl
 unfold qfq qg6
 exact qu e <| qC rfl
theorem qRt {b j : qb} {l : List qh} {fin : qb → Prop} (hl : l.length ≤ 1000) (h : qgi N fin l b) :
    ∃ c,Vk N b j l b 0=some (.inr (c,((l.length:Nat):Int),false))∧zw c=true∧fin c:=by
 have hN:=big N
 have key:∃ y,qV (QC N b j l) some N (b,((0:Nat):Int))=some y∧∃ c,y=.inr (c,((l.length:Nat):Int),false)∧zw c=true∧fin c:=by
  refine Xg (I:=fun v=>∃ (k:Nat) (c:qb),k≤l.length∧v=(c,(k:Int))∧qgi N fin (l.drop k) c) (fun v=>l.length - v.2.toNat) ?_ N _ ⟨0,b,Nat.zero_le _,rfl,h⟩ (by simp; omega)
  rintro v ⟨k,c,hk,rfl,hg⟩
  by_cases h:k < l.length
  ·left
   have zO':qh:=qh.mk 0 zI zSt 0 [] [] zI 0 zD
   rw [qmw (d:=zO') h] at hg
   obtain ⟨g1,g2,g3,g4⟩:=hg
   have hp:=(qA9.1 (qD6.1 g2).2.2.2.2.2.2.2).2.1
   refine ⟨((doD N c (l.getD k zO') (qm0 c (l.getD k zO'))).1,((k + 1:Nat):Int)),?_,⟨k + 1,_,h,rfl,g4⟩,by simp only [Int.toNat_natCast]; omega⟩
   unfold QC
   exact w_t (dec_lt h) <| qu (zO (d:=zO') h) <| qu (qXo (qhi g1) (by show (l.getD k zO').P.length < N; omega) (by show (l.getD k zO').P.length≤_; omega)) <| w_f (by rw [decide_eq_true g3]; rfl) <| qY (jm (by omega)) <| qC (by rw [zf])
  ·right
   obtain rfl:k=l.length:=by omega
   rw [List.drop_of_length_le (Nat.le_refl _)] at hg
   refine ⟨.inr (c,((l.length:Nat):Int),false),_,?_,rfl,c,rfl,hg.1,hg.2⟩
   unfold QC
   exact w_f (zn (Nat.lt_irrefl _)) (qC (by rw [zn (Nat.lt_irrefl _)]))
 obtain ⟨y,e,c,rfl,h⟩:=key
 exact ⟨c,e,h⟩
theorem qC4 (hN:100000000000000≤N) {a b:qb} (fa:vP N a) (fb:vP N b) (sa:qdV a) (sb:qdV b):vO N a b=some true:=by
 obtain ⟨x,ex⟩:=qMN (N:=N) a
 obtain ⟨y,ey⟩:=qMN (N:=N) b
 have ofx:∃ q,Yo N b=some q∧(q.2=true→zw b=true∧∃ D,q.1=jY D b):=by
  cases hc:zw b with
  | false=>exact ⟨_,qYG fb hc,fun h=>by cases h⟩
  | true=>
   obtain ⟨D,eD⟩:=qYg fb hc
   exact ⟨_,qXU fb hc eD,fun _=>⟨rfl,D,rfl⟩⟩
 obtain ⟨q1,eq1,hq1⟩:=ofx
 unfold vO Xh
 refine qu (show qI1=some true from rfl) <| qu ex <| qu ey <| qu eq1 <| qu (qWd fa fb) <| qu (qQd hN sa sb) <| w_f rfl ?_
 cases x with
 | false=>rfl
 | true=>
  refine w_f rfl ?_
  cases y with
  | false=>rfl
  | true=>
   refine w_f rfl ?_
   cases h1:q1.2 with
   | false=>exact w_t rfl rfl
   | true=>
    refine w_f rfl ?_
    by_cases hz:(jB N a b).2=0
    ·refine w_f (by rw [decide_eq_true hz]; rfl) ?_
     cases hk:vm (okV (j9 a.R++j9 b.R)) (j9 a.R++j9 b.R).length with
     | false=>rfl
     | true=>
      refine w_f rfl ?_
      obtain ⟨ha,hb,hJ,hj⟩:=qDw fa fb hz
      obtain ⟨_,D,e1⟩:=hq1 h1
      have hA:=Qd.1 ha
      have hB:=Qd.1 hb
      have hJl:=(Qd.1 hj).2
      have hv:=qWw hk
      have hva:∀ r∈a.R,∀ f∈r.F,f.C.V∈j9 a.R++j9 b.R:=fun r hr f hf=>List.mem_append_left _ (List.mem_flatMap.2 ⟨r,hr,List.mem_map.2 ⟨f,hf,rfl⟩⟩)
      have hvb:∀ r∈b.R,∀ f∈r.F,f.C.V∈j9 a.R++j9 b.R:=fun r hr f hf=>List.mem_append_right _ (List.mem_flatMap.2 ⟨r,hr,List.mem_map.2 ⟨f,hf,rfl⟩⟩)
      have clash:∀ r∈a.R,qDX (rO b.R r.ID) r:=fun r hr no d c hd hc hs=>by
       cases eo:rO b.R r.ID with
       | none=>rw [eo] at hd; cases hd
       | some s=>
        rw [eo] at hd
        obtain ⟨f,hf,_,rfl⟩:=WA (show cO s.F no=some d from hd)
        obtain ⟨g,hg,_,rfl⟩:=WA hc
        exact hv _ (hvb s (QJ eo).1 f hf) _ (hva r hr g hg) hs
      have hJa:∀ r∈a.R,rO (jB N a b).1.R r.ID≠none:=fun r hr=>by
       rw [hJ.2,qmW hA.1.1 hr]
       cases rO b.R r.ID<;>simp [jR]
      have hJb:∀ id,rO b.R id≠none→rO (jB N a b).1.R id≠none:=fun id h=>by
       rw [hJ.2]
       cases eb:rO b.R id with
       | none=>exact (h eb).elim
       | some s=>cases rO a.R id<;>simp [jR]
      have g:=qCL (N:=N) hJl (m:=jY D b) a.R b hb hA.1.1 hA.1.2 (fun r _=>qjG) clash hJb hJa
      have p1:=qT6 (N:=N) (D:=D) ha hb
      have g:=qJN g
      have hops:((vA (jY D b) a.R).flatMap Yz).length≤90:=by
       have:=qzj (l:=vA (jY D b) a.R) fun x hx=>by
        obtain ⟨r,hr,rfl⟩:=qFc hx
        exact Nat.le_trans (List.length_filter_le _ _) (J_ (hA.1.2 r hr))
       have h2:(vA (jY D b) a.R).length≤10:=Nat.le_trans qkb hA.2
       omega
      have hlen:(vA (jY D b) a.R).length≤10:=Nat.le_trans qkb hA.2
      obtain ⟨c,ec,hc,hfin⟩:=qRt (N:=N) (j:=(jB N a b).1) (l:=(vA (jY D b) a.R).flatMap Yz) (by omega) g
      have hcJ:c.R=(jB N a b).1.R:=qqg (Qd.1 hc).1.1 hJ.1 fun id=>by
       rw [hfin id,hJ.2,qEa (qj4 hB.1.2 id) (qj4 hA.1.2 id)]
      refine qu (by rw [e1]; exact p1) <| qu ec <| w_r rfl <| qu (qHx (qhi hc)) <| w_t (by rw [hcJ]; exact (Q2 (.sl 19 qf) _ _).2 rfl) <| qu (qHx (qhi hj)) <| qC ?_
      refine congrArg some ((Q2 .b _ _).2 ?_)
      have hiff:(((((vA (jY D b) a.R).flatMap Yz)).length:Nat):Int)=0↔(jB N a b).1.R=b.R:=by
       constructor
       ·intro h0
        have hnil:vA (jY D b) a.R=[]:=qE2.1 (List.length_eq_zero_iff.1 (by omega))
        refine qqg hJ.1 hB.1.1 fun id=>?_
        rw [hJ.2]
        cases ea:rO a.R id with
        | none=>rfl
        | some r=>
         have hr:=QJ ea
         have hno:jk (jE (rO b.R r.ID) r)=true:=by
          cases hno:jk (jE (rO b.R r.ID) r) with
          | true=>rfl
          | false=>
           have:partOf (jY D b) r∈vA (jY D b) a.R:=List.mem_flatMap.2 ⟨r,hr.1,by rw [qvH (by rw [qjG]; exact hno)]; exact List.mem_singleton.2 rfl⟩
           rw [hnil] at this
           exact absurd this List.not_mem_nil
         have hjp:=qEQ (hA.1.2 r hr.1) (qj4 hB.1.2 _) (clash r hr.1)
         have hoo:=qIB hno r.ID
         rw [hoo.1,hoo.2,Q5,Q5] at hjp
         rw [← hr.2,qEa (id:=r.ID) (fun x hx=>by obtain rfl:=Option.some.inj hx; exact ⟨hA.1.2 r hr.1,rfl⟩) (qj4 hB.1.2 _)]
         exact hjp.symm
       ·intro he
        have hnil:vA (jY D b) a.R=[]:=by
         refine qNn fun r hr=>?_
         cases hno:jk (jE (rO b.R r.ID) r) with
         | true=>rfl
         | false=>
          exfalso
          refine qRD (hA.1.2 r hr) (qj4 hB.1.2 _) hno ?_
          have h2:=hJ.2 r.ID
          rw [he,qmW hA.1.1 hr,qEa (id:=r.ID) (fun x hx=>by obtain rfl:=Option.some.inj hx; exact ⟨hA.1.2 r hr,rfl⟩) (qj4 hB.1.2 _)] at h2
          exact h2.symm
        rw [hnil]; rfl
      refine Bool.eq_iff_iff.2 ?_
      rw [decide_eq_true_iff]
      exact hiff.trans (Q2 (.sl 19 qf) _ _).symm
    ·exact w_t (by rw [decide_eq_false hz]; rfl) <| qC rfl
end
theorem qLn (a b:qb) (sa:qdV a) (sb:qdV b):∃ N:Nat,vO N a b=some true:=by
 have f:∀ {c:qb},qdV c→vP 100000000000000 c:=fun {c} h=>⟨by have:=h.1; omega,by have:=h.1; omega,fun k hk=>by have:=(h.2 _ (qlg (d:=zR) hk)).1; exact ⟨by omega,by omega⟩⟩
 have:ZB 100000000000000:=ZB.of (by omega)
 exact ⟨_,qC4 (Nat.le_refl _) (f sa) (f sb) sa sb⟩
end Go.Rx
end
noncomputable section
namespace Go.Rx
variable {P:Program} {H:Type}
def okB (P:Program) (C:Nat):Nat→TypeId→Bool
 | 0,_=>false
 | n + 1,t=>match P.underlying t with
  | some (.slice e)=>Nat.ble (P.bytesOf e) C&&okB P C n e
  | some (.struct fs)=>fs.toList.all fun f=>okB P C n f.type
  | some (.array _ e)=>okB P C n e
  | some (.pointer e)=>okB P C n e
  | some (.map _ _)=>false
  | _=>true
structure qJb (ub:DataW H→Nat):Prop where
 str:∀ s,s.length≤ub (.lit (.string s))
 ptr:∀ d,ub d≤ub (.ptr d)
 sl:∀ a b,a.length + b.length≤ub (.slice a b)∧∀ d∈a++b,ub d≤ub (.slice a b)
 ag:∀ l,∀ d∈l,ub d≤ub (.agg l)
theorem qcO {e:TypeId} {m:Nat}:∀ {l:List (DataW H)},m∈DataW.weightsAll P e l→∃ d∈l,m∈d.weights P e
 | [],h=>by simp [DataW.weightsAll] at h
 | x::l,h=>by
  simp only [DataW.weightsAll,List.mem_append] at h
  rcases h with h | h
  ·exact ⟨x,List.mem_cons_self ..,h⟩
  ·obtain ⟨d,h1,h2⟩:=qcO h
   exact ⟨d,List.mem_cons_of_mem _ h1,h2⟩
theorem qfv {m:Nat}:∀ {ts:List TypeId} {l:List (DataW H)},m∈DataW.weightsEach P ts l→∃ t∈ts,∃ d∈l,m∈d.weights P t
 | [],l,h=>by simp [DataW.weightsEach] at h
 | t::ts,[],h=>by simp [DataW.weightsEach] at h
 | t::ts,x::l,h=>by
  simp only [DataW.weightsEach,List.mem_append] at h
  rcases h with h | h
  ·exact ⟨t,List.mem_cons_self ..,x,List.mem_cons_self ..,h⟩
  ·obtain ⟨t',h1,d,h2,h3⟩:=qfv h
   exact ⟨t',List.mem_cons_of_mem _ h1,d,List.mem_cons_of_mem _ h2,h3⟩
theorem qcI {ub:DataW H→Nat} (hu:qJb ub) {C:Nat} (hC:1≤C):∀ (n:Nat) (t:TypeId) (d:DataW H),okB P C n t=true→∀ m∈d.weights P t,m≤ub d * C
 | 0,t,d,h,m,hm=>by simp [okB] at h
 | n + 1,t,d,h,m,hm=>by
  have up:∀ {d':DataW H},ub d'≤ub d→m≤ub d' * C→m≤ub d * C:=fun h1 h2=>Nat.le_trans h2 (Nat.mul_le_mul_right _ h1)
  unfold okB at h
  cases d with
  | lit l=>
   cases l with
   | string s=>
    simp only [DataW.weights,List.mem_singleton] at hm
    subst hm
    exact Nat.le_trans (hu.str s) (Nat.le_mul_of_pos_right _ hC)
   | _=>simp [DataW.weights] at hm
  | nil=>simp [DataW.weights] at hm
  | ptr d=>
   simp only [DataW.weights] at hm
   split at hm
   ·rename_i e he
    rw [he] at h
    exact up (hu.ptr d) (qcI hu hC n e d h m hm)
   ·simp at hm
  | slice a b=>
   simp only [DataW.weights] at hm
   split at hm
   ·rename_i e he
    rw [he] at h
    simp only [Bool.and_eq_true] at h
    rcases List.mem_cons.1 hm with rfl | hm
    ·exact Nat.mul_le_mul (hu.sl a b).1 (Nat.le_of_ble_eq_true h.1)
    ·rcases List.mem_append.1 hm with hm | hm
     ·obtain ⟨x,h1,h2⟩:=qcO hm
      exact up ((hu.sl a b).2 x (List.mem_append_left _ h1)) (qcI hu hC n e x h.2 m h2)
     ·obtain ⟨x,h1,h2⟩:=qcO hm
      exact up ((hu.sl a b).2 x (List.mem_append_right _ h1)) (qcI hu hC n e x h.2 m h2)
   ·simp at hm
  | agg l=>
   simp only [DataW.weights] at hm
   split at hm
   ·rename_i fs he
    rw [he] at h
    obtain ⟨t',h1,x,h2,h3⟩:=qfv hm
    obtain ⟨f,hf,rfl⟩:=List.mem_map.1 h1
    exact up (hu.ag l x h2) (qcI hu hC n f.type x (List.all_eq_true.1 h f hf) m h3)
   ·rename_i k e he
    rw [he] at h
    obtain ⟨x,h1,h2⟩:=qcO hm
    exact up (hu.ag l x h1) (qcI hu hC n e x h m h2)
   ·simp at hm
  | iface a b=>simp [DataW.weights] at hm
  | map es=>
   simp only [DataW.weights] at hm
   split at hm
   ·rename_i k e he
    rw [he] at h
    simp at h
   ·simp at hm
  | held x=>simp [DataW.weights] at hm
theorem qGb {ub:DataW H→Nat} (hu:qJb ub) {C n B:Nat} (hC:1≤C) {ts:List TypeId} {ds:List (DataW H)} (ht:ts.all (okB P C n)=true) (hd:∀ d∈ds,ub d≤B):(DataW.weightsEach P ts ds).all (·≤B * C)=true:=by
 refine List.all_eq_true.2 fun m hm=>?_
 obtain ⟨t,h1,d,h2,h3⟩:=qfv hm
 exact decide_eq_true (Nat.le_trans (qcI hu hC n t d (List.all_eq_true.1 ht t h1) m h3) (Nat.mul_le_mul_right _ (hd d h2)))
end Go.Rx
end
