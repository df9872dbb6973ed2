/- A part of the proof of AboveTells: the law returns true for every input, and its arguments read as before. No condition. -/
import Derived.Test.YtmnngfcoenhhkaaGreatAboveTellsG
set_option linter.unusedSimpArgs false
set_option linter.unusedVariables false
set_option linter.unusedSectionVars false
set_option maxRecDepth 100000
noncomputable section
namespace Go.Rx
open Go.Proofs
theorem qWo:∀ n < 32,0 < n→Ko .u64 (IntKind.u64.wrap (0 - ((n:Nat):Int))) 31=((32 - n:Nat):Int):=by decide +kernel
theorem qUJ:∀ n < 32,0 < n→qpG .u64 (32:Int) ((32 - n:Nat):Int)=((n:Nat):Int):=by decide +kernel
theorem qnv (x:UInt32) (n:Nat) (h:n < 32) (h0:0 < n):jx (c32 x) ((n:Nat):Int)=some (c32 (rot x n)):=by
 unfold jx qpp KF Yr
 have h64:qp (0 - ((n:Nat):Int)):=by unfold qp; omega
 simp only [run_bind,qS,zc,qi h64,qWo n h h0,qUJ n h h0]
 rw [qi (show (0:Int)≤((32 - n:Nat):Int) by omega),qi (show (0:Int)≤((n:Nat):Int) by omega),Int.toNat_natCast,Int.toNat_natCast,Nat.min_eq_left (show 32 - n≤32 by omega),Nat.min_eq_left (show n≤32 by omega),qEX x _ (by omega),qtW x n h,qCU]
 rfl
abbrev wAt {n:Nat} (v:Vector UInt32 n) (k:Nat):UInt32:=v.toList.getD k 0
abbrev bAt (l:List UInt8) (k:Nat):UInt32:=(l.getD k 0).toUInt32
def qlm (b:List UInt8) (k:Nat) (w:Vector UInt32 64):Vector UInt32 64:=
 if k < 16 then w.setIfInBounds k ((bAt b (4 * k) <<< UInt32.ofNat 24) ||| (bAt b (4 * k + 1) <<< UInt32.ofNat 16) ||| (bAt b (4 * k + 2) <<< UInt32.ofNat 8) ||| bAt b (4 * k + 3))
 else w.setIfInBounds k (wAt w (k - 16) + wAt w (k - 7) + (rot (wAt w (k - 15)) 7 ^^^ rot (wAt w (k - 15)) 18 ^^^ (wAt w (k - 15) >>> UInt32.ofNat 3)) + (rot (wAt w (k - 2)) 17 ^^^ rot (wAt w (k - 2)) 19 ^^^ (wAt w (k - 2) >>> UInt32.ofNat 10)))
def qtF (b:List UInt8):Vector UInt32 64:=zY (qlm b) 64 0 (Vector.replicate 64 0)
theorem qw5 (c:UInt8):IntKind.u32.wrap ((c.toNat:Nat):Int)=c32 c.toUInt32:=by
 rw [qdD,Nat.mod_eq_of_lt (by have:=c.toNat_lt; omega),c32,UInt8.toNat_toUInt32]
theorem qWg {N:Nat} {o:Vector UInt32 64} {b:List UInt8} {w:Vector UInt32 64} {k:Nat} (hb:b.length=64) (hk:k < 16):(Zn N o b (w,(k:Int))).run some=some (.inl (qlm b k w,((k + 1:Nat):Int))):=by
 have g:∀ j < 4,qM b ((4:Int) * (k:Int) + ((j:Nat):Int))=some (b.getD (4 * k + j) 0):=fun j hj=>by
  rw [show (4:Int) * (k:Int) + ((j:Nat):Int)=((4 * k + j:Nat):Int) by omega]; exact zo (by omega)
 have g0:qM b ((4:Int) * (k:Int))=some (b.getD (4 * k) 0):=by have:=g 0 (by omega); simpa using this
 have g1:qM b ((4:Int) * (k:Int) + 1)=some (b.getD (4 * k + 1) 0):=g 1 (by omega)
 have g2:qM b ((4:Int) * (k:Int) + 2)=some (b.getD (4 * k + 2) 0):=g 2 (by omega)
 have g3:qM b ((4:Int) * (k:Int) + 3)=some (b.getD (4 * k + 3) 0):=g 3 (by omega)
 have c0:qp ((4:Int) * (k:Int)):=by unfold qp; omega
 have c1:qp ((4:Int) * (k:Int) + 1):=by unfold qp; omega
 have c2:qp ((4:Int) * (k:Int) + 2):=by unfold qp; omega
 have c3:qp ((4:Int) * (k:Int) + 3):=by unfold qp; omega
 have c4:qp ((k:Int) + 1):=by unfold qp; omega
 have d1:decide ((k:Int) < 64)=true:=decide_eq_true (by omega)
 have d2:decide ((k:Int) < 16)=true:=decide_eq_true (by omega)
 have p8:(0:Int)≤8:=by omega
 have p16:(0:Int)≤16:=by omega
 have p24:(0:Int)≤24:=by omega
 have pk:(0:Int)≤(k:Int)∧(k:Int) < ((64:Nat):Int):=by omega
 have pk2:k < 64:=by omega
 unfold Zn qlm
 rw [if_pos hk]
 simp only [qL,run_bind,qS,zc,d1,d2,cond_true,qi c0,qi c1,qi c2,qi c3,g0,g1,g2,g3,Option.bind_some,qi p8,qi p16,qi p24,qw5,qEX _ 24 (by omega),qEX _ 16 (by omega),qEX _ 8 (by omega),qCU,qi (qIb _),qi pk,UInt32.ofNat_toNat,Int.toNat_natCast,qi pk2,qi c4]
 rw [qT]
theorem qVU {N:Nat} {o:Vector UInt32 64} {b:List UInt8} {w:Vector UInt32 64} {k:Nat} (h1:¬ k < 16) (hk:k < 64):(Zn N o b (w,(k:Int))).run some=some (.inl (qlm b k w,((k + 1:Nat):Int))):=by
 have c4:qp ((k:Int) + 1):=by unfold qp; omega
 have d1:decide ((k:Int) < 64)=true:=decide_eq_true (by omega)
 have d2:decide ((k:Int) < 16)=false:=decide_eq_false (by omega)
 have e15:(k:Int) - 15=((k - 15:Nat):Int):=by omega
 have e2:(k:Int) - 2=((k - 2:Nat):Int):=by omega
 have e16:(k:Int) - 16=((k - 16:Nat):Int):=by omega
 have e7:(k:Int) - 7=((k - 7:Nat):Int):=by omega
 have i15:qp (((k - 15:Nat)):Int):=by unfold qp; omega
 have i2:qp (((k - 2:Nat)):Int):=by unfold qp; omega
 have i16:qp (((k - 16:Nat)):Int):=by unfold qp; omega
 have i7:qp (((k - 7:Nat)):Int):=by unfold qp; omega
 have p15:(0:Int)≤((k - 15:Nat):Int)∧((k - 15:Nat):Int) < ((64:Nat):Int):=by omega
 have p2:(0:Int)≤((k - 2:Nat):Int)∧((k - 2:Nat):Int) < ((64:Nat):Int):=by omega
 have p16:(0:Int)≤((k - 16:Nat):Int)∧((k - 16:Nat):Int) < ((64:Nat):Int):=by omega
 have p7:(0:Int)≤((k - 7:Nat):Int)∧((k - 7:Nat):Int) < ((64:Nat):Int):=by omega
 have q15:k - 15 < 64:=by omega
 have q2:k - 2 < 64:=by omega
 have q16:k - 16 < 64:=by omega
 have q7:k - 7 < 64:=by omega
 have p3:(0:Int)≤3:=by omega
 have p10:(0:Int)≤10:=by omega
 have pk:(0:Int)≤(k:Int)∧(k:Int) < ((64:Nat):Int):=by omega
 have r7:=fun x=>qnv x 7 (by omega) (by omega)
 have r18:=fun x=>qnv x 18 (by omega) (by omega)
 have r17:=fun x=>qnv x 17 (by omega) (by omega)
 have r19:=fun x=>qnv x 19 (by omega) (by omega)
 unfold Zn qlm
 rw [if_neg h1]
 simp only [qL,run_bind,qS,zc,d1,d2,cond_true,cond_false]
 rw [e15,e2,e16,e7]
 rw [qi i15,qi p15,Int.toNat_natCast,qi q15,qi i2,qi p2,Int.toNat_natCast,qi q2,qi i16,qi p16,Int.toNat_natCast,qi q16,qi i7,qi p7,Int.toNat_natCast,qi q7]
 show (Option.bind (jx (c32 (wAt w (k - 15))) ((7:Nat):Int)) _)=_
 rw [r7,Option.bind_some]
 show (Option.bind (jx (c32 (wAt w (k - 15))) ((18:Nat):Int)) _)=_
 rw [r18,Option.bind_some,qi p3]
 show (Option.bind (jx (c32 (wAt w (k - 2))) ((17:Nat):Int)) _)=_
 rw [r17,Option.bind_some]
 show (Option.bind (jx (c32 (wAt w (k - 2))) ((19:Nat):Int)) _)=_
 rw [r19,Option.bind_some,qi p10,qi pk]
 simp only [qgg,Yt,qtW _ 3 (by omega),qtW _ 10 (by omega),qi (qIb _),Int.toNat_natCast,UInt32.ofNat_toNat,qi hk,qi c4]
 rw [qT]
theorem qS6 {N:Nat} {b:List UInt8} (hN:64 < N) (hb:b.length=64):qih N b=some (qtF b):=by
 have key:qhQ N (Vector.replicate 64 0) b (Vector.replicate 64 0) 0=some (qtF b,(64:Int),false):=by
  refine (jd (σ:=Vector UInt32 64) (B:=Zn N (Vector.replicate 64 0) b) (g:=some) (at_:=fun k s=>(s,(k:Int))) (I:=fun _ _=>True) (f:=qlm b) (n:=64)
   (fin:=fun s=>(s,(64:Int),false)) (fun k s hk _=>⟨?_,trivial⟩) (fun s _=>?_) N 0 (Vector.replicate 64 0) trivial (Nat.zero_le _) (by omega))
  ·by_cases h:k < 16
   ·exact qWg hb h
   ·exact qVU h hk
  ·unfold Zn
   rfl
 unfold qih qjW
 rw [run_bind,key,Option.bind_some,zc]
def tW (K w:Vector UInt32 64) (i:Nat) (x:Vector UInt32 8):UInt32:=wAt x 7 + (rot (wAt x 4) 6 ^^^ rot (wAt x 4) 11 ^^^ rot (wAt x 4) 25) + ((wAt x 4 &&& wAt x 5) ^^^ (~~~(wAt x 4) &&& wAt x 6)) + wAt K i + wAt w i
def uW (x:Vector UInt32 8):UInt32:=(rot (wAt x 0) 2 ^^^ rot (wAt x 0) 13 ^^^ rot (wAt x 0) 22) + ((wAt x 0 &&& wAt x 1) ^^^ (wAt x 0 &&& wAt x 2) ^^^ (wAt x 1 &&& wAt x 2))
def qjP (K w:Vector UInt32 64) (i:Nat) (x:Vector UInt32 8):Vector UInt32 8:=
 ((qbR x 1 7).setIfInBounds 0 (tW K w i x + uW x)).setIfInBounds 4 (wAt ((qbR x 1 7).setIfInBounds 0 (tW K w i x + uW x)) 4 + tW K w i x)
def qCE (x:Vector UInt32 8) (k:Nat) (s:Vector UInt32 8):Vector UInt32 8:=s.setIfInBounds k (wAt s k + wAt x k)
def qug (s:Vector UInt32 8) (K:Vector UInt32 64) (b:List UInt8):Vector UInt32 8:=zY (qCE (zY (qjP K (qtF b)) 64 0 s)) 8 0 s
theorem qVR {N:Nat} {s:Vector UInt32 8} {K w:Vector UInt32 64} {x:Vector UInt32 8} {k:Nat} (hk:k < 64):(V0 N s K w (x,(k:Int))).run some=some (.inl (qjP K w k x,((k + 1:Nat):Int))):=by
 have c4:qp ((k:Int) + 1):=by unfold qp; omega
 have d1:decide ((k:Int) < 64)=true:=decide_eq_true (by omega)
 have pk:(0:Int)≤(k:Int)∧(k:Int) < ((64:Nat):Int):=by omega
 have hj:∀ j < 8,(0:Int)≤((j:Nat):Int)∧((j:Nat):Int) < ((8:Nat):Int):=fun j hj=>by omega
 have j0:(0:Int)≤(0:Int)∧(0:Int) < ((8:Nat):Int):=hj 0 (by omega)
 have j1:(0:Int)≤(1:Int)∧(1:Int) < ((8:Nat):Int):=hj 1 (by omega)
 have j2:(0:Int)≤(2:Int)∧(2:Int) < ((8:Nat):Int):=hj 2 (by omega)
 have j4:(0:Int)≤(4:Int)∧(4:Int) < ((8:Nat):Int):=hj 4 (by omega)
 have j5:(0:Int)≤(5:Int)∧(5:Int) < ((8:Nat):Int):=hj 5 (by omega)
 have j6:(0:Int)≤(6:Int)∧(6:Int) < ((8:Nat):Int):=hj 6 (by omega)
 have j7:(0:Int)≤(7:Int)∧(7:Int) < ((8:Nat):Int):=hj 7 (by omega)
 have n0:0 < 8:=by omega
 have n1:1 < 8:=by omega
 have n2:2 < 8:=by omega
 have n4:4 < 8:=by omega
 have n5:5 < 8:=by omega
 have n6:6 < 8:=by omega
 have n7:7 < 8:=by omega
 have r:=fun x n h h0=>qnv x n h h0
 unfold V0 qjP tW uW
 rw [qL,d1,cond_true]
 simp only [run_bind,qS,zc]
 rw [qi j0,qi n0,qi j4,qi n4,qi j7,qi n7]
 show (Option.bind (jx (c32 (wAt x 4)) ((6:Nat):Int)) _)=_
 rw [r _ 6 (by omega) (by omega),Option.bind_some]
 show (Option.bind (jx (c32 (wAt x 4)) ((11:Nat):Int)) _)=_
 rw [r _ 11 (by omega) (by omega),Option.bind_some]
 show (Option.bind (jx (c32 (wAt x 4)) ((25:Nat):Int)) _)=_
 rw [r _ 25 (by omega) (by omega),Option.bind_some,qi j5,qi n5,qi j6,qi n6,qi pk,Int.toNat_natCast,qi hk]
 rw [qi pk,qi hk]
 show (Option.bind (jx (c32 (wAt x 0)) ((2:Nat):Int)) _)=_
 rw [r _ 2 (by omega) (by omega),Option.bind_some]
 show (Option.bind (jx (c32 (wAt x 0)) ((13:Nat):Int)) _)=_
 rw [r _ 13 (by omega) (by omega),Option.bind_some]
 show (Option.bind (jx (c32 (wAt x 0)) ((22:Nat):Int)) _)=_
 rw [r _ 22 (by omega) (by omega),Option.bind_some]
 rw [qi j1,qi n1,qi j2,qi n2,qi j1,qi n1,qi j2,qi n2,qi j0]
 simp only [qgg,qs6,qWG,Yt,qi (qIb _),Int.toNat_natCast,UInt32.ofNat_toNat,qi n0,qi j4,qi n4,qi c4]
 rw [qT]
theorem qMm {N:Nat} {s:Vector UInt32 8} {K:Vector UInt32 64} {b:List UInt8} (hN:64 < N) (hb:b.length=64):K4 N s K b=some (qug s K b):=by
 have k1:qfa N s K (qtF b) s 0=some (zY (qjP K (qtF b)) 64 0 s,(64:Int),false):=by
  refine (jd (σ:=Vector UInt32 8) (B:=V0 N s K (qtF b)) (g:=some) (at_:=fun k s=>(s,(k:Int))) (I:=fun _ _=>True) (f:=qjP K (qtF b)) (n:=64)
   (fin:=fun s=>(s,(64:Int),false)) (fun k x hk _=>⟨qVR hk,trivial⟩) (fun x _=>?_) N 0 s trivial (Nat.zero_le _) (by omega))
  unfold V0
  rfl
 have k2:∀ x:Vector UInt32 8,qdA N K x s 0=some (zY (qCE x) 8 0 s,(8:Int),false):=fun x=>by
  refine (jd (σ:=Vector UInt32 8) (B:=WT N K x) (g:=some) (at_:=fun k s=>(s,(k:Int))) (I:=fun _ _=>True) (f:=qCE x) (n:=8)
   (fin:=fun s=>(s,(8:Int),false)) (fun k y hk _=>⟨?_,trivial⟩) (fun y _=>?_) N 0 s trivial (Nat.zero_le _) (by omega))
  ·have c4:qp ((k:Int) + 1):=by unfold qp; omega
   have d1:decide ((k:Int) < 8)=true:=decide_eq_true (by omega)
   have pk:(0:Int)≤(k:Int)∧(k:Int) < ((8:Nat):Int):=by omega
   unfold WT qCE
   simp only [qL,run_bind,qS,zc,d1,cond_true]
   rw [qi pk,Int.toNat_natCast,qi hk,qi pk,qi hk,qi pk]
   simp only [Yt,qi (qIb _),Int.toNat_natCast,UInt32.ofNat_toNat,qi hk,qi c4]
   rw [qT]
  ·unfold WT
   rfl
 unfold K4 qgH
 rw [run_bind,qS6 hN hb,Option.bind_some,run_bind,k1,Option.bind_some,run_bind,k2,Option.bind_some,zc]
 rfl
end Go.Rx
end
set_option maxRecDepth 100000
noncomputable section
namespace Go.Rx
open Go.Proofs
def qWc:Vector UInt32 8:=#v[1779033703,3144134277,1013904242,2773480762,1359893119,2600822924,528734635,1541459225]
def qe1:Vector UInt32 64:=#v[1116352408,1899447441,3049323471,3921009573,961987163,1508970993,2453635748,2870763221,
 3624381080,310598401,607225278,1426881987,1925078388,2162078206,2614888103,3248222580,
 3835390401,4022224774,264347078,604807628,770255983,1249150122,1555081692,1996064986,
 2554220882,2821834349,2952996808,3210313671,3336571891,3584528711,113926993,338241895,
 666307205,773529912,1294757372,1396182291,1695183700,1986661051,2177026350,2456956037,
 2730485921,2820302411,3259730800,3345764771,3516065817,3600352804,4094571909,275423344,
 430227734,506948616,659060556,883997877,958139571,1322822218,1537002063,1747873779,
 1955562222,2024104815,2227730452,2361852424,2428436474,2756734187,3204031479,3329325298]
def Zm (L:Nat):Nat:=(119 - L % 64) % 64
theorem quH (n:Int):inB (IntKind.u8.wrap n):=by
 unfold inB
 have:IntKind.u8.wrap n=n % 256:=by simp [IntKind.wrap,IntKind.bits,IntKind.signed]
 rw [this]; omega
theorem qIi (a b:Nat):((a:Nat):Int).tmod ((b:Nat):Int)=((a % b:Nat):Int):=rfl
theorem qCT (a b:Nat):((a:Nat):Int).tdiv ((b:Nat):Int)=((a / b:Nat):Int):=rfl
theorem qzj {n k:Nat} (h:k≤2000000000):zU n n k 1:=⟨rfl,by unfold zh; omega⟩
theorem qVH {N:Nat} {o:Vector UInt8 32} {b:List UInt8} (hb:b.length≤1000000000) (hN:64 < N):qma N o b (b++[128])=some (b++[128]++List.replicate (Zm b.length) 0,false):=by
 have hz:Zm b.length < 64:=Nat.mod_lt _ (by omega)
 have h56:(b.length + 1 + Zm b.length) % 64=56:=by unfold Zm; omega
 have hlen:∀ k,(b++[128]++List.replicate k (0:UInt8)).length=b.length + 1 + k:=fun k=>by simp; omega
 have hne:∀ k,k < Zm b.length→(b.length + 1 + k) % 64≠56:=fun k hk=>by unfold Zm at *; omega
 have e0:qma N o b (b++[128])=qQ (qdj N o b) some N (b++[128]++List.replicate 0 (0:UInt8)):=by rw [List.replicate_zero,List.append_nil]; rfl
 rw [e0]
 refine (jd (σ:=Unit) (B:=qdj N o b) (g:=some) (at_:=fun k _=>b++[128]++List.replicate k (0:UInt8)) (I:=fun _ _=>True) (f:=fun _ s=>s) (n:=Zm b.length)
  (fin:=fun _=>(b++[128]++List.replicate (Zm b.length) 0,false)) (fun k s hk _=>⟨?_,trivial⟩) (fun s _=>?_) N 0 () trivial (Nat.zero_le _) (by omega))
 ·unfold qdj
  have c1:(64:Int)≠0:=by omega
  have e:decide ((((b++[128]++List.replicate k (0:UInt8)).length:Nat):Int).tmod 64=56)=false:=decide_eq_false (by
   rw [hlen]
   have:=hne k hk
   show ¬ (((b.length + 1 + k) % 64:Nat):Int)=56
   omega)
  have c2:zU (b++[128]++List.replicate k (0:UInt8)).length (b++[128]++List.replicate k (0:UInt8)).length ((b++[128]++List.replicate k (0:UInt8))++[UInt8.ofNat 0]).length 1:=qzj (by rw [List.length_append,hlen]; simp; omega)
  rw [qS,qi c1,qL,e,Bool.not_false,cond_true,qS,qi c2,zc]
  rw [List.replicate_succ',← List.append_assoc]
  rfl
 ·unfold qdj
  have c1:(64:Int)≠0:=by omega
  have e:decide ((((b++[128]++List.replicate (Zm b.length) (0:UInt8)).length:Nat):Int).tmod 64=56)=true:=decide_eq_true (by
   rw [hlen]
   show (((b.length + 1 + Zm b.length) % 64:Nat):Int)=56
   omega)
  rw [qS,qi c1,qL,e,Bool.not_true,cond_false,zc]
def qBy (L k:Nat):UInt8:=UInt8.ofNat (IntKind.u8.wrap (Jm (qnY .u64 (IntKind.u64.wrap ((L:Nat):Int)) 8) (min ((8:Int) * ((7:Int) - (k:Int))).toNat 64))).toNat
def qjJ (L k:Nat) (l:List UInt8):List UInt8:=l++[qBy L k]
theorem qCV {L:Nat}:∀ (m k:Nat) (l:List UInt8),(zY (qjJ L) m k l).length=l.length + m
 | 0,_,_=>rfl
 | m + 1,k,l=>by
  show (zY (qjJ L) m (k + 1) (qjJ L k l)).length=_
  rw [qCV m]; unfold qjJ; rw [List.length_append]; simp; omega
theorem qUF {N:Nat} {o:Vector UInt8 32} {b l:List UInt8} (hl:l.length≤1500000000) (hN:64 < N):quq N o b l 0=some (zY (qjJ b.length) 8 0 l,(8:Int),false):=by
 refine (jd (σ:=List UInt8) (B:=qiw N o b) (g:=some) (at_:=fun k s=>(s,(k:Int))) (I:=fun k s=>s.length=l.length + k) (f:=qjJ b.length) (n:=8)
  (fin:=fun s=>(s,(8:Int),false)) (fun k s hk hs=>⟨?_,?_⟩) (fun s _=>?_) N 0 l rfl (Nat.zero_le _) (by omega))
 ·have d1:decide ((k:Int) < 8)=true:=decide_eq_true (by omega)
  have c1:qp ((7:Int) - (k:Int)):=by unfold qp; omega
  have c2:qp ((8:Int) * ((7:Int) - (k:Int))):=by unfold qp; omega
  have c3:(0:Int)≤(8:Int) * ((7:Int) - (k:Int)):=by omega
  have c4:qp ((k:Int) + 1):=by unfold qp; omega
  have c5:zU s.length s.length (s++[qBy b.length k]).length 1:=qzj (by rw [List.length_append,hs]; simp; omega)
  unfold qiw
  rw [qL,d1,cond_true]
  simp only [qS,zc]
  rw [qi c1,qi c2,qi c3,qi (quH _)]
  show chk (zU s.length s.length (s++[qBy b.length k]).length 1) _=_
  rw [qi c5,qi c4,qT]
  rfl
 ·unfold qjJ; rw [List.length_append,hs]; simp; omega
 ·unfold qiw
  rfl
def chF (K:Vector UInt32 64):Nat→Vector UInt32 8→List UInt8→Vector UInt32 8
 | 0,s,_=>s
 | m + 1,s,l=>chF K m (qug s K (l.take 64)) (l.drop 64)
theorem qUp {N : Nat} {o : List UInt8} {o2 : Vector UInt8 32} {o3 : Vector UInt32 8} {K : Vector UInt32 64} (hN : 64 < N) : ∀ (m n : Nat) (s : Vector UInt32 8) (l : List UInt8), l.length = 64 * m → m < n →
    qQ (qbr N o o2 o3 K) some n (s,l)=some (.inr (chF K m s l,[],false))
 | 0,n + 1,s,l,hl,_=>by
  have:l=[]:=List.length_eq_zero_iff.1 (by omega)
  subst this
  exact zu (by unfold qbr; rfl) n
 | m + 1,n + 1,s,l,hl,hn=>by
  have d1:decide ((0:Int) < ((l.length:Nat):Int))=true:=decide_eq_true (by omega)
  have c1:(0:Int)≤0∧(0:Int)≤64∧(64:Int)≤((l.length:Nat):Int):=by omega
  have c2:(0:Int)≤64∧(64:Int)≤((l.length:Nat):Int):=by omega
  have ht:((l.take 64).drop 0).length=64:=by rw [List.drop_zero,List.length_take]; omega
  rw [Zt (v':=(qug s K (l.take 64),l.drop 64)) (by
   unfold qbr
   rw [qL,d1,cond_true,qS,qi c1,run_bind,qMm hN ht,Option.bind_some,qS,qi c2,zc,List.drop_zero]) n]
  exact qUp hN m n _ _ (by rw [List.length_drop]; omega) (by omega)
 | _,0,_,_,_,hn=>by omega
theorem qOX {N m : Nat} {all : List UInt8} {o2 : Vector UInt8 32} {s : Vector UInt32 8} {K : Vector UInt32 64} (hN : 64 < N) (hm : m + 1 < N) (hl : all.length = 64 * (m + 1)) :
    qf7 N all o2 s K=some (.inr (chF K (m + 1) s all,[],false)):=by
 have d1:decide ((0:Int) < ((all.length:Nat):Int))=true:=decide_eq_true (by omega)
 have c1:(0:Int)≤0∧(0:Int)≤64∧(64:Int)≤((all.length:Nat):Int):=by omega
 have c2:(0:Int)≤64∧(64:Int)≤((all.length:Nat):Int):=by omega
 have ht:((all.take 64).drop 0).length=64:=by rw [List.drop_zero,List.length_take]; omega
 have hrun:(qgj N all o2 s K ()).run some=some (.inr (.inl (qug s K (all.take 64),all.drop 64))):=by
  unfold qgj
  rw [qL,d1,cond_true,qS,qi c1,qS,qi rfl,run_bind,qMm hN ht,Option.bind_some,qS,qi c2,qS,qi rfl,zc,List.drop_zero]
 obtain ⟨N',rfl⟩:∃ N',N=N' + 1:=⟨N - 1,by omega⟩
 have e:qf7 (N' + 1) all o2 s K=qQ (qgj (N' + 1) all o2 s K) (qlr (N' + 1) (N' + 1) (all,o2,s,K)) (N' + 1) ():=rfl
 rw [e,zu hrun]
 exact qUp (o:=all) (o2:=o2) (o3:=s) hN m (N' + 1) _ _ (by rw [List.length_drop]; omega) (by omega)
def qNl (s:Vector UInt32 8) (k:Nat):UInt8:=UInt8.ofNat (IntKind.u8.wrap (c32 (wAt s (k / 4) >>> UInt32.ofNat (24 - 8 * (k % 4))))).toNat
def qKz (s:Vector UInt32 8) (k:Nat) (o:Vector UInt8 32):Vector UInt8 32:=o.setIfInBounds k (qNl s k)
def qTP (s:Vector UInt32 8):Vector UInt8 32:=zY (qKz s) 32 0 (Vector.replicate 32 0)
theorem qWl {N:Nat} {o:Vector UInt8 32} {s:Vector UInt32 8} (hN:64 < N):qkg N o s (Vector.replicate 32 0) 0=some (qTP s,(32:Int),false):=by
 refine (jd (σ:=Vector UInt8 32) (B:=qgp N o s) (g:=some) (at_:=fun k s=>(s,(k:Int))) (I:=fun _ _=>True) (f:=qKz s) (n:=32)
  (fin:=fun s=>(s,(32:Int),false)) (fun k x hk _=>⟨?_,trivial⟩) (fun x _=>?_) N 0 (Vector.replicate 32 0) trivial (Nat.zero_le _) (by omega))
 ·have d1:decide ((k:Int) < 32)=true:=decide_eq_true (by omega)
  have e1:(k:Int).tdiv 4=((k / 4:Nat):Int):=qCT k 4
  have e2:(k:Int).tmod 4=((k % 4:Nat):Int):=qIi k 4
  have h4:(4:Int)≠0:=by omega
  have c1:qp (((k / 4:Nat)):Int):=by unfold qp; omega
  have c2:(0:Int)≤((k / 4:Nat):Int)∧((k / 4:Nat):Int) < ((8:Nat):Int):=by omega
  have c3:k / 4 < 8:=by omega
  have c4:qp ((8:Int) * ((k % 4:Nat):Int)):=by unfold qp; omega
  have e3:(24:Int) - (8:Int) * ((k % 4:Nat):Int)=((24 - 8 * (k % 4):Nat):Int):=by omega
  have c5:qp ((24 - 8 * (k % 4):Nat):Int):=by unfold qp; omega
  have c6:(0:Int)≤((24 - 8 * (k % 4):Nat):Int):=by omega
  have c7:(0:Int)≤(k:Int)∧(k:Int) < ((32:Nat):Int):=by omega
  have c8:qp ((k:Int) + 1):=by unfold qp; omega
  unfold qgp qKz qNl
  rw [qL,d1,cond_true]
  simp only [qS,zc]
  rw [e1,e2,e3,qi h4,qi c1,qi c2,Int.toNat_natCast,qi c3,qi h4,qi c4,qi c5,qi c6,qi c7,qi (quH _),Int.toNat_natCast,qi hk,qi c8,Int.toNat_natCast,Nat.min_eq_left (show 24 - 8 * (k % 4)≤32 by omega)]
  rw [qT]
  show some (Sum.inl (x.setIfInBounds k (UInt8.ofNat (IntKind.u8.wrap (Jm (c32 (wAt s (k / 4))) (24 - 8 * (k % 4)))).toNat),_))=_
  rw [qtW _ _ (by omega)]
 ·unfold qgp
  rfl
def qlo (b:List UInt8):List UInt8:=zY (qjJ b.length) 8 0 (b++[128]++List.replicate (Zm b.length) 0)
def VE (b:List UInt8):Vector UInt8 32:=qTP (chF qe1 ((qlo b).length / 64) qWc (qlo b))
theorem qMR (b:List UInt8):∃ m,(qlo b).length=64 * (m + 1)∧m≤b.length:=by
 have h:(qlo b).length=b.length + 1 + Zm b.length + 8:=by unfold qlo; rw [qCV]; simp; omega
 rw [h]
 refine ⟨(b.length + 1 + Zm b.length + 8) / 64 - 1,?_,?_⟩
 ·unfold Zm; omega
 ·unfold Zm; omega
theorem qUf {l:List UInt8} (h:l.length≤1000000000):qas l=some ():=by
 unfold qas
 cases l with
 | nil=>kernel_rfl
 | cons x r=>
  show qrj (x::r)=_
  unfold qrj qlu
  have h2:zU ([]:List UInt8).length 0 ([]++x::r).length 1:=⟨rfl,by rw [List.nil_append]; unfold zh; omega⟩
  rw [qS,qi (List.isEmpty_cons),qS,qi h2,zc]
theorem qd3 {Z:Type} {a:Nat} {o:Option Z}:zV [(a,a)] o=o:=(zl rfl).trans (qyM o)
theorem qR_:qy1=some ():=by kernel_rfl
theorem qTQ:qwT=some ():=by kernel_rfl
theorem qWr {N:Nat} {b:List UInt8} (hb:b.length≤1000000000) (hN:b.length + 100 < N):qgM N b=some (VE b):=by
 obtain ⟨m,hm,hmb⟩:=qMR b
 have c1:zU (([]:List UInt8)++b).length (([]:List UInt8)++b).length ((([]:List UInt8)++b)++[UInt8.ofNat 128]).length 1:=qzj (by rw [List.nil_append,List.length_append]; simp; omega)
 have hpad:=qVH (N:=N) (o:=Vector.replicate 32 0) hb (by omega)
 have hlen:=qUF (N:=N) (o:=Vector.replicate 32 0) (b:=b) (l:=b++[128]++List.replicate (Zm b.length) 0) (by have:Zm b.length < 64:=Nat.mod_lt _ (by omega); simp; omega) (by omega)
 have hch:∀ (s:Vector UInt32 8) (K:Vector UInt32 64),qf7 N (zY (qjJ b.length) 8 0 (b++[128]++List.replicate (Zm b.length) 0)) (Vector.replicate 32 0) s K=some (.inr (chF K (m + 1) s (qlo b),[],false)):=fun s K=>qOX (by omega) (by omega) hm
 have hd:(qlo b).length / 64=m + 1:=by rw [hm]; omega
 have e1:(([]:List UInt8)++b)++[UInt8.ofNat 128]=b++[128]:=rfl
 unfold qgM qwP VE
 rw [run_bind,qUf hb,Option.bind_some,qS,qi c1,run_bind,e1,qd3,hpad,Option.bind_some]
 dsimp only
 rw [run_bind,qd3,hlen,Option.bind_some]
 dsimp only
 rw [run_bind,qR_,Option.bind_some,run_bind,qTQ,Option.bind_some,run_bind,qd3,hch,Option.bind_some,qTH,run_bind,qWl (by omega),Option.bind_some,zc,hd]
 rfl
end Go.Rx
end
set_option maxRecDepth 100000
noncomputable section
namespace Go.Rx
open Go.Proofs
section n
variable {N:Nat} [Jj N]
def KQ (c:qe):Bool:=!decide (c.S=zSt)&&(stB c.S&&decide (c.V.length≤200))
theorem qU0 (c:qe):qgF c=some (KQ c):=by
 unfold qgF qui KQ
 have e:eqE qh c.S (qc.mk 0 0)=decide (c.S=zSt):=qbm _ _
 have e2:decide (((c.V.length:Nat):Int)≤200)=decide (c.V.length≤200):=decide_eq_decide.2 (by omega)
 rw [qL,e,run_bind,qnT,Option.bind_some,qL,zc,e2,zc]
 cases decide (c.S=zSt)<;>cases stB c.S<;>rfl
end n
end Go.Rx
end
set_option maxRecDepth 100000
noncomputable section
namespace Go.Rx
open Go.Proofs
abbrev zF:qd:=qd.mk 0 (qe.mk zSt [])
abbrev zR:qa:=qa.mk (Vector.replicate 16 0) zSt []
def qk9 (l:List qd) (dead:qc) (k:Nat):Bool:=
 (if k=0 then decide (0≤(l.getD k zF).No) else decide ((l.getD (k - 1) zF).No < (l.getD k zF).No))&&(!decide (8≤(l.getD k zF).No)&&(KQ (l.getD k zF).C&&slB dead (l.getD k zF).C.S))
def vg (r:qa):Bool:=stB r.qz&&(!(decide (r.F.length=0)&&decide (r.qz=zSt))&&ve (qk9 r.F r.qz) r.F.length)
def qtP (l:List qa) (k:Nat):Bool:=vg (l.getD k zR)&&(decide (k=0)||lbB (l.getD (k - 1) zR).ID (l.getD k zR).ID)
def jm (b:qb):Bool:=ve (qtP b.R) b.R.length&&decide (b.R.length≤10)
section n
variable {N:Nat} [Jj N]
theorem qSw {f : qd} {dead : qc} {k : Nat} (h64 : qp ((k : Int) + 1)) :
    (Tree.cond (decide (((8:Int))≤(qd.No f))) (.ret (.inr (.inl ())))
     (Tree.bind (qgF (qd.C f)) fun r2=>Tree.cond (!r2) (.ret (.inr (.inl ())))
      (Tree.bind (vz N dead (qe.S (qd.C f))) fun r3=>Tree.cond (!r3) (.ret (.inr (.inl ())))
       (Tree.chk (qp ((k:Int) + 1)) (.ret (.inl ((k:Int) + 1):Int⊕(Unit⊕(Int×Bool)))))))).run some =
    some (if (!decide (8≤f.No)&&(KQ f.C&&slB dead f.C.S))=true then .inl ((k:Int) + 1) else .inr (.inl ())):=by
 rw [qL,zc,run_bind,qU0,Option.bind_some,qL,zc,run_bind,W5,Option.bind_some,qL,zc,qS,qi h64,zc]
 cases decide (8≤f.No)<;>cases KQ f.C<;>cases slB dead f.C.S<;>rfl
theorem qUW {r : qa} (hN : r.F.length < N) (h62 : r.F.length ≤ 4611686018427387904) :
    qmc N r r.F ((r.F.length:Nat):Int) 0=some (if ve (qk9 r.F r.qz) r.F.length then .inr (((r.F.length:Nat):Int),false) else .inl ()):=by
 refine VD (B:=qim N r r.F ((r.F.length:Nat):Int)) (g:=some) (q:=qk9 r.F r.qz) (fun k hk=>?_) ?_ hN
 ·have h64:qp ((k:Int) + 1):=by unfold qp; omega
  have ht:=qSw (N:=N) (f:=r.F.getD k zF) (dead:=r.qz) h64
  unfold qim
  rw [qL,dec_lt hk,cond_true,run_bind,zo (d:=zF) hk,Option.bind_some,← qT]
  unfold qk9
  by_cases h0:k=0
  ·have d0:decide ((k:Int)=0)=true:=decide_eq_true (by omega)
   rw [qL,d0,cond_true,if_pos h0,qL]
   by_cases h1:(0:Int)≤(r.F.getD k zF).No
   ·rw [decide_eq_true h1,cond_true,ht,Bool.true_and]
   ·have d1:decide ((0:Int) < (k:Int))=false:=decide_eq_false (by omega)
    rw [decide_eq_false h1,cond_false,qL,d1,cond_false,zc]
    rfl
  ·have d0:decide ((k:Int)=0)=false:=decide_eq_false (by omega)
   have d1:decide ((0:Int) < (k:Int))=true:=decide_eq_true (by omega)
   have hp:qp ((k:Int) - 1):=by unfold qp; omega
   have hk1:k - 1 < r.F.length:=by omega
   rw [qL,d0,cond_false,if_neg h0,qL,d1,cond_true,qS,qi hp,run_bind,qjO (Nat.pos_of_ne_zero h0),zo (d:=zF) hk1,Option.bind_some,qL]
   by_cases h2:(r.F.getD (k - 1) zF).No < (r.F.getD k zF).No
   ·rw [decide_eq_true h2,Bool.not_true,cond_false,ht,Bool.true_and]
   ·rw [decide_eq_false h2,Bool.not_false,cond_true,zc]
    rfl
 ·unfold qim
  rw [qL,zi (Nat.lt_irrefl _),cond_false,zc]
theorem qzk {r:qa} (hN:r.F.length < N) (h62:r.F.length≤4611686018427387904):qjE N r=some (vg r):=by
 have e0:eqE qh r.qz (qc.mk 0 0)=decide (r.qz=zSt):=qbm _ _
 have d0:decide (((r.F.length:Nat):Int)=0)=decide (r.F.length=0):=decide_eq_decide.2 (by omega)
 unfold qjE qyk vg
 rw [run_bind,qnT,Option.bind_some,qL,zc,qL,d0,qL,e0,zc,run_bind,qUW hN h62,Option.bind_some]
 cases stB r.qz<;>cases decide (r.F.length=0)<;>cases decide (r.qz=zSt)<;>cases ve (qk9 r.F r.qz) r.F.length<;>rfl
theorem qVf {b : qb} (hN : b.R.length < N) (h62 : b.R.length ≤ 4611686018427387904) (hF : ∀ k, k < b.R.length → (b.R.getD k zR).F.length < N ∧ (b.R.getD k zR).F.length ≤ 4611686018427387904) :
    qpZ N b b.R ((b.R.length:Nat):Int) 0=some (if ve (qtP b.R) b.R.length then .inr (((b.R.length:Nat):Int),false) else .inl ()):=by
 refine VD (B:=qgs N b b.R ((b.R.length:Nat):Int)) (g:=some) (q:=qtP b.R) (fun k hk=>?_) ?_ hN
 ·have h64:qp ((k:Int) + 1):=by unfold qp; omega
  unfold qgs
  rw [qL,dec_lt hk,cond_true,run_bind,zo (d:=zR) hk,Option.bind_some,run_bind,qzk (hF k hk).1 (hF k hk).2,Option.bind_some,qL,zc,qL,qso,qS,qS,qi h64,zc,qT]
  unfold qtP
  cases vg (b.R.getD k zR) with
  | false=>rfl
  | true=>
   by_cases h0:k=0
   ·rw [decide_eq_true h0]; rfl
   ·have hp:qp ((k:Int) - 1):=by unfold qp; omega
    have hk1:k - 1 < b.R.length:=by omega
    rw [decide_eq_false h0,Bool.not_true,cond_false,Bool.not_false,cond_true,qi hp,run_bind,qjO (Nat.pos_of_ne_zero h0),zo (d:=zR) hk1,Option.bind_some,run_bind,qJQ,Option.bind_some,qL,zc,qS,qi (show qp ((k + 1:Nat):Int) by rw [← qT]; exact h64),zc]
    cases lbB (b.R.getD (k - 1) zR).ID (b.R.getD k zR).ID<;>rfl
 ·unfold qgs
  rw [qL,zi (Nat.lt_irrefl _),cond_false,zc]
theorem qVw {b:qb} (hN:b.R.length < N) (h62:b.R.length≤4611686018427387904) (hF:∀ k,k < b.R.length→(b.R.getD k zR).F.length < N∧(b.R.getD k zR).F.length≤4611686018427387904):qdh N b=some (jm b):=by
 have e2:decide (((b.R.length:Nat):Int)≤10)=decide (b.R.length≤10):=decide_eq_decide.2 (by omega)
 unfold qdh quh jm
 rw [run_bind,qVf hN h62 hF,Option.bind_some]
 cases ve (qtP b.R) b.R.length with
 | false=>rfl
 | true=>show (Tree.run some (Tree.ret (decide (((b.R.length:Nat):Int)≤10))))=_; rw [zc,e2]; rfl
end n
theorem qbz {r:qa}:vg r=true↔stB r.qz=true∧(r.F.length≠0∨r.qz≠zSt)∧∀ k,k < r.F.length→qk9 r.F r.qz k=true:=by
 unfold vg
 rw [Bool.and_eq_true,Bool.and_eq_true,J_,Bool.not_eq_true',Bool.and_eq_false_iff,decide_eq_false_iff_not,decide_eq_false_iff_not]
theorem Km {l:List qd} {dead:qc} {k:Nat}:qk9 l dead k=true↔(if k=0 then 0≤(l.getD k zF).No else (l.getD (k - 1) zF).No < (l.getD k zF).No)∧(l.getD k zF).No < 8∧KQ (l.getD k zF).C=true∧slB dead (l.getD k zF).C.S=true:=by
 unfold qk9
 rw [Bool.and_eq_true,Bool.and_eq_true,Bool.and_eq_true,Bool.not_eq_true',decide_eq_false_iff_not,Int.not_le]
 refine and_congr ?_ Iff.rfl
 split<;>exact decide_eq_true_iff
theorem qI1 {r:qa} (h:vg r=true):∀ k,k < r.F.length→(k:Int)≤(r.F.getD k zF).No
 | 0,hk=>by
  have:=(Km.1 ((qbz.1 h).2.2 0 hk)).1
  rw [if_pos rfl] at this; exact this
 | k + 1,hk=>by
  have:=(Km.1 ((qbz.1 h).2.2 (k + 1) hk)).1
  rw [if_neg (by omega)] at this
  have ih:=qI1 h k (by omega)
  rw [show k + 1 - 1=k by omega] at this
  omega
theorem YV {r:qa} (h:vg r=true):r.F.length≤8:=by
 by_cases e:r.F.length=0
 ·omega
 ·have h1:=qI1 h (r.F.length - 1) (by omega)
  have h2:=(Km.1 ((qbz.1 h).2.2 (r.F.length - 1) (by omega))).2.1
  omega
theorem qo8 {b:qb}:jm b=true↔(∀ k,k < b.R.length→vg (b.R.getD k zR)=true∧(k=0∨lbB (b.R.getD (k - 1) zR).ID (b.R.getD k zR).ID=true))∧b.R.length≤10:=by
 unfold jm
 rw [Bool.and_eq_true,decide_eq_true_iff,J_]
 refine and_congr (forall_congr' fun k=>imp_congr_right fun _=>?_) Iff.rfl
 show (vg (b.R.getD k zR)&&(decide (k=0)||lbB (b.R.getD (k - 1) zR).ID (b.R.getD k zR).ID))=true↔_
 rw [Bool.and_eq_true,Bool.or_eq_true,decide_eq_true_iff]
theorem qup {c:qe} (h:KQ c=true):c.V.length≤200:=by
 unfold KQ at h
 simp only [Bool.and_eq_true,decide_eq_true_iff] at h
 exact h.2.2
end Go.Rx
end
set_option maxRecDepth 100000
noncomputable section
namespace Go.Rx
open Go.Proofs
section n
variable {N:Nat} [Jj N]
def jj (N:Nat) (b:qb):Prop:=b.R.length < N∧b.R.length≤4611686018427387904∧∀ k,k < b.R.length→(b.R.getD k zR).F.length < N∧(b.R.getD k zR).F.length≤4611686018427387904
theorem qtG {b:qb} (h:jj N b):qdh N b=some (jm b):=qVw h.1 h.2.1 h.2.2
theorem qBY {l:List UInt8} (h:l.length≤50000):qrE N l=some (VE l):=by
 unfold qrE qBs
 rw [qS,qi (show qmt l.length by unfold qmt; omega),run_bind,qWr (by omega) (by have:=big N; omega),Option.bind_some,zc]
end n
end Go.Rx
end
noncomputable section
namespace Go.Rx
section
variable {α R:Type} {n:α→Option R} {y:Option R}
theorem qA {a:α} (h:n a=y):(Tree.ret a).run n=y:=h
theorem qF {p:Prop} [Decidable p] {t:Tree α} (h:p) (ht:t.run n=y):(Tree.chk p t).run n=y:=(qi h).trans ht
theorem ql {β:Type} {o:Option β} {k:β→Tree α} {x:β} (h:o=some x) (ht:(k x).run n=y):(Tree.bind o k).run n=y:=by subst h; exact ht
theorem w_t {b:Bool} {s t:Tree α} (h:b=true) (hs:s.run n=y):(Tree.cond b s t).run n=y:=by subst h; exact hs
theorem w_f {b:Bool} {s t:Tree α} (h:b=false) (ht:t.run n=y):(Tree.cond b s t).run n=y:=by subst h; exact ht
theorem qKi {β:Type} {o:Option β} {s:Tree α} {k:β→Tree α} (h:o=none) (hs:s.run n=y):(Tree.opt o s k).run n=y:=by subst h; exact hs
theorem qEf {β:Type} {o:Option β} {s:Tree α} {k:β→Tree α} {x:β} (h:o=some x) (hk:(k x).run n=y):(Tree.opt o s k).run n=y:=by subst h; exact hk
theorem w_l {β γ:Type} {z:β⊕γ} {f:β→Tree α} {g:γ→Tree α} {x:β} (h:z=.inl x) (hk:(f x).run n=y):(Tree.sum z f g).run n=y:=by subst h; exact hk
theorem w_r {β γ:Type} {z:β⊕γ} {f:β→Tree α} {g:γ→Tree α} {x:γ} (h:z=.inr x) (hk:(g x).run n=y):(Tree.sum z f g).run n=y:=by subst h; exact hk
theorem qcD {b:Bool} {s t:Tree α} {c:Bool} (h:b=c) (hs:c=true→s.run n=y) (ht:c=false→t.run n=y):(Tree.cond b s t).run n=y:=by
 subst h; cases b
 ·exact ht rfl
 ·exact hs rfl
end
theorem zB {k:Nat} (h:k≤4611686018427387904):qp ((k:Int) + 1):=by unfold qp; omega
theorem qVu {k:Nat} (h:k≤4611686018427387904):qp ((k:Int) - 1):=by unfold qp; omega
end Go.Rx
end
set_option maxRecDepth 100000
noncomputable section
namespace Go.Rx
open Go.Proofs
open Go.Lib (compareBytes)
theorem qLS:∀ l:List UInt8,compareBytes l l=0
 | []=>rfl
 | x::l=>by
  unfold compareBytes
  rw [if_neg (UInt8.lt_irrefl x),if_neg (UInt8.lt_irrefl x)]
  exact qLS l
theorem qJJ:∀ a b c:List UInt8,compareBytes a b < 0→compareBytes b c < 0→compareBytes a c < 0
 | [],[],_,h,_=>by simp [compareBytes] at h
 | [],_::_,[],_,h=>by simp [compareBytes] at h
 | [],_::_,_::_,_,_=>by simp [compareBytes]
 | _::_,[],_,h,_=>by simp [compareBytes] at h
 | _::_,_::_,[],_,h=>by simp [compareBytes] at h
 | x::a,y::b,z::c,h1,h2=>by
  unfold compareBytes at h1 h2 ⊢
  simp only [UInt8.lt_iff_toNat_lt] at h1 h2 ⊢
  by_cases hxy:x.toNat < y.toNat
  ·by_cases hyz:y.toNat < z.toNat
   ·rw [if_pos (by omega)]; decide
   ·rw [if_neg hyz] at h2
    by_cases hzy:z.toNat < y.toNat
    ·rw [if_pos hzy] at h2; simp at h2
    ·rw [if_pos (by omega)]; decide
  ·rw [if_neg hxy] at h1
   by_cases hyx:y.toNat < x.toNat
   ·rw [if_pos hyx] at h1; simp at h1
   ·rw [if_neg hyx] at h1
    by_cases hyz:y.toNat < z.toNat
    ·rw [if_pos (by omega)]; decide
    ·rw [if_neg hyz] at h2
     by_cases hzy:z.toNat < y.toNat
     ·rw [if_pos hzy] at h2; simp at h2
     ·rw [if_neg hzy] at h2
      rw [if_neg (by omega),if_neg (by omega)]
      exact qJJ a b c h1 h2
theorem qPx:∀ a b:List UInt8,(compareBytes a b < 0∧compareBytes b a > 0)∨a=b∨(compareBytes b a < 0∧compareBytes a b > 0)
 | [],[]=>.inr (.inl rfl)
 | [],_::_=>.inl ⟨by simp [compareBytes],by simp [compareBytes]⟩
 | _::_,[]=>.inr (.inr ⟨by simp [compareBytes],by simp [compareBytes]⟩)
 | x::a,y::b=>by
  unfold compareBytes
  by_cases h:x < y
  ·have h':¬ y < x:=fun h'=>by rw [UInt8.lt_iff_toNat_lt] at h h'; omega
   rw [if_pos h,if_neg h',if_pos h]
   exact .inl ⟨by omega,by omega⟩
  ·by_cases h':y < x
   ·rw [if_neg h,if_pos h',if_pos h']
    exact .inr (.inr ⟨by omega,by omega⟩)
   ·rw [if_neg h,if_neg h',if_neg h',if_neg h]
    have e:x=y:=by
     apply UInt8.toNat_inj.1
     rw [UInt8.lt_iff_toNat_lt] at h h'; omega
    subst e
    rcases qPx a b with h1 | h1 | h1
    ·exact .inl h1
    ·exact .inr (.inl (by rw [h1]))
    ·exact .inr (.inr h1)
theorem qSq {n:Nat} (h:n < 18446744073709551616):IntKind.u64.wrap ((n:Nat):Int)=((n:Nat):Int):=by
 have:IntKind.u64.wrap (n:Int)=(n:Int) % 18446744073709551616:=by simp [IntKind.wrap,IntKind.bits,IntKind.signed]
 rw [this]; omega
def ltB (a b:List UInt8):Bool:=decide (compareBytes a b < 0)
theorem qep (a:List UInt8):ltB a a=false:=by unfold ltB; rw [qLS]; rfl
theorem qPo {a b c:List UInt8} (h1:ltB a b=true) (h2:ltB b c=true):ltB a c=true:=decide_eq_true (qJJ a b c (of_decide_eq_true h1) (of_decide_eq_true h2))
theorem qzu (a b:List UInt8):(ltB a b=true∧ltB b a=false)∨a=b∨(ltB b a=true∧ltB a b=false):=by
 rcases qPx a b with h | h | h
 ·exact .inl ⟨decide_eq_true h.1,decide_eq_false (by omega)⟩
 ·exact .inr (.inl h)
 ·exact .inr (.inr ⟨decide_eq_true h.1,decide_eq_false (by omega)⟩)
theorem qD4:∀ a b:List UInt8,Op.bytesLess a b=ltB a b
 | [],[]=>rfl
 | [],_::_=>rfl
 | _::_,[]=>rfl
 | x::a,y::b=>by
  have ih:=qD4 a b
  unfold Op.bytesLess
  rw [ih]
  unfold ltB
  rw [show compareBytes (x::a) (y::b)=if x < y then -1 else if y < x then 1 else compareBytes a b from rfl]
  by_cases h:x < y
  ·rw [if_pos h,decide_eq_true h]; rfl
  ·rw [if_neg h,decide_eq_false h,Bool.false_or]
   by_cases h':y < x
   ·rw [if_pos h']
    have:(x == y)=false:=by
     rw [beq_eq_false_iff_ne]
     intro e; subst e; exact h h'
    rw [this]; rfl
   ·have e : x = y := by
       apply UInt8.toNat_inj.1
       rw [UInt8.lt_iff_toNat_lt] at h h'; omega
    subst e
    rw [if_neg h]
    simp
theorem qzA (a b:Vector UInt8 16):lbB a b=ltB a.toList b.toList:=by
 unfold lbB
 by_cases h:a=b
 ·subst h; rw [decide_eq_true rfl,qep]; rfl
 ·rw [decide_eq_false h]; rfl
def ltD (a b:Vector UInt8 32):Bool:=ltB a.toList b.toList
theorem eqD (a b:Vector UInt8 32):eqE (.ba 32) a b=decide (a=b):=Bool.eq_iff_iff.2 ((W_ (.ba 32) a b).trans (decide_eq_true_iff (p:=(a:Vector UInt8 32)=b)).symm)
def qcN (a b:qe):Bool:=if a.S=b.S then (if VE a.V=VE b.V then ltB a.V b.V else ltD (VE a.V) (VE b.V)) else slB a.S b.S
def cJ (a b:qe):qe:=if qcN a b=true then b else a
def mxS (a b:qc):qc:=if slB a b=true then b else a
theorem qy9 (a b:qc):(slB a b=true∧slB b a=false)∨a=b∨(slB b a=true∧slB a b=false):=by
 obtain ⟨a1,a2⟩:=a
 obtain ⟨b1,b2⟩:=b
 unfold slB
 simp only [decide_eq_true_iff,decide_eq_false_iff_not,Prod.mk.injEq]
 omega
theorem YS (a:qc):slB a a=false:=by
 unfold slB
 exact decide_eq_false (by omega)
theorem qwB {a b c:qc} (h1:slB a b=true) (h2:slB b c=true):slB a c=true:=by
 unfold slB at *
 rw [decide_eq_true_iff] at *
 omega
end Go.Rx
end
set_option maxRecDepth 100000
noncomputable section
namespace Go.Rx
open Go.Proofs
theorem qTN {α:Type} {x:Option α} [Decidable True]:chk True x=x:=if_pos trivial
theorem qI9 {n:Nat} [Decidable (((n:Nat):Int) < ((n:Nat):Int))]:decide (((n:Nat):Int) < ((n:Nat):Int))=false:=decide_eq_false (Int.lt_irrefl _)
theorem qOT {l:List zy} (h:l.length≤1000000):Vz l=some ():=by
 unfold Vz
 cases l with
 | nil=>kernel_rfl
 | cons x r=>
  show qgA (x::r)=_
  unfold qgA qd8
  have h2:zU ([]:List zy).length 0 ([]++x::r).length 36:=⟨rfl,by rw [List.nil_append]; unfold zh; omega⟩
  simp only [Tree.run,qi h2,List.isEmpty_cons,qTN]
theorem qOP {l:List qm} (h:l.length≤1000000):Zx l=some ():=by
 unfold Zx
 cases l with
 | nil=>kernel_rfl
 | cons x r=>
  show qdV (x::r)=_
  unfold qdV qaH
  have h2:zU ([]:List qm).length 0 ([]++x::r).length 88:=⟨rfl,by rw [List.nil_append]; unfold zh; omega⟩
  simp only [Tree.run,qi h2,List.isEmpty_cons,qTN]
theorem qPI {α:Type} {l:List α} {k:Nat} {d:α} (h:k < l.length):l.set k (l.getD k d)=l:=by
 rw [List.getD_eq_getElem?_getD,List.getElem?_eq_getElem h]; simp
section n
variable {N:Nat} [Jj N]
theorem qVM {x:qn} (h12:x.F.length≤12) (hB:∀ j,j < x.F.length→(x.F.getD j zE).B.length≤40):qiM N x=some x:=by
 unfold qiM qjX
 have key:qiK N [] x.ID x.qz x.F.length (Vector.replicate 16 0) (qc.mk 0 0) ((x.F.length:Nat):Int) x.F 0=some (x.F,((x.F.length:Nat):Int),false):=by
  refine (jd (σ:=Unit) (B:=KZ N [] x.ID x.qz x.F.length (Vector.replicate 16 0) (qc.mk 0 0) ((x.F.length:Nat):Int)) (g:=some) (at_:=fun k _=>(x.F,(k:Int))) (I:=fun _ _=>True) (f:=fun _ s=>s) (n:=x.F.length)
   (fin:=fun _=>(x.F,((x.F.length:Nat):Int),false)) (fun k s hk _=>⟨?_,trivial⟩) (fun s _=>?_) N 0 () trivial (Nat.zero_le _) (by have:=big N; omega))
  ·unfold KZ
   have c1:(0:Int)≤(k:Int)∧(k:Int) < ((x.F.length:Nat):Int):=by omega
   have h64:qp ((k + 1:Nat):Int):=qzE (by omega)
   have hb:=hB k hk
   simp only [Tree.run,dec_lt hk,cond_true,qi c1,Int.toNat_natCast,qP8 (d:=zE) rfl hk,Option.bind_some,qOT (show (x.F.getD k zE).B.length≤1000000 by omega),qT,qi h64,List.nil_append]
   have e:qm.mk (x.F.getD k zE).No (x.F.getD k zE).S (x.F.getD k zE).Len (x.F.getD k zE).D (x.F.getD k zE).B=x.F.getD k zE:=rfl
   rw [e,qPI hk]
  ·unfold KZ
   simp only [Tree.run,qI9,cond_false]
 simp only [Tree.run,qOP (show x.F.length≤1000000 by omega),Option.bind_some,List.nil_append,List.length_nil,zl,qyM,key,qTN]
 rfl
def qCs (l:List qn) (id:Vector UInt8 16):Option Nat:=Zk (fun k=>decide ((l.getD k zL).ID=id)) l.length 0
def qxy (l:List qm) (no:Int):Option Nat:=Zk (fun k=>decide ((l.getD k zE).No=no)) l.length 0
def qV5:Option Nat→Int
 | some i=>(i:Int)
 | none=>-1
def zI (m:qg) (id:Vector UInt8 16):qn×Bool:=match qCs m.L id with
 | some i=>(m.L.getD i zL,true)
 | none=>(zL,false)
def qOq (m:qg) (id:Vector UInt8 16) (no:Int):qm×Bool:=match qxy (zI m id).1.F no with
 | some i=>((zI m id).1.F.getD i zE,true)
 | none=>(zE,false)
theorem qQe {l:List qn} {id:Vector UInt8 16} (h:l.length≤600):X8 N id l=some (qV5 (qCs l id)):=by
 have key:=qdo (B:=vX N id l ((l.length:Nat):Int)) (g:=some) (p:=fun k=>decide ((l.getD k zL).ID=id)) (n:=l.length) (hit:=fun k=>.inl (k:Int)) (fin:=.inr (((l.length:Nat):Int),false)) (fun k hk=>by
  unfold vX qir qe5
  have h64:qp ((k + 1:Nat):Int):=qzE (by omega)
  simp only [Tree.run,dec_lt hk,cond_true,zo (d:=zL) hk,Option.bind_some,qT,qi h64,qs8]
  cases decide ((l.getD k zL).ID=id)<;>rfl) (by
  unfold vX
  simp only [Tree.run,qI9,cond_false]) N 0 (Nat.zero_le _) (by have:=big N; omega)
 have e:Ys N id l ((l.length:Nat):Int) 0=qQ (vX N id l ((l.length:Nat):Int)) some N ((0:Nat):Int):=rfl
 unfold X8 YG
 simp only [Tree.run]
 rw [e,key,Nat.sub_zero]
 unfold qCs
 cases Zk (fun k=>decide ((l.getD k zL).ID=id)) l.length 0<;>rfl
theorem qD2 {p:Nat→Bool} {n i:Nat} (h:Zk p n 0=some i):i < n∧p i=true:=by
 obtain ⟨h1,_,h2,_⟩:=qpY h
 exact ⟨by omega,h1⟩
section f
variable {m:qg} (hf:qqZ m=true)
include hf
theorem qCj (id:Vector UInt8 16):YT N m id=some (zI m id):=by
 obtain ⟨h14,hF⟩:=qhi.1 hf
 unfold YT qhR zI
 simp only [Tree.run,qQe (show m.L.length≤600 by omega),Option.bind_some]
 cases e:qCs m.L id with
 | none=>rfl
 | some i=>
  have hi:=(qD2 e).1
  have hx:=hF i hi
  have hn:¬ (((i:Nat):Int) < 0):=by omega
  show (bif decide (((i:Nat):Int) < 0) then _ else _)=_
  rw [decide_eq_false hn]
  show ((qM _ ((i:Nat):Int)).bind _)=_
  simp only [ zo (d:=zL) hi,Option.bind_some,qVM hx.1 hx.2]
theorem qxb (id:Vector UInt8 16):(zI m id).1.F.length≤12∧∀ j,j < (zI m id).1.F.length→((zI m id).1.F.getD j zE).B.length≤40:=by
 obtain ⟨h14,hF⟩:=qhi.1 hf
 unfold zI
 cases e:qCs m.L id with
 | none=>exact ⟨Nat.zero_le _,fun j hj=>absurd hj (Nat.not_lt_zero _)⟩
 | some i=>exact hF i (qD2 e).1
end f
end n
end Go.Rx
end
set_option maxRecDepth 100000
noncomputable section
namespace Go.Rx
open Go.Proofs
section n
variable {N:Nat} [Jj N]
theorem qMj (r:qa):∃ b,QT N r=some b:=by
 unfold QT qdP
 by_cases h:r.F.length≤12
 ·have d:decide ((12:Int) < ((r.F.length:Nat):Int))=false:=decide_eq_false (by omega)
  have key:qcx N r 0=some (if ve (fun k=>decide ((r.F.getD k zF).C.V.length≤300)) r.F.length then .inr (((r.F.length:Nat):Int),false) else .inl ()):=by
   refine VD (B:=Wi N r) (g:=some) (q:=fun k=>decide ((r.F.getD k zF).C.V.length≤300)) (fun k hk=>?_) ?_ (by have:=big N; omega)
   ·unfold Wi
    have e:decide ((300:Int) < (((r.F.getD k zF).C.V.length:Nat):Int))=!decide ((r.F.getD k zF).C.V.length≤300):=qth (c:=300)
    rw [qL,dec_lt hk,cond_true,run_bind,zo (d:=zF) hk,Option.bind_some,qL,zc,e,qS,qi (show qp ((k:Int) + 1) by unfold qp; omega),zc,qT]
    cases decide ((r.F.getD k zF).C.V.length≤300)<;>rfl
   ·unfold Wi
    rw [qL,zi (Nat.lt_irrefl _),cond_false,zc]
  rw [qL,d,cond_false,run_bind,key,Option.bind_some]
  cases ve (fun k=>decide ((r.F.getD k zF).C.V.length≤300)) r.F.length
  ·exact ⟨_,rfl⟩
  ·exact ⟨_,rfl⟩
 ·have d:decide ((12:Int) < ((r.F.length:Nat):Int))=true:=decide_eq_true (by omega)
  exact ⟨false,by rw [qL,d,cond_true,zc]⟩
theorem qVF (b:qb):∃ x,qaI N b=some x:=by
 unfold qaI qd5
 by_cases h:b.R.length≤14
 ·have d:decide ((14:Int) < ((b.R.length:Nat):Int))=false:=decide_eq_false (by omega)
  have key:qb_ N b 0=some (if ve (fun k=>(QT N (b.R.getD k zR)).getD false) b.R.length then .inr (((b.R.length:Nat):Int),false) else .inl ()):=by
   refine VD (B:=X4 N b) (g:=some) (q:=fun k=>(QT N (b.R.getD k zR)).getD false) (fun k hk=>?_) ?_ (by have:=big N; omega)
   ·obtain ⟨x,e⟩:=qMj (N:=N) (b.R.getD k zR)
    unfold X4
    rw [qL,dec_lt hk,cond_true,run_bind,zo (d:=zR) hk,Option.bind_some,run_bind,e,Option.bind_some,qL,zc,qS,qi (show qp ((k:Int) + 1) by unfold qp; omega),zc,qT]
    cases x<;>rfl
   ·unfold X4
    rw [qL,zi (Nat.lt_irrefl _),cond_false,zc]
  rw [qL,d,cond_false,run_bind,key,Option.bind_some]
  cases ve (fun k=>(QT N (b.R.getD k zR)).getD false) b.R.length
  ·exact ⟨_,rfl⟩
  ·exact ⟨_,rfl⟩
 ·have d:decide ((14:Int) < ((b.R.length:Nat):Int))=true:=decide_eq_true (by omega)
  exact ⟨false,by rw [qL,d,cond_true,zc]⟩
end n
theorem qGV:∀ l:List qa,∃ M:Nat,∀ k,k < l.length→(l.getD k zR).F.length≤M
 | []=>⟨0,fun k hk=>by simp at hk⟩
 | r::l=>by
  obtain ⟨M,h⟩:=qGV l
  refine ⟨r.F.length + M,fun k hk=>?_⟩
  cases k with
  | zero=>simp
  | succ k=>
   have:=h k (by simpa using hk)
   simp only [List.getD_cons_succ]; omega
theorem qWI (b:qb) (h1:b.R.length≤4611686018427387904) (h2:∀ k,k < b.R.length→(b.R.getD k zR).F.length≤4611686018427387904):∃ M:Nat,∀ N,M≤N→jj N b:=by
 obtain ⟨M,h⟩:=qGV b.R
 refine ⟨M + b.R.length + 1,fun N hN=>⟨by omega,h1,fun k hk=>⟨by have:=h k hk; omega,h2 k hk⟩⟩⟩
end Go.Rx
end
set_option maxRecDepth 100000
noncomputable section
namespace Go.Rx
open Go.Proofs
def qR0 (l:List qd) (no:Int):Option Nat:=Zk (fun k=>decide ((l.getD k zF).No=no)) l.length 0
end Go.Rx
end
set_option maxRecDepth 100000
noncomputable section
namespace Go.Rx
open Go.Proofs
theorem qkF {α:Type} {d:α} {l:List α} {k:Nat} (h:k < l.length):l.drop k=l.getD k d::l.drop (k + 1):=by
 rw [List.drop_eq_getElem_cons h,List.getD_eq_getElem?_getD,List.getElem?_eq_getElem h]; rfl
theorem qEN {α:Type} {p:α→Bool} {d:α} {l:List α}:∀ {m k:Nat},k + m=l.length→(Zk (fun j=>p (l.getD j d)) m k).map (fun i=>l.getD i d)=(l.drop k).find? p
 | 0,k,h=>by rw [List.drop_of_length_le (by omega)]; rfl
 | m + 1,k,h=>by
  rw [qkF (d:=d) (by omega),List.find?_cons]
  unfold Zk
  cases hp:p (l.getD k d) with
  | true=>rw [if_pos rfl]; rfl
  | false=>rw [if_neg (by simp)]; exact qEN (by omega)
def cO (l:List qd) (no:Int):Option qe:=(l.find? fun f=>decide (f.No=no)).map fun f=>f.C
theorem qVW {l:List qd} {no:Int}:(qR0 l no).map (fun i=>(l.getD i zF).C)=cO l no:=by
 unfold qR0 cO
 have:=qEN (p:=fun f:qd=>decide (f.No=no)) (d:=zF) (l:=l) (m:=l.length) (k:=0) (by omega)
 rw [List.drop_zero] at this
 rw [← this,Option.map_map]; rfl
theorem qEE {no:Int}:cO [] no=none:=rfl
theorem qzd {f:qd} {l:List qd} {no:Int}:cO (f::l) no=if f.No=no then some f.C else cO l no:=by
 unfold cO
 rw [List.find?_cons]
 by_cases h:f.No=no
 ·rw [decide_eq_true h,if_pos h]; rfl
 ·rw [decide_eq_false h,if_neg h]
theorem qsp {l:List qd} {no:Int} {c:qe} (h:cO l no=some c):∃ f,f∈l∧f.No=no∧f.C=c:=by
 unfold cO at h
 obtain ⟨f,h1,h2⟩:=Option.map_eq_some_iff.1 h
 exact ⟨f,List.mem_of_find?_eq_some h1,of_decide_eq_true (List.find?_some (p:=fun f:qd=>decide (f.No=no)) h1),h2⟩
def jC:Option qe→Option qe→Option qe
 | some x,some y=>some (cJ x y)
 | some x,none=>some x
 | none,y=>y
def Y3 (g:Int→Option qe) (f:qd) (no:Int):Option qe:=if f.No=no then jC (g no) (some f.C) else g no
theorem qKg {g:Int→Option qe} {f:qd} {no:Int}:Y3 g f no=if f.No=no then jC (g no) (some f.C) else g no:=rfl
theorem qFj:∀ {l:List qd} {g:Int→Option qe} {no:Int},(l.map fun f=>f.No).Nodup→l.foldl Y3 g no=jC (g no) (cO l no)
 | [],g,no,_=>by rw [qEE]; show g no=_; cases g no<;>rfl
 | f::l,g,no,h=>by
  rw [List.map_cons,List.nodup_cons] at h
  rw [List.foldl_cons,qFj h.2,qzd]
  unfold Y3
  by_cases e:f.No=no
  ·rw [if_pos e,if_pos e]
   have:cO l no=none:=by
    cases hc:cO l no with
    | none=>rfl
    | some c=>
     obtain ⟨x,hx,hx2,_⟩:=qsp hc
     exact (h.1 (List.mem_map.2 ⟨x,hx,by rw [hx2,e]⟩)).elim
   rw [this]
   cases g no<;>rfl
  ·rw [if_neg e,if_neg e]
def qd_ (no:Int) (M:List (Int×qe×Nat)):Option qe:=(fnd (β:=qe) (.i .i64) no M).map (·.1)
theorem qJO {q k:Int} {p:qe} {c:Nat} {M:List (Int×qe×Nat)}:qd_ q (J2 (β:=qe) (.i .i64) k p c M).2=if q=k then some p else qd_ q M:=by
 have:=@qBU (El (.i .i64)) qe (Ww (.i .i64)) k q p c M
 rw [show qd_ q (J2 (β:=qe) (.i .i64) k p c M).2=@qCu (El (.i .i64)) qe (Ww (.i .i64)) q (@qns (El (.i .i64)) qe (Ww (.i .i64)) k p c M).2 from rfl,this]
 by_cases h:q=k
 ·rw [if_pos h]; exact if_pos h
 ·rw [if_neg h]; exact if_neg h
def qcX (dead:qc) (k:Nat):Option qe→List qd
 | some c=>if slB dead c.S=true then [qd.mk (k:Int) c] else []
 | none=>[]
def VA (g:Int→Option qe) (dead:qc):Nat→Nat→List qd
 | 0,_=>[]
 | m + 1,k=>qcX dead k (g (k:Int))++VA g dead m (k + 1)
theorem qnO {g:Int→Option qe} {dead:qc}:∀ {m k:Nat} {s:List qd},zY (fun k s=>s++qcX dead k (g (k:Int))) m k s=s++VA g dead m k
 | 0,_,s=>by unfold zY VA; rw [List.append_nil]
 | m + 1,k,s=>by
  unfold zY VA
  rw [qnO,List.append_assoc]
theorem qy5 {dead:qc} {k:Nat} {c:Option qe}:(qcX dead k c).length≤1:=by
 cases c with
 | none=>exact Nat.zero_le _
 | some c=>
  show (if slB dead c.S=true then [qd.mk (k:Int) c] else []).length≤1
  by_cases h:slB dead c.S=true
  ·rw [if_pos h]; exact Nat.le_refl _
  ·rw [if_neg h]; exact Nat.zero_le _
def rJ (a b:qa):qa:=qa.mk a.ID (mxS a.qz b.qz) (VA (fun no=>jC (cO a.F no) (cO b.F no)) (mxS a.qz b.qz) 8 0)
theorem qIj {r:qa} (h:vg r=true):(r.F.map fun f=>f.No).Nodup:=by
 have hlt:∀ (d a:Nat),a + d + 1 < r.F.length→(r.F.getD a zF).No < (r.F.getD (a + d + 1) zF).No:=by
  intro d
  induction d with
  | zero=>
   intro a ha
   have:=(Km.1 ((qbz.1 h).2.2 (a + 0 + 1) ha)).1
   rw [if_neg (by omega),show a + 0 + 1 - 1=a by omega] at this
   exact this
  | succ d ih=>
   intro a ha
   have h1:=ih a (by omega)
   have:=(Km.1 ((qbz.1 h).2.2 (a + (d + 1) + 1) ha)).1
   rw [if_neg (by omega),show a + (d + 1) + 1 - 1=a + d + 1 by omega] at this
   omega
 rw [List.nodup_iff_pairwise_ne,List.pairwise_iff_getElem]
 intro i j hi hj hij
 rw [List.length_map] at hi hj
 have:=hlt (j - i - 1) i (by omega)
 rw [show i + (j - i - 1) + 1=j by omega,List.getD_eq_getElem?_getD,List.getD_eq_getElem?_getD,List.getElem?_eq_getElem hi,List.getElem?_eq_getElem hj] at this
 rw [List.getElem_map,List.getElem_map]
 show r.F[i].No≠r.F[j].No
 have:r.F[i].No < r.F[j].No:=this
 omega
theorem quY {r:qa} (h:vg r=true):∀ k,k < r.F.length→KQ (r.F.getD k zF).C=true:=fun j hj=>(Km.1 ((qbz.1 h).2.2 j hj)).2.2.1
def qmH (g:Int→Option qe):Prop:=∀ no c,g no=some c→c.V.length≤200
theorem qUv (a b:qe):cJ a b=a∨cJ a b=b:=by
 unfold cJ
 split
 ·exact .inr rfl
 ·exact .inl rfl
theorem qNN {g:Int→Option qe} {f:qd} (hg:qmH g) (hf:f.C.V.length≤200):qmH (Y3 g f):=by
 intro no c h
 unfold Y3 at h
 split at h
 ·cases e:g no with
  | none=>rw [e] at h; obtain rfl:=Option.some.inj h; exact hf
  | some x=>
   rw [e] at h
   obtain rfl:=Option.some.inj h
   rcases qUv x f.C with h1 | h1
   ·rw [h1]; exact hg no x e
   ·rw [h1]; exact hf
 ·exact hg no c h
end Go.Rx
end
set_option maxRecDepth 100000
noncomputable section
namespace Go.Rx
open Go.Proofs
theorem Qr (x:UInt32) (n:Nat) (h:n < 32) (h0:0 < n):ze (c32 x) ((n:Nat):Int)=some (c32 (rot x n)):=by
 have e:qpG .u32 (32:Int) ((n:Nat):Int)=((32 - n:Nat):Int):=by
  unfold qpG
  rw [show (32:Int) - ((n:Nat):Int)=((32 - n:Nat):Int) by omega,qdD,Nat.mod_eq_of_lt (by omega)]
 unfold ze qab
 simp only [qS,zc,e]
 rw [qi (show (0:Int)≤((n:Nat):Int) by omega),qi (show (0:Int)≤((32 - n:Nat):Int) by omega),Int.toNat_natCast,Int.toNat_natCast,Nat.min_eq_left (show 32 - n≤32 by omega),Nat.min_eq_left (show n≤32 by omega),qEX x _ (by omega),qtW x n h,qCU]
 unfold rot
 rw [UInt32.or_comm]
theorem qNW (x y:UInt32):qnY .u32 (c32 x) (c32 y)=c32 (x * y):=by
 unfold qnY
 show IntKind.u32.wrap (((x.toNat:Nat):Int) * ((y.toNat:Nat):Int))=_
 rw [← Int.natCast_mul,qdD,c32,UInt32.toNat_mul]
theorem qU9 {a b c d:Nat} (hb:b < 256) (hc:c < 256) (hd:d < 256):(((a <<< 24) ||| (b <<< 16)) ||| (c <<< 8)) ||| d=16777216 * a + 65536 * b + 256 * c + d:=by
 rw [Nat.shiftLeft_eq,Nat.shiftLeft_eq,Nat.shiftLeft_eq]
 have e1:a * 2 ^ 24 ||| b * 2 ^ 16=2 ^ 24 * a + b * 2 ^ 16:=by rw [Nat.mul_comm a,← Nat.two_pow_add_eq_or_of_lt (by omega)]
 have e2:(2 ^ 24 * a + b * 2 ^ 16) ||| c * 2 ^ 8=2 ^ 16 * (256 * a + b) + c * 2 ^ 8:=by
  rw [show 2 ^ 24 * a + b * 2 ^ 16=2 ^ 16 * (256 * a + b) by omega,← Nat.two_pow_add_eq_or_of_lt (by omega)]
 have e3:(2 ^ 16 * (256 * a + b) + c * 2 ^ 8) ||| d=2 ^ 8 * (256 * (256 * a + b) + c) + d:=by
  rw [show 2 ^ 16 * (256 * a + b) + c * 2 ^ 8=2 ^ 8 * (256 * (256 * a + b) + c) by omega,← Nat.two_pow_add_eq_or_of_lt (by omega)]
 rw [e1,e2,e3]; omega
theorem qVc (a b c d : UInt8) : (a.toUInt32 <<< UInt32.ofNat 24) ||| (b.toUInt32 <<< UInt32.ofNat 16) ||| (c.toUInt32 <<< UInt32.ofNat 8) ||| d.toUInt32
    = 16777216 * a.toUInt32 + 65536 * b.toUInt32 + 256 * c.toUInt32 + d.toUInt32:=by
 have ha:=a.toNat_lt; have hb:=b.toNat_lt; have hc:=c.toNat_lt; have hd:=d.toNat_lt
 apply UInt32.toNat_inj.1
 simp only [UInt32.toNat_or,UInt32.toNat_add,UInt32.toNat_mul,UInt32.toNat_shiftLeft,UInt8.toNat_toUInt32]
 show (((a.toNat <<< 24 % 4294967296) ||| (b.toNat <<< 16 % 4294967296)) ||| (c.toNat <<< 8 % 4294967296)) ||| d.toNat=_
 have l1:a.toNat <<< 24 % 4294967296=a.toNat <<< 24:=by rw [Nat.shiftLeft_eq]; exact Nat.mod_eq_of_lt (by omega)
 have l2:b.toNat <<< 16 % 4294967296=b.toNat <<< 16:=by rw [Nat.shiftLeft_eq]; exact Nat.mod_eq_of_lt (by omega)
 have l3:c.toNat <<< 8 % 4294967296=c.toNat <<< 8:=by rw [Nat.shiftLeft_eq]; exact Nat.mod_eq_of_lt (by omega)
 rw [l1,l2,l3,qU9 hb hc hd]
 show _=(((16777216 * a.toNat % 4294967296 + 65536 * b.toNat % 4294967296) % 4294967296 + 256 * c.toNat % 4294967296) % 4294967296 + d.toNat) % 4294967296
 omega
abbrev lAt (l:List UInt32) (k:Nat):UInt32:=l.getD k 0
def qOy (b:List UInt8) (k:Nat) (w:List UInt32):UInt32:=
 if k < 16 then (bAt b (4 * k) <<< UInt32.ofNat 24) ||| (bAt b (4 * k + 1) <<< UInt32.ofNat 16) ||| (bAt b (4 * k + 2) <<< UInt32.ofNat 8) ||| bAt b (4 * k + 3)
 else lAt w (k - 16) + (rot (lAt w (k - 15)) 7 ^^^ rot (lAt w (k - 15)) 18 ^^^ (lAt w (k - 15) >>> UInt32.ofNat 3)) + lAt w (k - 7) + (rot (lAt w (k - 2)) 17 ^^^ rot (lAt w (k - 2)) 19 ^^^ (lAt w (k - 2) >>> UInt32.ofNat 10))
def Xb (b:List UInt8) (k:Nat) (w:List UInt32):List UInt32:=w++[qOy b k w]
theorem qDR {l:List UInt32} {k j:Nat} (h:j < k):lAt (l.take k) j=l.getD j 0:=by
 unfold lAt
 simp [List.getD,List.getElem?_take,h]
theorem qTC {b:List UInt8} {k:Nat} {w:Vector UInt32 64} (hk:k < 64):(qlm b k w).toList.take (k + 1)=Xb b k (w.toList.take k):=by
 have hl:w.toList.length=64:=by simp
 have key:∀ x:UInt32,(w.setIfInBounds k x).toList.take (k + 1)=w.toList.take k++[x]:=fun x=>by
  rw [Vector.toList_setIfInBounds]
  rw [List.take_add_one]
  congr 1
  ·rw [List.take_set_of_le (Nat.le_refl k)]
  ·rw [List.getElem?_set_self (by omega)]; rfl
 unfold qlm Xb qOy
 by_cases h:k < 16
 ·rw [if_pos h,if_pos h,key]
 ·rw [if_neg h,if_neg h,key,qDR (by omega),qDR (by omega),qDR (by omega),qDR (by omega)]
  congr 2
  show wAt w (k - 16) + wAt w (k - 7) + _ + _=wAt w (k - 16) + _ + wAt w (k - 7) + _
  rw [UInt32.add_assoc (wAt w (k - 16)) (wAt w (k - 7)),UInt32.add_comm (wAt w (k - 7)),← UInt32.add_assoc (wAt w (k - 16))]
theorem qKJ {b:List UInt8}:∀ (m k:Nat) (w:Vector UInt32 64),k + m≤64→(zY (qlm b) m k w).toList.take (k + m)=zY (Xb b) m k (w.toList.take k)
 | 0,_,_,_=>rfl
 | m + 1,k,w,h=>by
  show (zY (qlm b) m (k + 1) (qlm b k w)).toList.take (k + (m + 1))=zY (Xb b) m (k + 1) (Xb b k (w.toList.take k))
  rw [← qTC (by omega),← qKJ m (k + 1) (qlm b k w) (by omega),show k + (m + 1)=k + 1 + m by omega]
theorem qEC {σ:Type} {f:Nat→σ→σ}:∀ (m n k:Nat) (s:σ),zY f (m + n) k s=zY f n (k + m) (zY f m k s)
 | 0,n,k,s=>by rw [Nat.zero_add]; rfl
 | m + 1,n,k,s=>by
  rw [show m + 1 + n=(m + n) + 1 by omega]
  show zY f (m + n) (k + 1) (f k s)=zY f n (k + (m + 1)) (zY f m (k + 1) (f k s))
  rw [qEC m n (k + 1),show k + 1 + m=k + (m + 1) by omega]
theorem qSk {b:List UInt8}:(qtF b).toList=zY (Xb b) 64 0 []:=by
 have h:=qKJ (b:=b) 64 0 (Vector.replicate 64 0) (by omega)
 rw [List.take_zero] at h
 rw [← h,List.take_of_length_le (by simp)]
 rfl
theorem qJ_ {b:List UInt8}:∀ (m k:Nat) (w:List UInt32),(zY (Xb b) m k w).length=w.length + m
 | 0,_,_=>rfl
 | m + 1,k,w=>by
  show (zY (Xb b) m (k + 1) (Xb b k w)).length=_
  rw [qJ_ m]; unfold Xb; rw [List.length_append]; simp; omega
theorem qMi {w:List UInt32} {x:UInt32}:w.map c32++[c32 x]=(w++[x]).map c32:=by rw [List.map_append]; rfl
theorem qOS {w:List UInt32} {k:Nat} (h:k < w.length):jy (w.map c32) (w.map c32).length k=some (c32 (lAt w k)):=by
 rw [qVd (by rw [List.length_map]; exact h),List.getElem_map]
 simp [lAt,List.getD,List.getElem?_eq_getElem h]
theorem qS1 {N : Nat} {b : List UInt8} {w : List UInt32} {k : Nat} (hb : b.length = 64) (hk : k < 16) (hw : w.length = k) :
    (Zi N b (w.map c32,(k:Int))).run some=some (.inl ((Xb b k w).map c32,((k + 1:Nat):Int))):=by
 have g:∀ j < 4,qM b ((4:Int) * (k:Int) + ((j:Nat):Int))=some (b.getD (4 * k + j) 0):=fun j hj=>by
  rw [show (4:Int) * (k:Int) + ((j:Nat):Int)=((4 * k + j:Nat):Int) by omega]; exact zo (by omega)
 have g0:qM b ((4:Int) * (k:Int))=some (b.getD (4 * k) 0):=by have:=g 0 (by omega); simpa using this
 have g1:qM b ((4:Int) * (k:Int) + 1)=some (b.getD (4 * k + 1) 0):=g 1 (by omega)
 have g2:qM b ((4:Int) * (k:Int) + 2)=some (b.getD (4 * k + 2) 0):=g 2 (by omega)
 have g3:qM b ((4:Int) * (k:Int) + 3)=some (b.getD (4 * k + 3) 0):=g 3 (by omega)
 have c0:qp ((4:Int) * (k:Int)):=by unfold qp; omega
 have c1:qp ((4:Int) * (k:Int) + 1):=by unfold qp; omega
 have c2:qp ((4:Int) * (k:Int) + 2):=by unfold qp; omega
 have c3:qp ((4:Int) * (k:Int) + 3):=by unfold qp; omega
 have c4:qp ((k:Int) + 1):=by unfold qp; omega
 have d1:decide ((k:Int) < 16)=true:=decide_eq_true (by omega)
 have c5:∀ x:Int,zU (w.map c32).length (w.map c32).length (w.map c32++[x]).length 4:=fun x=>⟨rfl,by rw [List.length_append,List.length_map]; unfold zh; simp; omega⟩
 have m1:∀ x,qnY .u32 (16777216:Int) (c32 x)=c32 (16777216 * x):=fun x=>qNW 16777216 x
 have m2:∀ x,qnY .u32 (65536:Int) (c32 x)=c32 (65536 * x):=fun x=>qNW 65536 x
 have m3:∀ x,qnY .u32 (256:Int) (c32 x)=c32 (256 * x):=fun x=>qNW 256 x
 unfold Zi Xb qOy
 rw [if_pos hk,qVc,qL,d1,cond_true]
 simp only [run_bind,qS,zc]
 rw [qi c0,g0,Option.bind_some,qi c0,qi c1,g1,Option.bind_some,qi c0,qi c2,g2,Option.bind_some,qi c0,qi c3,g3,Option.bind_some]
 rw [qw5,qw5,qw5,qw5,m1,m2,m3,Yt,Yt,Yt,qi (c5 _),qi c4,qT,qMi]
theorem qUd {N : Nat} {b : List UInt8} {w : List UInt32} {k : Nat} (h1 : ¬ k < 16) (hk : k < 64) (hw : w.length = k) :
    (Zj N (w.map c32,(k:Int))).run some=some (.inl ((Xb b k w).map c32,((k + 1:Nat):Int))):=by
 have c4:qp ((k:Int) + 1):=by unfold qp; omega
 have d1:decide ((k:Int) < 64)=true:=decide_eq_true (by omega)
 have e15:(k:Int) - 15=((k - 15:Nat):Int):=by omega
 have e2:(k:Int) - 2=((k - 2:Nat):Int):=by omega
 have e16:(k:Int) - 16=((k - 16:Nat):Int):=by omega
 have e7:(k:Int) - 7=((k - 7:Nat):Int):=by omega
 have i:∀ j:Nat,j < 64→qp ((j:Nat):Int):=fun j h=>by unfold qp; omega
 have p:∀ j:Nat,j < k→(0:Int)≤((j:Nat):Int)∧((j:Nat):Int) < (((w.map c32).length:Nat):Int):=fun j h=>by rw [List.length_map]; omega
 have gg:∀ j:Nat,j < k→jy (w.map c32) (w.map c32).length ((j:Nat):Int).toNat=some (c32 (lAt w j)):=fun j h=>by rw [Int.toNat_natCast]; exact qOS (by omega)
 have p3:(0:Int)≤3:=by omega
 have p10:(0:Int)≤10:=by omega
 have c5:∀ x:Int,zU (w.map c32).length (w.map c32).length (w.map c32++[x]).length 4:=fun x=>⟨rfl,by rw [List.length_append,List.length_map]; unfold zh; simp; omega⟩
 unfold Zj Xb qOy
 rw [if_neg h1,qL,d1,cond_true]
 simp only [run_bind,qS,zc]
 rw [e15,e2,e16,e7]
 rw [qi (i _ (by omega)),qi (p _ (by omega)),gg _ (by omega),Option.bind_some,qi (i _ (by omega)),qi (p _ (by omega)),gg _ (by omega),Option.bind_some]
 show (Option.bind (ze (c32 (lAt w (k - 15))) ((7:Nat):Int)) _)=_
 rw [Qr _ 7 (by omega) (by omega),Option.bind_some]
 show (Option.bind (ze (c32 (lAt w (k - 15))) ((18:Nat):Int)) _)=_
 rw [Qr _ 18 (by omega) (by omega),Option.bind_some,qi p3]
 show (Option.bind (ze (c32 (lAt w (k - 2))) ((17:Nat):Int)) _)=_
 rw [Qr _ 17 (by omega) (by omega),Option.bind_some]
 show (Option.bind (ze (c32 (lAt w (k - 2))) ((19:Nat):Int)) _)=_
 rw [Qr _ 19 (by omega) (by omega),Option.bind_some,qi p10]
 rw [qi (i _ (by omega)),qi (p _ (by omega)),gg _ (by omega),Option.bind_some,qi (i _ (by omega)),qi (p _ (by omega)),gg _ (by omega),Option.bind_some]
 rw [qgg,qgg,qtW _ 3 (by omega),qtW _ 10 (by omega),qgg,qgg,Yt,Yt,Yt,qi (c5 _),qi c4,qT,qMi]
theorem qTj {N:Nat} {b:List UInt8} (hN:64 < N) (hb:b.length=64):YX N b=some ((qtF b).toList.map c32):=by
 have k1:Jt N b [] 0=some ((zY (Xb b) 16 0 []).map c32,(16:Int),false):=by
  refine (jd (σ:=List UInt32) (B:=Zi N b) (g:=some) (at_:=fun k s=>(s.map c32,(k:Int))) (I:=fun k s=>s.length=k) (f:=Xb b) (n:=16)
   (fin:=fun s=>(s.map c32,(16:Int),false)) (fun k s hk hs=>⟨qS1 hb hk hs,?_⟩) (fun s _=>?_) N 0 [] rfl (Nat.zero_le _) (by omega))
  ·unfold Xb; rw [List.length_append,hs]; rfl
  ·unfold Zi
   rfl
 have k2:qaf N ((zY (Xb b) 16 0 []).map c32) 16=some ((zY (Xb b) 64 0 []).map c32,(64:Int),false):=by
  rw [show zY (Xb b) 64 0 []=zY (Xb b) 48 16 (zY (Xb b) 16 0 []) from qEC 16 48 0 []]
  refine (jd (σ:=List UInt32) (B:=Zj N) (g:=some) (at_:=fun k s=>(s.map c32,(k:Int))) (I:=fun k s=>16≤k∧s.length=k) (f:=Xb b) (n:=64)
   (fin:=fun s=>(s.map c32,(64:Int),false)) (fun k s hk hs=>⟨qUd (by omega) hk hs.2,by omega,?_⟩) (fun s _=>?_) N 16 (zY (Xb b) 16 0 []) ⟨by omega,qJ_ 16 0 []⟩ (by omega) (by omega))
  ·unfold Xb; rw [List.length_append,hs.2]; rfl
  ·unfold Zj
   rfl
 unfold YX qa1
 generalize zY (Xb b) 16 0 []=q0 at k1 k2
 rw [run_bind,show zV [(([]:List Int).length,0)] (Jt N b [] 0)=Jt N b [] 0 from (zl rfl).trans (qyM _),k1,Option.bind_some]
 dsimp only
 rw [run_bind,qd3,k2,Option.bind_some]
 rw [qSk]
 generalize List.map c32 (zY (Xb b) 64 0 [])=q
 exact qi rfl
end Go.Rx
end
set_option maxRecDepth 100000
noncomputable section
namespace Go.Rx
open Go.Proofs
theorem qV3 (x:Vector UInt32 8):∃ a b c d e f g h,x=#v[a,b,c,d,e,f,g,h]:=by
 obtain ⟨⟨l⟩,hl⟩:=x
 match l,hl with
 | [a,b,c,d,e,f,g,h],_=>exact ⟨a,b,c,d,e,f,g,h,rfl⟩
theorem qWF (e f g:UInt32):(e &&& f) ||| (~~~e &&& g)=(e &&& f) ^^^ (~~~e &&& g):=by
 apply UInt32.toBitVec_inj.1
 apply BitVec.eq_of_getLsbD_eq
 intro i hi
 simp
 cases e.toBitVec.getLsbD i<;>cases f.toBitVec.getLsbD i<;>cases g.toBitVec.getLsbD i<;>simp [hi]
theorem qWh (a b c:UInt32):(a &&& b) ||| (a &&& c) ||| (b &&& c)=(a &&& b) ^^^ (a &&& c) ^^^ (b &&& c):=by
 apply UInt32.toBitVec_inj.1
 apply BitVec.eq_of_getLsbD_eq
 intro i hi
 simp
 cases a.toBitVec.getLsbD i<;>cases b.toBitVec.getLsbD i<;>cases c.toBitVec.getLsbD i<;>simp
def tG (K w e f g h:UInt32):UInt32:=h + (rot e 6 ^^^ rot e 11 ^^^ rot e 25) + ((e &&& f) ||| (~~~e &&& g)) + K + w
def uG (a b c:UInt32):UInt32:=(rot a 2 ^^^ rot a 13 ^^^ rot a 22) + ((a &&& b) ||| (a &&& c) ||| (b &&& c))
theorem qKh {K w : Vector UInt32 64} {i : Nat} {a b c d e f g h : UInt32} : qjP K w i #v[a, b, c, d, e, f, g, h] =
    #v[tG (wAt K i) (wAt w i) e f g h + uG a b c,a,b,c,d + tG (wAt K i) (wAt w i) e f g h,e,f,g]:=by
 unfold qjP tW uW tG uG
 rw [qWF,qWh]
 rfl
abbrev L8 (a b c d e f g h:UInt32):List Int:=[c32 a,c32 b,c32 c,c32 d,c32 e,c32 f,c32 g,c32 h]
abbrev m8 (x:Vector UInt32 8):List Int:=x.toList.map c32
theorem qxU {w:List UInt32} {k:Nat} (h:k < w.length):qM (w.map c32) ((k:Nat):Int)=some (c32 (lAt w k)):=by
 rw [zo (d:=0) (by rw [List.length_map]; exact h)]
 simp [lAt,List.getD,List.getElem?_eq_getElem h]
theorem qWx:qen=some ():=rfl
abbrev kL:List Int:=[1116352408,1899447441,3049323471,3921009573,961987163,1508970993,2453635748,2870763221,3624381080,310598401,607225278,1426881987,1925078388,2162078206,2614888103,3248222580,3835390401,4022224774,264347078,604807628,770255983,1249150122,1555081692,1996064986,2554220882,2821834349,2952996808,3210313671,3336571891,3584528711,113926993,338241895,666307205,773529912,1294757372,1396182291,1695183700,1986661051,2177026350,2456956037,2730485921,2820302411,3259730800,3345764771,3516065817,3600352804,4094571909,275423344,430227734,506948616,659060556,883997877,958139571,1322822218,1537002063,1747873779,1955562222,2024104815,2227730452,2361852424,2428436474,2756734187,3204031479,3329325298]
theorem qUt:kL=qe1.toList.map c32:=rfl
theorem qUV {N : Nat} {o1 o2 : List Int} {o3 : Vector UInt8 32} {n : Nat} {l : List UInt8} {at_ : Int} {w : Vector UInt32 64} {x : Vector UInt32 8} {k : Nat} (hk : k < 64) :
    (jU N o1 o2 o3 n l at_ (w.toList.map c32) (m8 x,(k:Int))).run some=some (.inl (m8 (qjP qe1 w k x),((k + 1:Nat):Int))):=by
 obtain ⟨a,b,c,d,e,f,g,h,rfl⟩:=qV3 x
 have c4:qp ((k:Int) + 1):=by unfold qp; omega
 have d1:decide ((k:Int) < 64)=true:=decide_eq_true (by omega)
 have gk:qM kL (k:Int)=some (c32 (wAt qe1 k)):=by rw [qUt]; exact qxU (by simpa using hk)
 have gw:qM (w.toList.map c32) (k:Int)=some (c32 (wAt w k)):=qxU (by simpa using hk)
 rw [qKh]
 show (jU N o1 o2 o3 n l at_ (w.toList.map c32) (L8 a b c d e f g h,(k:Int))).run some=some (.inl (L8 _ a b c _ e f g,((k + 1:Nat):Int)))
 have g0:qM (L8 a b c d e f g h) 0=some (c32 a):=rfl
 have g1:qM (L8 a b c d e f g h) 1=some (c32 b):=rfl
 have g2:qM (L8 a b c d e f g h) 2=some (c32 c):=rfl
 have g3:qM (L8 a b c d e f g h) 3=some (c32 d):=rfl
 have g4:qM (L8 a b c d e f g h) 4=some (c32 e):=rfl
 have g5:qM (L8 a b c d e f g h) 5=some (c32 f):=rfl
 have g6:qM (L8 a b c d e f g h) 6=some (c32 g):=rfl
 have g7:qM (L8 a b c d e f g h) 7=some (c32 h):=rfl
 have t6:=fun x=>Qr x 6 (by omega) (by omega)
 have t11:=fun x=>Qr x 11 (by omega) (by omega)
 have t25:=fun x=>Qr x 25 (by omega) (by omega)
 have t2:=fun x=>Qr x 2 (by omega) (by omega)
 have t13:=fun x=>Qr x 13 (by omega) (by omega)
 have t22:=fun x=>Qr x 22 (by omega) (by omega)
 unfold jU tG uG
 rw [qL,d1,cond_true,run_bind,g4,Option.bind_some,run_bind,g0,Option.bind_some,run_bind,g7,Option.bind_some,run_bind]
 refine (congrArg (fun o=>Option.bind o _) (t6 e)).trans ?_
 rw [Option.bind_some,run_bind]
 refine (congrArg (fun o=>Option.bind o _) (t11 e)).trans ?_
 rw [Option.bind_some,run_bind]
 refine (congrArg (fun o=>Option.bind o _) (t25 e)).trans ?_
 rw [Option.bind_some,run_bind,g5,Option.bind_some,run_bind,g6,Option.bind_some,run_bind,qWx,Option.bind_some,run_bind,gk,Option.bind_some,run_bind,gw,Option.bind_some,run_bind]
 refine (congrArg (fun o=>Option.bind o _) (t2 a)).trans ?_
 rw [Option.bind_some,run_bind]
 refine (congrArg (fun o=>Option.bind o _) (t13 a)).trans ?_
 rw [Option.bind_some,run_bind]
 refine (congrArg (fun o=>Option.bind o _) (t22 a)).trans ?_
 rw [Option.bind_some,run_bind,g1,Option.bind_some,run_bind,g2,Option.bind_some,run_bind,Option.bind_some,run_bind,Option.bind_some,run_bind,Option.bind_some,run_bind,Option.bind_some,run_bind,g3,Option.bind_some,run_bind,Option.bind_some,run_bind,Option.bind_some,qS,qi c4,zc,qT]
 rw [qgg,qgg,qgg,qgg,qUq,qs6,qs6,qCU,Yt,Yt,Yt,Yt,qs6,qs6,qs6,qCU,qCU,Yt,Yt,Yt]
theorem qUH {N : Nat} {o1 : List Int} {o3 : Vector UInt8 32} {n : Nat} {l : List UInt8} {at_ : Int} {w : Vector UInt32 64} {x : Vector UInt32 8} :
    (Ju N o1 (m8 x) o3 n l at_ (w.toList.map c32) ()).run some=some (.inr (.inl (m8 (qjP qe1 w 0 x),1))):=by
 obtain ⟨a,b,c,d,e,f,g,h,rfl⟩:=qV3 x
 have gk:qM kL 0=some (c32 (wAt qe1 0)):=by rw [qUt]; exact qxU (by simp)
 have gw:qM (w.toList.map c32) 0=some (c32 (wAt w 0)):=qxU (by simp)
 rw [qKh]
 show (Ju N o1 (L8 a b c d e f g h) o3 n l at_ (w.toList.map c32) ()).run some=some (.inr (.inl (L8 _ a b c _ e f g,1)))
 have hl:(((L8 a b c d e f g h).length:Nat):Int)=8:=rfl
 have g0:jy (L8 a b c d e f g h) (L8 a b c d e f g h).length 0=some (c32 a):=rfl
 have g1:jy (L8 a b c d e f g h) (L8 a b c d e f g h).length 1=some (c32 b):=rfl
 have g2:jy (L8 a b c d e f g h) (L8 a b c d e f g h).length 2=some (c32 c):=rfl
 have g3:jy (L8 a b c d e f g h) (L8 a b c d e f g h).length 3=some (c32 d):=rfl
 have g4:jy (L8 a b c d e f g h) (L8 a b c d e f g h).length 4=some (c32 e):=rfl
 have g5:jy (L8 a b c d e f g h) (L8 a b c d e f g h).length 5=some (c32 f):=rfl
 have g6:jy (L8 a b c d e f g h) (L8 a b c d e f g h).length 6=some (c32 g):=rfl
 have g7:jy (L8 a b c d e f g h) (L8 a b c d e f g h).length 7=some (c32 h):=rfl
 have j:∀ m:Int,0≤m∧m < 8→0≤m∧m < (((L8 a b c d e f g h).length:Nat):Int):=fun m h=>h
 have j0:=j 0 (by omega); have j1:=j 1 (by omega); have j2:=j 2 (by omega); have j3:=j 3 (by omega)
 have j4:=j 4 (by omega); have j5:=j 5 (by omega); have j6:=j 6 (by omega); have j7:=j 7 (by omega)
 have t6:=fun x=>Qr x 6 (by omega) (by omega)
 have t11:=fun x=>Qr x 11 (by omega) (by omega)
 have t25:=fun x=>Qr x 25 (by omega) (by omega)
 have t2:=fun x=>Qr x 2 (by omega) (by omega)
 have t13:=fun x=>Qr x 13 (by omega) (by omega)
 have t22:=fun x=>Qr x 22 (by omega) (by omega)
 unfold Ju tG uG
 simp only [run_bind,qS,zc]
 rw [qi j4,g4,Option.bind_some,qi j0,g0,Option.bind_some,qi j7,g7,Option.bind_some]
 refine (congrArg (fun o=>Option.bind o _) (t6 e)).trans ?_
 rw [Option.bind_some]
 refine (congrArg (fun o=>Option.bind o _) (t11 e)).trans ?_
 rw [Option.bind_some]
 refine (congrArg (fun o=>Option.bind o _) (t25 e)).trans ?_
 rw [Option.bind_some,qi j5,g5,Option.bind_some,qi j6,g6,Option.bind_some,qWx,Option.bind_some,gk,Option.bind_some,gw,Option.bind_some]
 refine (congrArg (fun o=>Option.bind o _) (t2 a)).trans ?_
 rw [Option.bind_some]
 refine (congrArg (fun o=>Option.bind o _) (t13 a)).trans ?_
 rw [Option.bind_some]
 refine (congrArg (fun o=>Option.bind o _) (t22 a)).trans ?_
 rw [Option.bind_some,qi j1,g1,Option.bind_some,qi j2,g2,Option.bind_some,qi j1,Option.bind_some,qi j2,Option.bind_some,qi j1,Option.bind_some,qi j2,Option.bind_some,qi j3,g3,Option.bind_some,qi j5,Option.bind_some,qi j6,Option.bind_some]
 simp only [qgg,qs6,qUq,qCU,Yt]
theorem qQG {N : Nat} {o1 : List Int} {o3 : Vector UInt8 32} {n : Nat} {l : List UInt8} {at_ : Int} {w : Vector UInt32 64} {x : Vector UInt32 8} (hN : 64 < N) :
    Yu N o1 (m8 x) o3 n l at_ (w.toList.map c32)=some (m8 (zY (qjP qe1 w) 64 0 x),(64:Int),false):=by
 obtain ⟨N',rfl⟩:∃ N',N=N' + 1:=⟨N - 1,by omega⟩
 have e:Yu (N' + 1) o1 (m8 x) o3 n l at_ (w.toList.map c32)=qQ (Ju (N' + 1) o1 (m8 x) o3 n l at_ (w.toList.map c32)) (qaj (N' + 1) (N' + 1) (o1,m8 x,o3,n,l,at_,w.toList.map c32)) (N' + 1) ():=rfl
 rw [e,zu qUH]
 show qQ (jU (N' + 1) o1 (m8 x) o3 n l at_ (w.toList.map c32)) some (N' + 1) (m8 (qjP qe1 w 0 x),((1:Nat):Int))=_
 refine (jd (σ:=Vector UInt32 8) (B:=jU (N' + 1) o1 (m8 x) o3 n l at_ (w.toList.map c32)) (g:=some) (at_:=fun k s=>(m8 s,(k:Int))) (I:=fun _ _=>True) (f:=qjP qe1 w) (n:=64)
  (fin:=fun s=>(m8 s,(64:Int),false)) (fun k s hk _=>⟨qUV hk,trivial⟩) (fun s _=>?_) (N' + 1) 1 (qjP qe1 w 0 x) trivial (by omega) (by omega)).trans rfl
 unfold jU
 rfl
end Go.Rx
end
set_option maxRecDepth 100000
noncomputable section
namespace Go.Rx
open Go.Proofs
theorem qNx (x:Vector UInt32 8):(m8 x).length=8:=by simp [m8]
theorem qUM {N:Nat} {b:List UInt8} (hb:b.length≤1000000000) (hN:64 < N):VS N b (b++[128])=some (b++[128]++List.replicate (Zm b.length) 0,false):=by
 have hz:Zm b.length < 64:=Nat.mod_lt _ (by omega)
 have h56:(b.length + 1 + Zm b.length) % 64=56:=by unfold Zm; omega
 have hlen:∀ k,(b++[128]++List.replicate k (0:UInt8)).length=b.length + 1 + k:=fun k=>by simp; omega
 have hne:∀ k,k < Zm b.length→(b.length + 1 + k) % 64≠56:=fun k hk=>by unfold Zm at *; omega
 have e0:VS N b (b++[128])=qQ (Qy N b) some N (b++[128]++List.replicate 0 (0:UInt8)):=by rw [List.replicate_zero,List.append_nil]; rfl
 rw [e0]
 refine (jd (σ:=Unit) (B:=Qy N b) (g:=some) (at_:=fun k _=>b++[128]++List.replicate k (0:UInt8)) (I:=fun _ _=>True) (f:=fun _ s=>s) (n:=Zm b.length)
  (fin:=fun _=>(b++[128]++List.replicate (Zm b.length) 0,false)) (fun k s hk _=>⟨?_,trivial⟩) (fun s _=>?_) N 0 () trivial (Nat.zero_le _) (by omega))
 ·unfold Qy
  have c1:(64:Int)≠0:=by omega
  have e:decide ((((b++[128]++List.replicate k (0:UInt8)).length:Nat):Int).tmod 64=56)=false:=decide_eq_false (by
   rw [hlen]
   have:=hne k hk
   show ¬ (((b.length + 1 + k) % 64:Nat):Int)=56
   omega)
  have c2:zU (b++[128]++List.replicate k (0:UInt8)).length (b++[128]++List.replicate k (0:UInt8)).length ((b++[128]++List.replicate k (0:UInt8))++[UInt8.ofNat 0]).length 1:=qzj (by rw [List.length_append,hlen]; simp; omega)
  rw [qS,qi c1,qL,e,Bool.not_false,cond_true,qS,qi c2,zc]
  rw [List.replicate_succ',← List.append_assoc]
  rfl
 ·unfold Qy
  have c1:(64:Int)≠0:=by omega
  have e:decide ((((b++[128]++List.replicate (Zm b.length) (0:UInt8)).length:Nat):Int).tmod 64=56)=true:=decide_eq_true (by
   rw [hlen]
   show (((b.length + 1 + Zm b.length) % 64:Nat):Int)=56
   omega)
  rw [qS,qi c1,qL,e,Bool.not_true,cond_false,zc]
def plc (k:Nat):Nat:=if k < 8 then 256 ^ (7 - k) else 0
theorem qzo {n:Nat} (h:n < 18446744073709551616):IntKind.u64.wrap ((n:Nat):Int)=((n:Nat):Int):=by
 have:IntKind.u64.wrap ((n:Nat):Int)=((n:Nat):Int) % 18446744073709551616:=by simp [IntKind.wrap,IntKind.bits,IntKind.signed]
 rw [this]; omega
theorem qH5 (n:Nat):IntKind.u8.wrap ((n:Nat):Int)=((n % 256:Nat):Int):=by
 have:IntKind.u8.wrap ((n:Nat):Int)=((n:Nat):Int) % 256:=by simp [IntKind.wrap,IntKind.bits,IntKind.signed]
 rw [this]; omega
theorem qVx (n j:Nat):Jm ((n:Nat):Int) j=((n / 2 ^ j:Nat):Int):=by
 unfold Jm
 rw [show ((2:Int) ^ j)=((2 ^ j:Nat):Int) by push_cast; rfl,Int.fdiv_eq_ediv_of_nonneg _ (Int.natCast_nonneg _),← Int.natCast_ediv]
theorem qUz {L k:Nat} (hL:L≤1000000000) (hk:k < 8):qBy L k=UInt8.ofNat (8 * L / 256 ^ (7 - k) % 256):=by
 unfold qBy qnY
 rw [qzo (by omega),show ((L:Nat):Int) * 8=((8 * L:Nat):Int) by omega,qzo (by omega),show (min ((8:Int) * ((7:Int) - (k:Int))).toNat 64)=8 * (7 - k) by omega,qVx,qH5,Int.toNat_natCast]
 rw [Nat.pow_mul]
theorem qSu {L k:Nat} (hL:L≤1000000000) (hk:k < 8):UInt8.ofNat (IntKind.u8.wrap ((IntKind.u64.wrap ((((8 * L:Nat):Int)).tdiv ((plc k:Nat):Int))).tmod 256)).toNat=qBy L k:=by
 rw [qUz hL hk,qCT,qzo (Nat.lt_of_le_of_lt (Nat.div_le_self _ _) (by omega))]
 show UInt8.ofNat (IntKind.u8.wrap (((8 * L / plc k % 256:Nat):Int))).toNat=_
 rw [qH5,Int.toNat_natCast,Nat.mod_mod]
 unfold plc
 rw [if_pos hk]
theorem qTm {k:Nat} (hk:k < 8):IntKind.u64.wrap ((((plc k:Nat):Int)).tdiv 256)=((plc (k + 1):Nat):Int):=by
 have:∀ k < 8,IntKind.u64.wrap ((((plc k:Nat):Int)).tdiv 256)=((plc (k + 1):Nat):Int):=by decide
 exact this k hk
theorem qWs {k:Nat} (hk:k < 8):((plc k:Nat):Int)≠0:=by
 have:∀ k < 8,((plc k:Nat):Int)≠0:=by decide
 exact this k hk
theorem qRT {N L:Nat} {l:List UInt8} (hL:L≤1000000000) (hl:l.length≤1500000000) (hN:64 < N):YI N ((8 * L:Nat):Int) l 72057594037927936 0=some (zY (qjJ L) 8 0 l,(0:Int),(8:Int),false):=by
 refine (jd (σ:=List UInt8) (B:=JY N ((8 * L:Nat):Int)) (g:=some) (at_:=fun k s=>(s,((plc k:Nat):Int),(k:Int))) (I:=fun k s=>s.length=l.length + k) (f:=qjJ L) (n:=8)
  (fin:=fun s=>(s,(0:Int),(8:Int),false)) (fun k s hk hs=>⟨?_,?_⟩) (fun s _=>?_) N 0 l rfl (Nat.zero_le _) (by omega))
 ·have d1:decide ((k:Int) < 8)=true:=decide_eq_true (by omega)
  have p256:(256:Int)≠0:=by omega
  have c4:qp ((k:Int) + 1):=by unfold qp; omega
  have c5:zU s.length s.length (s++[qBy L k]).length 1:=qzj (by rw [List.length_append,hs]; simp; omega)
  unfold JY
  rw [qL,d1,cond_true,qS,qi (qWs hk),qS,qi p256]
  dsimp only
  rw [qS,qi (quH _),qSu hL hk,qS,qi c5,qS,qi p256,qS,qi c4,zc,qTm hk,qT]
  rfl
 ·unfold qjJ; rw [List.length_append,hs]; simp; omega
 ·unfold JY
  rfl
theorem qNw {N:Nat} {b:List UInt8} (hb:b.length≤1000000000) (hN:64 < N):WW N b=some (qlo b):=by
 have c0:qij b.length 1:=by unfold qij zh; omega
 have c1:zU b.length b.length (b++[UInt8.ofNat 128]).length 1:=qzj (by rw [List.length_append]; simp; omega)
 have c2:qp (((8:Int)) * ((b.length:Nat):Int)):=by unfold qp; omega
 have e8:IntKind.u64.wrap (((8:Int)) * ((b.length:Nat):Int))=((8 * b.length:Nat):Int):=by
  rw [show (8:Int) * ((b.length:Nat):Int)=((8 * b.length:Nat):Int) by omega,qzo (by omega)]
 have hlen:=qRT (N:=N) (L:=b.length) (l:=b++[128]++List.replicate (Zm b.length) 0) hb (by have:Zm b.length < 64:=Nat.mod_lt _ (by omega); simp; omega) hN
 have e1:b++[UInt8.ofNat 128]=b++[128]:=rfl
 unfold WW Kn
 rw [qS,qi c0,qS,qi c1,run_bind,qd3,e1,qUM hb hN,Option.bind_some]
 dsimp only
 rw [qS,qi c2,e8,run_bind,qd3,hlen,Option.bind_some]
 unfold qlo
 generalize zY (qjJ b.length) 8 0 (b++[128]++List.replicate (Zm b.length) 0)=q
 exact qi rfl
theorem qVO {x:Vector UInt32 8} {k:Nat} {y:UInt32}:(m8 x).set k (c32 y)=m8 (x.setIfInBounds k y):=by
 unfold m8
 rw [Vector.toList_setIfInBounds,List.map_set]
theorem qMS {x:Vector UInt32 8} {k:Nat} (hk:k < 8):jy (m8 x) 8 k=some (c32 (wAt x k)):=by
 have h:=qOS (w:=x.toList) (k:=k) (by simpa using hk)
 rw [show (List.map c32 x.toList).length=8 from qNx x] at h
 exact h
theorem qUy {x:Vector UInt32 8} {k:Nat} (hk:k < 8):qM (m8 x) ((k:Nat):Int)=some (c32 (wAt x k)):=qxU (by simpa using hk)
theorem qUK {N : Nat} {o : Vector UInt8 32} {l : List UInt8} {at_ : Int} {x s : Vector UInt32 8} (hN : 64 < N) :
    qaT N o 8 l at_ (m8 x) (m8 s) 0=some (m8 (zY (qCE x) 8 0 s),(8:Int),false):=by
 refine (jd (σ:=Vector UInt32 8) (B:=XC N o 8 l at_ (m8 x)) (g:=some) (at_:=fun k s=>(m8 s,(k:Int))) (I:=fun _ _=>True) (f:=qCE x) (n:=8)
  (fin:=fun s=>(m8 s,(8:Int),false)) (fun k y hk _=>⟨?_,trivial⟩) (fun y _=>?_) N 0 s trivial (Nat.zero_le _) (by omega))
 ·have c4:qp ((k:Int) + 1):=by unfold qp; omega
  have d1:decide ((k:Int) < 8)=true:=decide_eq_true (by omega)
  have pk:(0:Int)≤(k:Int)∧(k:Int) < ((8:Nat):Int):=by omega
  have hv:qkc (m8 y).length 8 (k:Int).toNat:=⟨qNx y,by rw [Int.toNat_natCast]; exact hk⟩
  have gv:jy (m8 y) 8 (k:Int).toNat=some (c32 (wAt y k)):=by rw [Int.toNat_natCast]; exact qMS hk
  unfold XC qCE
  rw [qL,d1,cond_true,qS,qi pk,run_bind,gv,Option.bind_some,run_bind,qUy hk,Option.bind_some,qS,qi pk,qS,qi hv,qS,qi c4,zc,Yt,Int.toNat_natCast,qVO,qT]
 ·unfold XC
  rfl
def chG (l:List UInt8) (k:Nat) (s:Vector UInt32 8):Vector UInt32 8:=qug s qe1 ((l.take (64 * k + 64)).drop (64 * k))
theorem qUn {l:List UInt8}:∀ (m k:Nat) (s:Vector UInt32 8),chF qe1 m s (l.drop (64 * k))=zY (chG l) m k s
 | 0,_,_=>rfl
 | m + 1,k,s=>by
  show chF qe1 m (qug s qe1 ((l.drop (64 * k)).take 64)) ((l.drop (64 * k)).drop 64)=zY (chG l) m (k + 1) (chG l k s)
  rw [← qUn m (k + 1),List.drop_drop,show 64 * k + 64=64 * (k + 1) by omega]
  unfold chG
  rw [List.drop_take,show 64 * k + 64 - 64 * k=64 by omega]
theorem qOr {N m : Nat} {o : Vector UInt8 32} {l : List UInt8} {s : Vector UInt32 8} (hl : l.length = 64 * m) (hb : l.length ≤ 2000000000) (hN : 64 < N) (hm : m < N) :
    qcm N o 8 l (m8 s) 0=some (m8 (chF qe1 m s l),((64 * m:Nat):Int),false):=by
 have e0:chF qe1 m s l=zY (chG l) m 0 s:=by rw [← qUn m 0 s]; rfl
 rw [e0]
 refine (jd (σ:=Vector UInt32 8) (B:=XW N o 8 l) (g:=some) (at_:=fun k s=>(m8 s,((64 * k:Nat):Int))) (I:=fun _ _=>True) (f:=chG l) (n:=m)
  (fin:=fun s=>(m8 s,((64 * m:Nat):Int),false)) (fun k y hk _=>⟨?_,trivial⟩) (fun y _=>?_) N 0 s trivial (Nat.zero_le _) (by omega))
 ·have d1:decide (((64 * k:Nat):Int) < ((l.length:Nat):Int))=true:=decide_eq_true (by omega)
  have e64:((64 * k:Nat):Int) + 64=((64 * k + 64:Nat):Int):=by omega
  have c1:qp (((64 * k:Nat):Int) + 64):=by unfold qp; omega
  have c2:(0:Int)≤((64 * k:Nat):Int)∧((64 * k:Nat):Int)≤((64 * k:Nat):Int) + 64∧((64 * k:Nat):Int) + 64≤((l.length:Nat):Int):=by omega
  have c3:(m8 y).length=8:=qNx y
  have c4:qij (m8 y).length 4:=by rw [qNx]; unfold qij zh; omega
  have et:(l.take (((64 * k:Nat):Int) + 64).toNat).drop ((64 * k:Nat):Int).toNat=(l.take (64 * k + 64)).drop (64 * k):=by
   rw [e64,Int.toNat_natCast,Int.toNat_natCast]
  have hlen:((l.take (64 * k + 64)).drop (64 * k)).length=64:=by rw [List.length_drop,List.length_take]; omega
  unfold XW chG qug
  rw [show 64 * (k + 1)=64 * k + 64 by omega]
  rw [qL,d1,cond_true,qS,qi c1,qS,qi c2,run_bind,et,qTj hN hlen,Option.bind_some,qS,qi c3,qS,qi c4,run_bind,qd3,qQG hN,Option.bind_some]
  dsimp only
  rw [run_bind,qUK hN,Option.bind_some,qS,qi c1,zc,e64]
 ·have d1:decide (((64 * m:Nat):Int) < ((l.length:Nat):Int))=false:=decide_eq_false (by omega)
  unfold XW
  rw [qL,d1,cond_false,zc]
theorem qJC {N : Nat} {o : List Int} {o2 o3 : Vector UInt8 32} {n3 : Nat} {s : Int} (hN : 64 < N) : ∀ (d n y : Nat), d ≤ 3 → d < n → y < 4294967296 →
    qQ (Xw N o o2 o3 n3 s) some n (((y:Nat):Int),((3 - d:Nat):Int))=some (((y / 256 ^ d:Nat):Int),(3:Int),false)
 | 0,n + 1,y,_,_,_=>by
  refine (zu (x:=(((y:Nat):Int),(3:Int),false)) (by unfold Xw; rfl) n).trans ?_
  rw [Nat.pow_zero,Nat.div_one]
 | d + 1,n + 1,y,hd,hn,hy=>by
  have d1:decide (((3 - (d + 1):Nat):Int) < 3)=true:=decide_eq_true (by omega)
  have p256:(256:Int)≠0:=by omega
  have c1:qp (((3 - (d + 1):Nat):Int) + 1):=by unfold qp; omega
  have e1:((3 - (d + 1):Nat):Int) + 1=((3 - d:Nat):Int):=by omega
  have e2:IntKind.u32.wrap ((((y:Nat):Int)).tdiv 256)=((y / 256:Nat):Int):=by
   show IntKind.u32.wrap (((y / 256:Nat):Int))=_
   rw [qdD,Nat.mod_eq_of_lt (by omega)]
  rw [Zt (v':=(((y / 256:Nat):Int),((3 - d:Nat):Int))) (by
   unfold Xw
   rw [qL,d1,cond_true,qS,qi p256,qS,qi c1,zc,e1,e2]) n]
  rw [qJC hN d n (y / 256) (by omega) (by omega) (by omega),Nat.div_div_eq_div_mul,Nat.pow_succ,Nat.mul_comm 256]
theorem qU6 {N:Nat} {o:Vector UInt8 32} {s:Vector UInt32 8} (hN:64 < N):qbh N (m8 s) o 8 (Vector.replicate 32 0) 0=some (qTP s,(32:Int),false):=by
 refine (jd (σ:=Vector UInt8 32) (B:=Xi N (m8 s) o 8) (g:=some) (at_:=fun k s=>(s,(k:Int))) (I:=fun _ _=>True) (f:=qKz s) (n:=32)
  (fin:=fun s=>(s,(32:Int),false)) (fun k x hk _=>⟨?_,trivial⟩) (fun x _=>?_) N 0 (Vector.replicate 32 0) trivial (Nat.zero_le _) (by omega))
 ·have d1:decide ((k:Int) < 32)=true:=decide_eq_true (by omega)
  have e1:(k:Int).tdiv 4=((k / 4:Nat):Int):=qCT k 4
  have e2:(k:Int).tmod 4=((k % 4:Nat):Int):=qIi k 4
  have h4:(4:Int)≠0:=by omega
  have p256:(256:Int)≠0:=by omega
  have c1:qp (((k / 4:Nat)):Int):=by unfold qp; omega
  have c2:(0:Int)≤((k / 4:Nat):Int)∧((k / 4:Nat):Int) < ((8:Nat):Int):=by omega
  have c7:(0:Int)≤(k:Int)∧(k:Int) < ((32:Nat):Int):=by omega
  have c8:qp ((k:Int) + 1):=by unfold qp; omega
  have c9:(k:Int).toNat < 32:=by rw [Int.toNat_natCast]; exact hk
  have hl:qbj N (m8 s) o x 8 (k:Int) (c32 (wAt s (k / 4))) ((k % 4:Nat):Int)=some ((((wAt s (k / 4)).toNat / 256 ^ (3 - k % 4):Nat):Int),(3:Int),false):=by
   have:=qJC (N:=N) (o:=m8 s) (o2:=o) (o3:=x) (n3:=8) (s:=(k:Int)) hN (3 - k % 4) N (wAt s (k / 4)).toNat (by omega) (by omega) (qJE _)
   rw [show 3 - (3 - k % 4)=k % 4 by omega] at this
   exact this
  have eb:UInt8.ofNat (IntKind.u8.wrap ((((wAt s (k / 4)).toNat / 256 ^ (3 - k % 4):Nat):Int).tmod 256)).toNat=qNl s k:=by
   show UInt8.ofNat (IntKind.u8.wrap ((((wAt s (k / 4)).toNat / 256 ^ (3 - k % 4) % 256:Nat):Int))).toNat=_
   unfold qNl
   rw [qH5,qH5,Int.toNat_natCast,Int.toNat_natCast,Nat.mod_mod,UInt32.toNat_shiftRight,UInt32.toNat_ofNat_of_lt' (show 24 - 8 * (k % 4) < UInt32.size by unfold UInt32.size; omega),Nat.mod_eq_of_lt (show 24 - 8 * (k % 4) < 32 by omega),Nat.shiftRight_eq_div_pow,show 24 - 8 * (k % 4)=8 * (3 - k % 4) by omega,Nat.pow_mul]
  unfold Xi qKz
  rw [qL,d1,cond_true,e1,e2,qS,qi h4,qS,qi c1,qS,qi c2,run_bind,Int.toNat_natCast,qMS (by omega),Option.bind_some,qS,qi h4,run_bind,hl,Option.bind_some]
  dsimp only
  rw [eb,qS,qi p256,qS,qi c7,qS,qi (quH _),qS,qi c9,qS,qi c8,zc,Int.toNat_natCast,qT]
 ·unfold Xi
  rfl
theorem qU4:m8 qWc=[1779033703,3144134277,1013904242,2773480762,1359893119,2600822924,528734635,1541459225]:=rfl
theorem qVA {N:Nat} {b:List UInt8} (hb:b.length≤1000000000) (hN:b.length + 100 < N):qbx N b=some (VE b):=by
 obtain ⟨m,hm,hmb⟩:=qMR b
 have hL:(qlo b).length=b.length + 1 + Zm b.length + 8:=by unfold qlo; rw [qCV]; simp; omega
 have hz:Zm b.length < 64:=Nat.mod_lt _ (by omega)
 have hd:(qlo b).length / 64=m + 1:=by rw [hm]; omega
 unfold qbx qdC VE
 rw [run_bind,qNw hb (by omega),Option.bind_some,run_bind,← qU4,qOr hm (by omega) (by omega) (by omega),Option.bind_some]
 dsimp only
 rw [run_bind,qU6 (by omega),Option.bind_some,zc,hd]
theorem qIs {N:Nat} {b:List UInt8} (hb:b.length≤1000000000) (hN:b.length + 100 < N):Wo N b=some (VE b):=by
 have c:qmt (b:List UInt8).length:=by unfold qmt; omega
 unfold Wo qe6
 rw [qS,qi c,run_bind,qVA hb hN,Option.bind_some,zc]
end Go.Rx
end
set_option maxRecDepth 100000
noncomputable section
namespace Go.Rx
open Go.Proofs
theorem qrG (a:qc):QZ a=some (stB a):=by
 have ez:decide (a=zSt)=(decide (a.1=0)&&decide (a.2=0)):=by
  obtain ⟨n,r⟩:=a
  rw [← Bool.decide_and]
  refine decide_eq_decide.2 ⟨fun h=>?_,fun h=>?_⟩
  ·have h1:=congrArg Prod.fst h
   have h2:=congrArg Prod.snd h
   exact ⟨h1,h2⟩
  ·obtain ⟨rfl,rfl⟩:=h
   rfl
 unfold QZ qdT stB
 rw [ez]
 show (bif decide (a.1=0) then some (decide (a.2=0)) else bif decide (1≤a.1) then bif decide (a.1≤1099511627776) then bif decide (0≤a.2) then some (decide (a.2 < 8)) else some false else some false else some false)=_
 rw [show decide (1≤a.1)=decide (0 < a.1) from decide_eq_decide.2 (by omega)]
 by_cases h0:a.1=0
 ·rw [h0]; cases decide (a.2=0)<;>rfl
 ·rw [decide_eq_false h0]
  cases decide (0 < a.1)<;>cases decide (a.1≤1099511627776)<;>cases decide (0≤a.2)<;>cases decide (a.2 < 8)<;>rfl
theorem Yn (a b:qc):zN a b=some (slB a b):=by
 unfold zN qcH slB
 show (bif decide (a.1 < b.1) then some true else bif decide (a.1=b.1) then some (decide (a.2 < b.2)) else some false)=_
 by_cases h:a.1 < b.1
 ·rw [decide_eq_true h,decide_eq_true (show a.1 < b.1∨a.1=b.1∧a.2 < b.2 from Or.inl h)]; rfl
 ·rw [decide_eq_false h]
  by_cases h2:a.1=b.1
  ·rw [decide_eq_true h2]
   show some (decide (a.2 < b.2))=_
   exact congrArg some (decide_eq_decide.2 (by omega))
  ·rw [decide_eq_false h2,decide_eq_false (show ¬(a.1 < b.1∨a.1=b.1∧a.2 < b.2) by omega)]; rfl
theorem qVe (c:qe):qby c=some (KQ c):=by
 have e2:decide (((c.V.length:Nat):Int)≤200)=decide (c.V.length≤200):=decide_eq_decide.2 (by omega)
 unfold qby qd1 KQ
 rw [run_bind,qrG,Option.bind_some]
 show (bif stB c.S then bif decide (0 < c.S.1) then some (decide (((c.V.length:Nat):Int)≤200)) else some false else some false)=_
 rw [e2]
 cases hs:stB c.S with
 | false=>cases decide (c.S=zSt)<;>rfl
 | true=>
  have hz:decide (0 < c.S.1)=!decide (c.S=zSt):=by
   unfold stB at hs
   by_cases h:c.S=zSt
   ·rw [decide_eq_true h,h]; rfl
   ·rw [decide_eq_false h] at hs ⊢
    simp only [Bool.false_or,Bool.and_eq_true,decide_eq_true_iff] at hs
    exact decide_eq_true hs.1.1.1
  rw [hz]
  cases decide (c.S=zSt)<;>rfl
end Go.Rx
end
set_option maxRecDepth 100000
noncomputable section
namespace Go.Rx
open Go.Proofs
theorem quI {V W Y : Type} {B : V → Tree (V ⊕ W)} {g : W → Option Y} {at_ : Nat → V} {q : Nat → Bool} {n : Nat} {hit fin : W}
    (h1:∀ k,k < n→(B (at_ k)).run some=some (if q k then .inl (at_ (k + 1)) else .inr hit)) (h2:(B (at_ n)).run some=some (.inr fin)) :
    ∀ (m k:Nat),k + m=n→∀ N,m < N→(∀ j,j < k→q j=true)→qQ B g N (at_ k)=g (if ve q n then fin else hit)
 | 0,k,hk,N + 1,_,hq=>by
  obtain rfl:k=n:=by omega
  rw [zu h2,if_pos (J_.2 hq)]
 | m + 1,k,hk,N + 1,hN,hq=>by
  have h:=h1 k (by omega)
  cases e:q k with
  | true=>
   rw [e,if_pos rfl] at h
   rw [Zt h]
   exact quI h1 h2 m (k + 1) (by omega) N (by omega) fun j hj=>by
    by_cases ej:j=k
    ·rw [ej]; exact e
    ·exact hq j (by omega)
  | false=>
   rw [e,if_neg (by simp)] at h
   rw [zu h,if_neg (fun ha=>by have:=J_.1 ha k (by omega); rw [e] at this; cases this)]
 | _,_,_,0,hN,_=>by omega
section
variable {N:Nat} [Jj N]
def qmF (l:List qd) (k:Nat):Int:=if k=0 then -1 else (l.getD (k - 1) zF).No
theorem qWD {r : qa} (hN : r.F.length < N) (h62 : r.F.length ≤ 4611686018427387904) :
    ∃ z,Yz N r (-1) 0=some (if ve (qk9 r.F r.qz) r.F.length then .inr z else .inl ()):=by
 refine ⟨(qmF r.F r.F.length,((r.F.length:Nat):Int),false),?_⟩
 refine (quI (B:=Wd N r) (g:=some) (at_:=fun k=>(qmF r.F k,(k:Int))) (q:=qk9 r.F r.qz) (n:=r.F.length) (hit:=.inl ()) (fin:=.inr (qmF r.F r.F.length,((r.F.length:Nat):Int),false)) (fun k hk=>?_) ?_ r.F.length 0 (by omega) N hN (fun j hj=>by omega)).trans ?_
 ·have h64:qp ((k:Int) + 1):=by unfold qp; omega
  have hl:qmF r.F (k + 1)=(r.F.getD k zF).No:=by unfold qmF; rw [if_neg (by omega)]; rfl
  have hq:(if k=0 then decide (0≤(r.F.getD k zF).No) else decide ((r.F.getD (k - 1) zF).No < (r.F.getD k zF).No))=!decide ((r.F.getD k zF).No≤qmF r.F k):=by
   rw [← decide_not]
   unfold qmF
   by_cases h0:k=0
   ·rw [if_pos h0,if_pos h0]; exact decide_eq_decide.2 (by omega)
   ·rw [if_neg h0,if_neg h0]; exact decide_eq_decide.2 (by omega)
  unfold Wd qk9
  rw [hq,qL,dec_lt hk,cond_true,run_bind,zo (d:=zF) hk,Option.bind_some,run_bind,qVe,Option.bind_some,run_bind,Yn,Option.bind_some,qL,zc,qL,qL,qL,qS,qi h64,zc,qT,hl]
  show (bif !KQ (r.F.getD k zF).C then _ else bif !slB r.qz (r.F.getD k zF).C.S then _ else bif decide ((r.F.getD k zF).No≤qmF r.F k) then _ else bif decide (8≤(r.F.getD k zF).No) then _ else _)=_
  cases KQ (r.F.getD k zF).C<;>cases slB r.qz (r.F.getD k zF).C.S<;>cases decide ((r.F.getD k zF).No≤qmF r.F k)<;>cases decide (8≤(r.F.getD k zF).No)<;>rfl
 ·unfold Wd
  rw [qL,zi (Nat.lt_irrefl _),cond_false,zc]
 ·rfl
theorem qzh {r:qa} (hN:r.F.length < N) (h62:r.F.length≤4611686018427387904):Jl N r=some (vg r):=by
 have e0:eqE qh r.qz (qc.mk 0 0)=decide (r.qz=zSt):=qbm _ _
 have d0:decide (((r.F.length:Nat):Int)=0)=decide (r.F.length=0):=decide_eq_decide.2 (by omega)
 obtain ⟨z,ez⟩:=qWD hN h62
 unfold Jl qc7 vg
 rw [run_bind,qrG,Option.bind_some,qL,zc,qL,d0,qL,e0,zc,run_bind,ez,Option.bind_some]
 cases stB r.qz<;>cases decide (r.F.length=0)<;>cases decide (r.qz=zSt)<;>cases ve (qk9 r.F r.qz) r.F.length<;>rfl
end
end Go.Rx
end
set_option maxRecDepth 100000
noncomputable section
namespace Go.Rx
open Go.Proofs
theorem qmY {l:List UInt8} {k:Nat} (h:k < l.length):l.drop k=l.getD k 0::l.drop (k + 1):=by
 rw [List.drop_eq_getElem_cons h]
 simp [List.getD,List.getElem?_eq_getElem h]
section
variable {N:Nat} [Jj N]
theorem qKb {a b : Vector UInt8 16} : ∀ (m k n : Nat), k + m = 16 → m < n →
    qQ (ZN N a b) some n (k:Int)=some (if a.toList.drop k=b.toList.drop k then .inr ((16:Int),false) else .inl (decide (Go.Lib.compareBytes (a.toList.drop k) (b.toList.drop k) < 0)))
 | 0,k,n + 1,hk,_=>by
  obtain rfl:k=16:=by omega
  rw [zu (x:=.inr ((16:Int),false)) (by unfold ZN; rfl) n,if_pos (by rw [List.drop_of_length_le (by simp),List.drop_of_length_le (by simp)])]
 | m + 1,k,n + 1,hk,hn=>by
  have hk16:k < 16:=by omega
  have d1:decide ((k:Int) < 16)=true:=decide_eq_true (by omega)
  have p1:(0:Int)≤(k:Int)∧(k:Int) < ((16:Nat):Int):=by omega
  have p2:(k:Int).toNat < 16:=by rw [Int.toNat_natCast]; exact hk16
  have h64:qp ((k:Int) + 1):=by unfold qp; omega
  rw [qmY (l:=a.toList) (k:=k) (by simpa using hk16),qmY (l:=b.toList) (k:=k) (by simpa using hk16)]
  by_cases e:a.toList.getD k 0=b.toList.getD k 0
  ·have d2:decide ((((a.toList.getD k 0).toNat:Nat):Int)=(((b.toList.getD k 0).toNat:Nat):Int))=true:=decide_eq_true (by rw [e])
   rw [Zt (v':=((k + 1:Nat):Int)) (by
    unfold ZN
    rw [qL,d1,cond_true,qS,qi p1,qS,qi p2,qS,qi p1,qS,qi p2,qL,Int.toNat_natCast,d2,Bool.not_true,cond_false,qS,qi h64,zc,qT]) n]
   rw [qKb m (k + 1) n (by omega) (by omega),e]
   have hc:Go.Lib.compareBytes (b.toList.getD k 0::a.toList.drop (k + 1)) (b.toList.getD k 0::b.toList.drop (k + 1))=Go.Lib.compareBytes (a.toList.drop (k + 1)) (b.toList.drop (k + 1)):=by
    show (if _ < _ then _ else if _ < _ then _ else _)=_
    rw [if_neg (UInt8.lt_irrefl _),if_neg (UInt8.lt_irrefl _)]
   rw [hc]
   by_cases e2:a.toList.drop (k + 1)=b.toList.drop (k + 1)
   ·rw [if_pos e2,if_pos (by rw [e2])]
   ·rw [if_neg e2,if_neg (fun h=>e2 (List.cons.inj h).2)]
  ·have e':(a.toList.getD k 0).toNat≠(b.toList.getD k 0).toNat:=fun h=>e (UInt8.toNat_inj.1 h)
   have d2:decide ((((a.toList.getD k 0).toNat:Nat):Int)=(((b.toList.getD k 0).toNat:Nat):Int))=false:=decide_eq_false (by omega)
   rw [zu (x:=.inl (decide ((((a.toList.getD k 0).toNat:Nat):Int) < (((b.toList.getD k 0).toNat:Nat):Int)))) (by
    unfold ZN
    rw [qL,d1,cond_true,qS,qi p1,qS,qi p2,qS,qi p1,qS,qi p2,qL,Int.toNat_natCast,d2,Bool.not_false,cond_true,qS,qi p1,qS,qi (by exact hk16),qS,qi p1,qS,qi (by exact hk16),zc]) n]
   rw [if_neg (fun h=>e (List.cons.inj h).1)]
   refine congrArg (fun x=>some (Sum.inl x)) (decide_eq_decide.2 ?_)
   show _↔(if a.toList.getD k 0 < b.toList.getD k 0 then (-1:Int) else if b.toList.getD k 0 < a.toList.getD k 0 then 1 else _) < 0
   by_cases h:(a.toList.getD k 0).toNat < (b.toList.getD k 0).toNat
   ·rw [if_pos (UInt8.lt_iff_toNat_lt.2 h)]; omega
   ·rw [if_neg (fun h'=>h (UInt8.lt_iff_toNat_lt.1 h')),if_pos (UInt8.lt_iff_toNat_lt.2 (by omega))]; omega
 | _,_,0,_,hn=>by omega
theorem qB_ (a b:Vector UInt8 16):Qq N a b=some (lbB a b):=by
 have e:qbB N a b 0=some (if a.toList.drop 0=b.toList.drop 0 then .inr ((16:Int),false) else .inl (decide (Go.Lib.compareBytes (a.toList.drop 0) (b.toList.drop 0) < 0))):=qKb 16 0 N (by omega) (by have:=big N; omega)
 rw [List.drop_zero,List.drop_zero] at e
 unfold Qq qcs lbB
 rw [run_bind,e,Option.bind_some]
 by_cases h:a=b
 ·rw [if_pos (by rw [h]),decide_eq_true h]; rfl
 ·rw [if_neg (fun h'=>h (Vector.toList_inj.1 h')),decide_eq_false h]; rfl
theorem qUE {b : qb} (hN : b.R.length < N) (h62 : b.R.length ≤ 4611686018427387904) (hF : ∀ k, k < b.R.length → (b.R.getD k zR).F.length < N ∧ (b.R.getD k zR).F.length ≤ 4611686018427387904) :
    qcc N b 0=some (if ve (qtP b.R) b.R.length then .inr (((b.R.length:Nat):Int),false) else .inl ()):=by
 refine VD (B:=XU N b) (g:=some) (q:=qtP b.R) (fun k hk=>?_) ?_ hN
 ·have h64:qp ((k:Int) + 1):=by unfold qp; omega
  unfold XU
  rw [qL,dec_lt hk,cond_true,run_bind,zo (d:=zR) hk,Option.bind_some,run_bind,qzh (hF k hk).1 (hF k hk).2,Option.bind_some,qL,zc,qL,qso,qS,qS,qi h64,zc,qT]
  unfold qtP
  cases vg (b.R.getD k zR) with
  | false=>rfl
  | true=>
   by_cases h0:k=0
   ·rw [decide_eq_true h0]; rfl
   ·have hp:qp ((k:Int) - 1):=by unfold qp; omega
    have hk1:k - 1 < b.R.length:=by omega
    rw [decide_eq_false h0,Bool.not_true,cond_false,Bool.not_false,cond_true,qi hp,run_bind,qjO (Nat.pos_of_ne_zero h0),zo (d:=zR) hk1,Option.bind_some,run_bind,Option.bind_some,run_bind,qB_,Option.bind_some,qL,zc,qS,qi (show qp ((k + 1:Nat):Int) by rw [← qT]; exact h64),zc]
    cases lbB (b.R.getD (k - 1) zR).ID (b.R.getD k zR).ID<;>rfl
 ·unfold XU
  rw [qL,zi (Nat.lt_irrefl _),cond_false,zc]
theorem qjU {b:qb} (h:jj N b):Jn N b=some (jm b):=by
 have e2:decide (((b.R.length:Nat):Int)≤10)=decide (b.R.length≤10):=decide_eq_decide.2 (by omega)
 unfold Jn qdw jm
 rw [run_bind,qUE h.1 h.2.1 h.2.2,Option.bind_some]
 cases ve (qtP b.R) b.R.length with
 | false=>rfl
 | true=>show (Tree.run some (Tree.ret (decide (((b.R.length:Nat):Int)≤10))))=_; rw [zc,e2]; rfl
end
end Go.Rx
end
set_option maxRecDepth 100000
noncomputable section
namespace Go.Rx
open Go.Proofs
open Go.Lib (compareBytes)
theorem qIl {x y:UInt8} {a b:List UInt8}:ltB (x::a) (y::b)=if x=y then ltB a b else decide (x.toNat < y.toNat):=by
 unfold ltB
 rw [show compareBytes (x::a) (y::b)=if x < y then -1 else if y < x then 1 else compareBytes a b from rfl]
 by_cases h:x=y
 ·subst h
  rw [if_neg (UInt8.lt_irrefl _),if_neg (UInt8.lt_irrefl _),if_pos rfl]
 ·rw [if_neg h]
  by_cases h1:x < y
  ·rw [if_pos h1,decide_eq_true (UInt8.lt_iff_toNat_lt.1 h1)]; rfl
  ·have:¬ x.toNat < y.toNat:=fun e=>h1 (UInt8.lt_iff_toNat_lt.2 e)
   have h2:y < x:=by
    apply UInt8.lt_iff_toNat_lt.2
    have:x.toNat≠y.toNat:=fun e=>h (UInt8.toNat_inj.1 e)
    omega
   rw [if_neg h1,if_pos h2,decide_eq_false this]; rfl
theorem qzg {x y:UInt8}:decide (((x.toNat:Nat):Int)=((y.toNat:Nat):Int))=decide (x=y):=decide_eq_decide.2 ⟨fun h=>UInt8.toNat_inj.1 (by omega),fun h=>by rw [h]⟩
theorem qMN {x y:UInt8}:decide (((x.toNat:Nat):Int) < ((y.toNat:Nat):Int))=decide (x.toNat < y.toNat):=decide_eq_decide.2 (by omega)
section
variable {N:Nat} [Jj N]
theorem qIL {a b : Vector UInt8 32} : ∀ (m k n : Nat), k + m = 32 → m < n →
    ∃ z,qQ (Z2 N a b) some n (k:Int)=some z∧(match z with | .inl x=>x | .inr _=>false)=ltB (a.toList.drop k) (b.toList.drop k)
 | 0,k,n + 1,hk,_=>by
  obtain rfl:k=32:=by omega
  refine ⟨.inr ((32:Int),false),?_,?_⟩
  ·rw [zu (x:=.inr ((32:Int),false)) (by unfold Z2; rfl) n]
  ·rw [List.drop_of_length_le (by simp),List.drop_of_length_le (by simp)]; rfl
 | m + 1,k,n + 1,hk,hn=>by
  have hk16:k < 32:=by omega
  have d1:decide ((k:Int) < 32)=true:=decide_eq_true (by omega)
  have p1:(0:Int)≤(k:Int)∧(k:Int) < ((32:Nat):Int):=by omega
  have p2:(k:Int).toNat < 32:=by rw [Int.toNat_natCast]; exact hk16
  rw [qmY (l:=a.toList) (k:=k) (by simpa using hk16),qmY (l:=b.toList) (k:=k) (by simpa using hk16),qIl]
  by_cases e:a.toList.getD k 0=b.toList.getD k 0
  ·obtain ⟨z,h1,h2⟩:=qIL m (k + 1) n (by omega) (by omega)
   refine ⟨z,?_,by rw [if_pos e,h2]⟩
   rw [Zt (v':=((k + 1:Nat):Int)) (by
    unfold Z2
    exact w_t d1 (qF p1 (qF p2 (qF p1 (qF p2 (w_f (by rw [qzg,Int.toNat_natCast,decide_eq_true e]; rfl) (qF (zB (by omega)) (qA (by rw [qT])))))))) ) n]
   exact h1
  ·refine ⟨.inl (decide ((a.toList.getD k 0).toNat < (b.toList.getD k 0).toNat)),?_,by rw [if_neg e]⟩
   rw [zu (x:=.inl (decide ((a.toList.getD k 0).toNat < (b.toList.getD k 0).toNat))) (by
    unfold Z2
    exact w_t d1 (qF p1 (qF p2 (qF p1 (qF p2 (w_t (by rw [qzg,Int.toNat_natCast,decide_eq_false e]; rfl) (qF p1 (qF p2 (qF p1 (qF p2 (qA (by rw [qMN,Int.toNat_natCast]))))))))))) ) n]
 | _,_,0,_,hn=>by omega
theorem qIY (a b:Vector UInt8 32):WH N a b=some (ltD a b):=by
 obtain ⟨z,h1,h2⟩:=qIL (N:=N) (a:=a) (b:=b) 32 0 N (by omega) (by have:=big N; omega)
 have e:qaJ N a b 0=some z:=h1
 rw [List.drop_zero,List.drop_zero] at h2
 unfold WH qcb ltD
 rw [← h2]
 refine ql e ?_
 cases z<;>rfl
theorem qGK {a b : qe} (hb : b.V.length ≤ 50000) : ∀ (m k n : Nat), k + m = b.V.length → m < n →
    ∃ z,qQ (vR N a b) some n (k:Int)=some z∧(match z with | .inl x=>x | .inr _=>false)=ltB (a.V.drop k) (b.V.drop k)
 | 0,k,n + 1,hk,_=>by
  obtain rfl:k=b.V.length:=by omega
  refine ⟨.inr (((b.V.length:Nat):Int),false),?_,?_⟩
  ·rw [zu (x:=.inr (((b.V.length:Nat):Int),false)) (by unfold vR; exact w_f (zi (Nat.lt_irrefl _)) (qA (by rw [zi (Nat.lt_irrefl _)]))) n]
  ·rw [List.drop_of_length_le (l:=b.V) (Nat.le_refl _)]
   cases a.V.drop b.V.length<;>rfl
 | m + 1,k,n + 1,hk,hn=>by
  have hkb:k < b.V.length:=by omega
  by_cases ha:a.V.length≤k
  ·refine ⟨.inl true,?_,?_⟩
   ·rw [zu (x:=.inl true) (by unfold vR; exact w_t (dec_lt hkb) (w_t (decide_eq_true (by omega)) (qA rfl))) n]
   ·rw [List.drop_of_length_le ha,qmY hkb]; rfl
  ·have hka:k < a.V.length:=by omega
   have d2:decide (((a.V.length:Nat):Int)≤(k:Int))=false:=decide_eq_false (by omega)
   rw [qmY hka,qmY hkb,qIl]
   by_cases e:a.V.getD k 0=b.V.getD k 0
   ·obtain ⟨z,h1,h2⟩:=qGK hb m (k + 1) n (by omega) (by omega)
    refine ⟨z,?_,by rw [if_pos e,h2]⟩
    rw [Zt (v':=((k + 1:Nat):Int)) (by
     unfold vR
     exact w_t (dec_lt hkb) (w_f d2 (ql (zo (d:=0) hka) (ql (zo (d:=0) hkb) (w_f (by rw [qzg,decide_eq_true e]; rfl) (qF (zB (by omega)) (qA (by rw [qT])))))))) n]
    exact h1
   ·refine ⟨.inl (decide ((a.V.getD k 0).toNat < (b.V.getD k 0).toNat)),?_,by rw [if_neg e]⟩
    rw [zu (x:=.inl (decide ((a.V.getD k 0).toNat < (b.V.getD k 0).toNat))) (by
     unfold vR
     exact w_t (dec_lt hkb) (w_f d2 (ql (zo (d:=0) hka) (ql (zo (d:=0) hkb) (w_t (by rw [qzg,decide_eq_false e]; rfl) (ql (zo (d:=0) hka) (ql (zo (d:=0) hkb) (qA (by rw [qMN]))))))))) n]
 | _,_,0,_,hn=>by omega
theorem qR9 {a b:qe} (ha:a.V.length≤50000) (hb:b.V.length≤50000):KT N a b=some (qcN a b):=by
 have hN:=big N
 unfold KT qcl qcN
 by_cases h1:a.S=b.S
 ·rw [if_pos h1]
  refine w_f (by rw [qbm]; show (!decide (a.S=b.S))=false; rw [decide_eq_true h1]; rfl) (ql (qIs (by show a.V.length≤_; omega) (by show a.V.length + 100 < N; omega)) (ql (qIs (by show b.V.length≤_; omega) (by show b.V.length + 100 < N; omega)) ?_))
  by_cases h2:VE a.V=VE b.V
  ·rw [if_pos h2]
   obtain ⟨z,g1,g2⟩:=qGK (N:=N) (a:=a) hb b.V.length 0 N (by omega) (by omega)
   rw [List.drop_zero,List.drop_zero] at g2
   rw [← g2]
   refine w_f (by rw [eqD]; show (!decide (VE a.V=VE b.V))=false; rw [decide_eq_true h2]; rfl) (ql (x:=z) g1 ?_)
   cases z<;>rfl
  ·rw [if_neg h2]
   exact w_t (by rw [eqD]; show (!decide (VE a.V=VE b.V))=true; rw [decide_eq_false h2]; rfl) (ql (qIY _ _) (qA rfl))
 ·rw [if_neg h1]
  exact w_t (by rw [qbm]; show (!decide (a.S=b.S))=true; rw [decide_eq_false h1]; rfl) (ql (Yn _ _) (qA rfl))
theorem qRv {a b:qe} (ha:a.V.length≤50000) (hb:b.V.length≤50000):KJ N a b=some (cJ a b):=by
 unfold KJ qct cJ
 refine ql (qR9 ha hb) ?_
 cases qcN a b<;>rfl
theorem qVy (a b:qc):qaS a b=some (mxS a b):=by
 unfold qaS qdW mxS
 refine ql (Yn _ _) ?_
 cases slB a b<;>rfl
abbrev zC:qe:=qe.mk (qc.mk 0 0) []
theorem qIX {r:qa} {no:Int} (h:r.F.length≤600):WJ N r no=some (match cO r.F no with | some c=>(c,true) | none=>(zC,false)):=by
 have key:=qdo (B:=ZJ N r zC no) (g:=some) (p:=fun k=>decide ((r.F.getD k zF).No=no)) (n:=r.F.length) (hit:=fun k=>.inl (r.F.getD k zF).C) (fin:=.inr (((r.F.length:Nat):Int),false)) (fun k hk=>by
  unfold ZJ
  refine w_t (dec_lt hk) (ql (zo (d:=zF) hk) ?_)
  by_cases e:(r.F.getD k zF).No=no
  ·exact w_t (decide_eq_true e) (ql (zo (d:=zF) hk) (qA (by rw [if_pos (decide_eq_true e)])))
  ·exact w_f (decide_eq_false e) (qF (zB (by omega)) (qA (by rw [if_neg (by rw [decide_eq_false e]; simp),qT])))) (by
  unfold ZJ
  exact w_f (zi (Nat.lt_irrefl _)) (qA (by rw [zi (Nat.lt_irrefl _)]))) N 0 (Nat.zero_le _) (by have:=big N; omega)
 rw [Nat.sub_zero] at key
 have e:qbe N r zC no 0=qQ (ZJ N r zC no) some N ((0:Nat):Int):=rfl
 rw [← qVW]
 unfold qR0
 unfold WJ qcF
 refine ql (e.trans key) ?_
 cases Zk (fun k=>decide ((r.F.getD k zF).No=no)) r.F.length 0<;>rfl
theorem qSI {a b:qa} (ha:vg a=true) (hb:vg b=true) (hid:a.ID=b.ID):Vq N a b=some (rJ a b,true):=by
 have hN:=big N
 have h8a:=YV ha
 have h8b:=YV hb
 have sh:∀ {r:qa},vg r=true→∀ no c,cO r.F no=some c→c.V.length≤50000:=fun {r} hr no c hc=>by
  obtain ⟨f,hf,_,rfl⟩:=qsp hc
  obtain ⟨i,hi,rfl⟩:=List.getElem_of_mem hf
  have:=qup (quY hr i hi)
  rw [List.getD_eq_getElem?_getD,List.getElem?_eq_getElem hi] at this
  have:r.F[i].C.V.length≤200:=this
  omega
 have key:qa2 N [] a b (Vector.replicate 16 0) (qc.mk 0 0) a.ID (mxS a.qz b.qz) [] 0=some (zY (fun k s=>s++qcX (mxS a.qz b.qz) k (jC (cO a.F (k:Int)) (cO b.F (k:Int)))) 8 0 [],(8:Int),false):=by
  refine jd (σ:=List qd) (B:=Xy N [] a b (Vector.replicate 16 0) (qc.mk 0 0) a.ID (mxS a.qz b.qz)) (g:=some) (at_:=fun k s=>(s,(k:Int))) (I:=fun k s=>s.length≤k) (f:=fun k s=>s++qcX (mxS a.qz b.qz) k (jC (cO a.F (k:Int)) (cO b.F (k:Int)))) (n:=8)
   (fin:=fun s=>(s,(8:Int),false)) (fun k s hk hs=>⟨?_,?_⟩) (fun s _=>?_) N 0 [] (Nat.le_refl _) (Nat.zero_le _) (by omega)
  ·have d8:decide ((k:Int) < 8)=true:=decide_eq_true (by omega)
   have cav:∀ f:qd,zU s.length s.length (s++[f]).length 40:=fun f=>⟨rfl,by rw [List.length_append]; unfold zh; simp; omega⟩
   have kp:∀ c:qe,qcX (mxS a.qz b.qz) k (some c)=if slB (mxS a.qz b.qz) c.S=true then [qd.mk (k:Int) c] else []:=fun _=>rfl
   unfold Xy
   refine w_t d8 (ql (qIX (by omega)) (ql (qIX (by omega)) ?_))
   dsimp only
   cases ea:cO a.F (k:Int) with
   | none=>
    cases eb:cO b.F (k:Int) with
    | none=>
     refine w_f rfl (w_t rfl (ql (Yn _ _) (w_f rfl (w_f rfl (qF (zB (by omega)) (qA ?_))))))
     rw [qT]
     show _=some (Sum.inl (s++[],_))
     rw [List.append_nil]
    | some c=>
     refine w_f rfl (w_t rfl (ql (Yn _ _) (w_f rfl (w_t rfl ?_))))
     show _=some (Sum.inl (s++qcX (mxS a.qz b.qz) k (some c),_))
     rw [kp]
     cases slB (mxS a.qz b.qz) c.S with
     | false=>exact w_f rfl (qF (zB (by omega)) (qA (by rw [qT,if_neg (by simp),List.append_nil])))
     | true=>exact w_t rfl (qF (cav _) (qF (zB (by omega)) (qA (by rw [qT,if_pos rfl]))))
   | some x=>
    cases eb:cO b.F (k:Int) with
    | none=>
     refine w_t rfl (w_f rfl (w_f rfl (ql (Yn _ _) (w_t rfl ?_))))
     show _=some (Sum.inl (s++qcX (mxS a.qz b.qz) k (some x),_))
     rw [kp]
     cases slB (mxS a.qz b.qz) x.S with
     | false=>exact w_f rfl (qF (zB (by omega)) (qA (by rw [qT,if_neg (by simp),List.append_nil])))
     | true=>exact w_t rfl (qF (cav _) (qF (zB (by omega)) (qA (by rw [qT,if_pos rfl]))))
    | some c=>
     refine w_t rfl (w_t rfl (ql (qRv (sh ha _ _ ea) (sh hb _ _ eb)) (w_f rfl (ql (Yn _ _) (w_t rfl ?_)))))
     show _=some (Sum.inl (s++qcX (mxS a.qz b.qz) k (some (cJ x c)),_))
     rw [kp]
     cases slB (mxS a.qz b.qz) (cJ x c).S with
     | false=>exact w_f rfl (qF (zB (by omega)) (qA (by rw [qT,if_neg (by simp),List.append_nil])))
     | true=>exact w_t rfl (qF (cav _) (qF (zB (by omega)) (qA (by rw [qT,if_pos rfl]))))
  ·have:=qy5 (dead:=mxS a.qz b.qz) (k:=k) (c:=jC (cO a.F (k:Int)) (cO b.F (k:Int)))
   rw [List.length_append]; omega
  ·unfold Xy
   exact w_f rfl (qA rfl)
 unfold Vq qcA
 refine ql (qzh (by omega) (by omega)) (ql (qzh (by omega) (by omega)) (w_f (by rw [ha]; rfl) (w_f (by rw [hb]; rfl) (w_f (by rw [qs8]; show (!decide (a.ID=b.ID))=false; rw [decide_eq_true hid]; rfl)
  (ql (qVy _ _) (ql ((zl rfl).trans ((zl rfl).trans key)) (qF rfl (qA ?_))))))))
 rw [qnO (g:=fun no=>jC (cO a.F no) (cO b.F no)),List.nil_append]; rfl
end
end Go.Rx
end
set_option maxRecDepth 100000
noncomputable section
namespace Go.Rx
open Go.Proofs
open Go.Lib (compareBytes)
theorem qhA {a b c:Vector UInt8 16} (h1:lbB a b=true) (h2:lbB b c=true):lbB a c=true:=by
 rw [qzA] at *; exact qPo h1 h2
theorem qL1 (a b:Vector UInt8 16):(lbB a b=true∧lbB b a=false)∨a=b∨(lbB b a=true∧lbB a b=false):=by
 rw [qzA,qzA]
 rcases qzu a.toList b.toList with h | h | h
 ·exact .inl h
 ·exact .inr (.inl (Vector.toList_inj.1 h))
 ·exact .inr (.inr h)
end Go.Rx
end
set_option maxRecDepth 100000
noncomputable section
namespace Go.Rx
open Go.Proofs
theorem qj4 {α:Type} {l:List α} {d:α} {P:α→Prop}:(∀ k,k < l.length→P (l.getD k d))↔∀ x∈l,P x:=by
 constructor
 ·intro h x hx
  obtain ⟨i,hi,rfl⟩:=List.getElem_of_mem hx
  have:=h i hi
  rw [List.getD_eq_getElem?_getD,List.getElem?_eq_getElem hi] at this
  exact this
 ·intro h k hk
  rw [List.getD_eq_getElem?_getD,List.getElem?_eq_getElem hk]
  exact h _ (List.getElem_mem hk)
theorem qph {α:Type} {R:α→α→Prop} (ht:∀ a b c,R a b→R b c→R a c) {d:α} {l:List α}:(∀ k,k + 1 < l.length→R (l.getD k d) (l.getD (k + 1) d))↔l.Pairwise R:=by
 have gd:∀ k (h:k < l.length),l.getD k d=l[k]:=fun k h=>by rw [List.getD_eq_getElem?_getD,List.getElem?_eq_getElem h]; rfl
 rw [List.pairwise_iff_getElem]
 constructor
 ·intro h i j hi hj hij
  have key:∀ m,∀ hm:i + m + 1 < l.length,R l[i] l[i + m + 1]:=by
   intro m
   induction m with
   | zero=>
    intro hm
    have:=h i hm
    rw [gd i hi,gd (i + 1) hm] at this; exact this
   | succ m ih=>
    intro hm
    have h1:=ih (by omega)
    have h2:=h (i + m + 1) hm
    rw [gd (i + m + 1) (by omega),gd (i + m + 1 + 1) hm] at h2
    exact ht _ _ _ h1 h2
  have:=key (j - i - 1) (by omega)
  have e:i + (j - i - 1) + 1=j:=by omega
  simp only [e] at this
  exact this
 ·intro h k hk
  rw [gd k (by omega),gd (k + 1) hk]
  exact h k (k + 1) (by omega) hk (by omega)
abbrev qFf (l:List qd):Prop:=l.Pairwise fun f g=>f.No < g.No
theorem qo4 {r:qa}:vg r=true↔stB r.qz=true∧(r.F≠[]∨r.qz≠zSt)∧qFf r.F∧∀ f∈r.F,0≤f.No∧f.No < 8∧KQ f.C=true∧slB r.qz f.C.S=true:=by
 have hne:r.F.length≠0↔r.F≠[]:=by
  rw [Ne,Ne,List.length_eq_zero_iff]
 constructor
 ·intro h
  have hr:=qbz.1 h
  refine ⟨hr.1,hr.2.1.imp hne.1 id,(qph (R:=fun f g:qd=>f.No < g.No) (fun a b c h1 h2=>Int.lt_trans h1 h2) (d:=zF)).1 fun k hk=>?_,(qj4 (d:=zF)).1 fun k hk=>?_⟩
  ·have:=(Km.1 (hr.2.2 (k + 1) hk)).1
   rw [if_neg (by omega)] at this
   exact this
  ·have h1:=Km.1 (hr.2.2 k hk)
   have h2:=qI1 h k hk
   exact ⟨by omega,h1.2.1,h1.2.2.1,h1.2.2.2⟩
 ·rintro ⟨h1,h2,h3,h4⟩
  refine qbz.2 ⟨h1,h2.imp hne.2 id,fun k hk=>Km.2 ⟨?_,?_⟩⟩
  ·by_cases h0:k=0
   ·rw [if_pos h0]; exact ((qj4 (d:=zF)).2 h4 k hk).1
   ·rw [if_neg h0]
    have:=(qph (R:=fun f g:qd=>f.No < g.No) (fun a b c h1 h2=>Int.lt_trans h1 h2) (d:=zF)).2 h3 (k - 1) (by omega)
    rw [show k - 1 + 1=k by omega] at this
    exact this
  ·have:=(qj4 (d:=zF)).2 h4 k hk
   exact this.2
theorem qis {g:Int→Option qe} {dead:qc}:∀ {m k:Nat} {f:qd},f∈VA g dead m k→(k:Int)≤f.No∧f.No < ((k + m:Nat):Int)∧g f.No=some f.C∧slB dead f.C.S=true
 | 0,_,_,h=>absurd h List.not_mem_nil
 | m + 1,k,f,h=>by
  unfold VA at h
  rcases List.mem_append.1 h with h | h
  ·cases e:g (k:Int) with
   | none=>rw [e] at h; exact absurd h List.not_mem_nil
   | some c=>
    rw [e] at h
    have h:f∈(if slB dead c.S=true then [qd.mk (k:Int) c] else []):=h
    split at h
    ·rename_i hs
     obtain rfl:=List.mem_singleton.1 h
     exact ⟨Int.le_refl _,by show (k:Int) < _; omega,e,hs⟩
    ·exact absurd h List.not_mem_nil
  ·have:=qis h
   exact ⟨by omega,by omega,this.2.2⟩
theorem qu6 {g:Int→Option qe} {dead:qc}:∀ {m k:Nat},qFf (VA g dead m k)
 | 0,_=>List.Pairwise.nil
 | m + 1,k=>by
  unfold VA
  refine List.pairwise_append.2 ⟨?_,qu6,fun a ha b hb=>?_⟩
  ·have:=qy5 (dead:=dead) (k:=k) (c:=g (k:Int))
   match hk:qcX dead k (g (k:Int)),this with
   | [],_=>exact List.Pairwise.nil
   | [x],_=>exact List.pairwise_singleton _ _
  ·have h1:=qis hb
   cases e:g (k:Int) with
   | none=>rw [e] at ha; exact absurd ha List.not_mem_nil
   | some c=>
    rw [e] at ha
    have ha:a∈(if slB dead c.S=true then [qd.mk (k:Int) c] else []):=ha
    split at ha
    ·obtain rfl:=List.mem_singleton.1 ha
     show (k:Int) < b.No
     omega
    ·exact absurd ha List.not_mem_nil
theorem qPd {l:List qd} (h:qFf l) {f:qd} (hf:f∈l):cO l f.No=some f.C:=by
 induction l with
 | nil=>exact absurd hf List.not_mem_nil
 | cons x l ih=>
  rw [qzd]
  have hp:=List.pairwise_cons.1 h
  rcases List.mem_cons.1 hf with rfl | hf
  ·rw [if_pos rfl]
  ·have:=hp.1 f hf
   rw [if_neg (by omega),ih hp.2 hf]
theorem qB4 {r:qa} (h:vg r=true) {no:Int} {c:qe} (hc:cO r.F no=some c):0≤no∧no < 8∧KQ c=true∧slB r.qz c.S=true:=by
 obtain ⟨f,hf,rfl,rfl⟩:=qsp hc
 exact (qo4.1 h).2.2.2 f hf
theorem qPb {g:Int→Option qe} {dead:qc} {no:Int} (h0:0≤no) (h8:no < 8):cO (VA g dead 8 0) no=(g no).filter fun c=>slB dead c.S:=by
 have key:∀ (m k:Nat),(k:Int)≤no→no < ((k + m:Nat):Int)→cO (VA g dead m k) no=(g no).filter fun c=>slB dead c.S:=by
  intro m
  induction m with
  | zero=>intro k h1 h2; omega
  | succ m ih=>
   intro k h1 h2
   unfold VA
   have app:∀ (a b:List qd),cO (a++b) no=(cO a no).or (cO b no):=by
    intro a b
    unfold cO
    rw [List.find?_append]
    cases List.find? (fun f:qd=>decide (f.No=no)) a<;>rfl
   rw [app]
   by_cases e:no=(k:Int)
   ·subst e
    have hn:cO (VA g dead m (k + 1)) (k:Int)=none:=by
     cases hc:cO (VA g dead m (k + 1)) (k:Int) with
     | none=>rfl
     | some c=>
      obtain ⟨f,hf,h3,_⟩:=qsp hc
      have:=(qis hf).1
      omega
    rw [hn]
    cases hg:g (k:Int) with
    | none=>rfl
    | some c=>
     show (cO (if slB dead c.S=true then [qd.mk (k:Int) c] else []) (k:Int)).or none=_
     rw [Option.or_none]
     by_cases hs:slB dead c.S=true
     ·rw [if_pos hs,qzd,if_pos (show (qd.mk (k:Int) c).No=(k:Int) from rfl),Option.filter_some,if_pos hs]; rfl
     ·rw [if_neg hs,qEE,Option.filter_some,if_neg hs]
   ·have hn : cO (qcX dead k (g (k : Int))) no = none := by
       cases hg:g (k:Int) with
       | none=>rfl
       | some c=>
        show cO (if slB dead c.S=true then [qd.mk (k:Int) c] else []) no=none
        by_cases hs:slB dead c.S=true
        ·rw [if_pos hs,qzd,if_neg (fun h=>e h.symm),qEE]
        ·rw [if_neg hs,qEE]
    rw [hn,Option.none_or,ih (k + 1) (by omega) (by omega)]
 exact key 8 0 (by omega) (by omega)
theorem qVJ (a b:qc):mxS a b=a∨mxS a b=b:=by
 unfold mxS
 split
 ·exact .inr rfl
 ·exact .inl rfl
theorem qCo {s:qc} (h:stB s=true) (hz:s≠zSt):slB zSt s=true:=by
 unfold stB at h
 rw [decide_eq_false hz] at h
 simp only [Bool.false_or,Bool.and_eq_true,decide_eq_true_iff] at h
 unfold slB
 exact decide_eq_true (.inl h.1.1.1)
theorem qWP {x y:qe}:slB (cJ x y).S x.S=false∧slB (cJ x y).S y.S=false:=by
 unfold cJ
 by_cases h:qcN x y=true
 ·rw [if_pos h]
  unfold qcN at h
  by_cases e:x.S=y.S
  ·rw [e]; exact ⟨YS _,YS _⟩
  ·rw [if_neg e] at h
   rcases qy9 x.S y.S with h1 | h1 | h1
   ·exact ⟨h1.2,YS _⟩
   ·exact (e h1).elim
   ·rw [h] at h1; simp at h1
 ·rw [if_neg h]
  unfold qcN at h
  by_cases e:x.S=y.S
  ·rw [e]; exact ⟨YS _,YS _⟩
  ·rw [if_neg e] at h
   rcases qy9 x.S y.S with h1 | h1 | h1
   ·exact (h h1.1).elim
   ·exact (e h1).elim
   ·exact ⟨YS _,h1.2⟩
theorem qVN {a b c:qc} (h1:slB b a=false) (h2:slB c a=true):slB c b=true:=by
 rcases qy9 a b with h | h | h
 ·exact qwB h2 h.1
 ·subst h; exact h2
 ·rw [h1] at h; simp at h
theorem qIJ {a b:qa} (ha:vg a=true) (hb:vg b=true) {no:Int} {c:qe} (h:jC (cO a.F no) (cO b.F no)=some c):0≤no∧no < 8∧KQ c=true:=by
 cases ea:cO a.F no with
 | none=>
  rw [ea] at h
  cases eb:cO b.F no with
  | none=>rw [eb] at h; cases h
  | some y=>
   rw [eb] at h
   obtain rfl:=Option.some.inj h
   have:=qB4 hb eb; exact ⟨this.1,this.2.1,this.2.2.1⟩
 | some x=>
  have hx:=qB4 ha ea
  rw [ea] at h
  cases eb:cO b.F no with
  | none=>
   rw [eb] at h
   obtain rfl:=Option.some.inj h
   exact ⟨hx.1,hx.2.1,hx.2.2.1⟩
  | some y=>
   have hy:=qB4 hb eb
   rw [eb] at h
   obtain rfl:=Option.some.inj h
   refine ⟨hx.1,hx.2.1,?_⟩
   rcases qUv x y with e | e
   ·rw [e]; exact hx.2.2.1
   ·rw [e]; exact hy.2.2.1
theorem qNg (a b:qa):(rJ a b).F=VA (fun no=>jC (cO a.F no) (cO b.F no)) (mxS a.qz b.qz) 8 0:=rfl
theorem qWH {a b:qa} (ha:vg a=true) (hb:vg b=true) (no:Int):cO (rJ a b).F no=(jC (cO a.F no) (cO b.F no)).filter fun c=>slB (mxS a.qz b.qz) c.S:=by
 by_cases h:0≤no∧no < 8
 ·rw [qNg,qPb h.1 h.2]
 ·have e1 : jC (cO a.F no) (cO b.F no) = none := by
     cases e:jC (cO a.F no) (cO b.F no) with
     | none=>rfl
     | some c=>have:=qIJ ha hb e; exact (h ⟨this.1,this.2.1⟩).elim
  rw [e1]
  cases e:cO (rJ a b).F no with
  | none=>rfl
  | some c=>
   obtain ⟨f,hf,h3,_⟩:=qsp e
   rw [qNg] at hf
   have:=qis (m:=8) (k:=0) hf
   exact (h ⟨by omega,by omega⟩).elim
theorem qUl (a b:qa):(rJ a b).ID=a.ID:=rfl
theorem qMb (a b:qa):(rJ a b).qz=mxS a.qz b.qz:=rfl
theorem qRn {a b:qc} (ha:stB a=true) (hb:stB b=true) (h:mxS a b=zSt):a=zSt∧b=zSt:=by
 by_cases e:b=zSt
 ·subst e
  unfold mxS at h
  by_cases hs:slB a zSt=true
  ·exfalso
   by_cases ea:a=zSt
   ·subst ea; rw [YS] at hs; simp at hs
   ·have:=qwB (qCo ha ea) hs
    rw [YS] at this; simp at this
  ·rw [if_neg hs] at h; exact ⟨h,rfl⟩
 ·exfalso
  unfold mxS at h
  by_cases hs:slB a b=true
  ·rw [if_pos hs] at h; exact e h
  ·rw [if_neg hs] at h
   subst h
   exact hs (qCo hb e)
theorem qBV {a b:qa} (ha:vg a=true) (hb:vg b=true):vg (rJ a b)=true:=by
 have hA:=qo4.1 ha
 have hB:=qo4.1 hb
 refine qo4.2 ⟨?_,?_,by rw [qNg]; exact qu6,fun f hf=>?_⟩
 ·rw [qMb]
  rcases qVJ a.qz b.qz with e | e
  ·rw [e]; exact hA.1
  ·rw [e]; exact hB.1
 ·by_cases hz:(rJ a b).qz=zSt
  ·left
   intro hF
   obtain ⟨za,zb⟩:=qRn hA.1 hB.1 hz
   have hne:a.F≠[]:=hA.2.1.resolve_right (fun h=>h za)
   obtain ⟨f,l,e⟩:=List.exists_cons_of_ne_nil hne
   have hf:f∈a.F:=by rw [e]; exact List.mem_cons_self ..
   have hca:=qPd hA.2.2.1 hf
   have hfl:=(hA.2.2.2 f hf).2.2.2
   have hn:cO (rJ a b).F f.No=none:=by rw [hF]; rfl
   rw [qWH ha hb,hca] at hn
   rw [qMb] at hz
   rw [hz] at hn
   rw [za] at hfl
   cases hcb:cO b.F f.No with
   | none=>
    rw [hcb] at hn
    have hn:(some f.C).filter (fun c=>slB zSt c.S)=none:=hn
    rw [Option.filter_some,if_pos hfl] at hn; cases hn
   | some y=>
    rw [hcb] at hn
    have hn:(some (cJ f.C y)).filter (fun c=>slB zSt c.S)=none:=hn
    rw [Option.filter_some,if_pos (qVN qWP.1 hfl)] at hn; cases hn
  ·exact .inr hz
 ·rw [qNg] at hf
  have h1:=qis (m:=8) (k:=0) hf
  have h2:=qIJ ha hb h1.2.2.1
  exact ⟨h2.1,h2.2.1,h2.2.2,h1.2.2.2⟩
def rO (l:List qa) (id:Vector UInt8 16):Option qa:=l.find? fun r=>decide (r.ID=id)
theorem qDS {id:Vector UInt8 16}:rO [] id=none:=rfl
theorem Xc {r:qa} {l:List qa} {id:Vector UInt8 16}:rO (r::l) id=if r.ID=id then some r else rO l id:=by
 unfold rO
 rw [List.find?_cons]
 by_cases h:r.ID=id
 ·rw [decide_eq_true h,if_pos h]
 ·rw [decide_eq_false h,if_neg h]
theorem Yb {l:List qa} {id:Vector UInt8 16} {r:qa} (h:rO l id=some r):r∈l∧r.ID=id:=
 ⟨List.mem_of_find?_eq_some h,of_decide_eq_true (List.find?_some (p:=fun r:qa=>decide (r.ID=id)) h)⟩
abbrev YP (l:List qa):Prop:=l.Pairwise fun a b=>lbB a.ID b.ID=true
def Y2 (l:List qa):Prop:=YP l∧∀ r∈l,vg r=true
theorem Xn {b:qb}:jm b=true↔Y2 b.R∧b.R.length≤10:=by
 rw [qo8]
 refine and_congr ?_ Iff.rfl
 have ht:∀ a b c:qa,lbB a.ID b.ID=true→lbB b.ID c.ID=true→lbB a.ID c.ID=true:=fun _ _ _ h1 h2=>qhA h1 h2
 constructor
 ·intro h
  refine ⟨(qph (R:=fun a b:qa=>lbB a.ID b.ID=true) ht (d:=zR)).1 fun k hk=>?_,(qj4 (d:=zR)).1 fun k hk=>(h k hk).1⟩
  rcases (h (k + 1) hk).2 with e | e
  ·omega
  ·exact e
 ·rintro ⟨h1,h2⟩ k hk
  refine ⟨(qj4 (d:=zR)).2 h2 k hk,?_⟩
  by_cases h0:k=0
  ·exact .inl h0
  ·have:=(qph (R:=fun a b:qa=>lbB a.ID b.ID=true) ht (d:=zR)).2 h1 (k - 1) (by omega)
   rw [show k - 1 + 1=k by omega] at this
   exact .inr this
theorem qQ1 {l:List qa} (h:YP l) {r:qa} (hr:r∈l):rO l r.ID=some r:=by
 induction l with
 | nil=>exact absurd hr List.not_mem_nil
 | cons x l ih=>
  rw [Xc]
  have hp:=List.pairwise_cons.1 h
  rcases List.mem_cons.1 hr with rfl | hr
  ·rw [if_pos rfl]
  ·have:=hp.1 r hr
   rw [if_neg (fun e=>by rw [e,Kq] at this; cases this),ih hp.2 hr]
theorem qKK:∀ {l l':List qa},YP l→YP l'→(∀ id,rO l id=rO l' id)→l=l'
 | [],[],_,_,_=>rfl
 | [],y::l',_,h',h=>by
  have:=h y.ID
  rw [qDS,Xc,if_pos rfl] at this; cases this
 | x::l,[],hl,_,h=>by
  have:=h x.ID
  rw [qDS,Xc,if_pos rfl] at this; cases this
 | x::l,y::l',hl,hl',h=>by
  have pl:=List.pairwise_cons.1 hl
  have pl':=List.pairwise_cons.1 hl'
  have h1:=h x.ID
  rw [Xc,if_pos rfl] at h1
  have h2:=h y.ID
  rw [Xc (r:=y),if_pos rfl] at h2
  have hxy:x=y:=by
   rcases List.mem_cons.1 (Yb h1.symm).1 with e | hf
   ·exact e
   ·rcases List.mem_cons.1 (Yb h2).1 with e | hg
    ·exact e.symm
    ·have a1:=pl'.1 x hf
     have a2:=pl.1 y hg
     have:=qhA a1 a2
     rw [Kq] at this; cases this
  subst hxy
  rw [qKK pl.2 pl'.2 fun id=>?_]
  by_cases e:x.ID=id
  ·have n1 : rO l id = none := by
      cases hc:rO l id with
      | none=>rfl
      | some c=>
       have:=pl.1 c (Yb hc).1
       rw [e,(Yb hc).2,Kq] at this; cases this
   have n2:rO l' id=none:=by
    cases hc:rO l' id with
    | none=>rfl
    | some c=>
     have:=pl'.1 c (Yb hc).1
     rw [e,(Yb hc).2,Kq] at this; cases this
   rw [n1,n2]
  ·have:=h id
   rw [Xc,Xc,if_neg e,if_neg e] at this; exact this
def jR:Option qa→Option qa→Option qa
 | some x,some y=>some (rJ x y)
 | some x,none=>some x
 | none,y=>y
def qm7 (a b c:List qa):Prop:=YP c∧∀ id,rO c id=jR (rO a id) (rO b id)
theorem qOg {a b c d:List qa} (h:qm7 a b c) (h':qm7 a b d):c=d:=qKK h.1 h'.1 fun id=>(h.2 id).trans (h'.2 id).symm
theorem qQE {a b c:List qa} (ha:Y2 a) (hb:Y2 b) (h:qm7 a b c):Y2 c:=by
 refine ⟨h.1,fun r hr=>?_⟩
 have e:=h.2 r.ID
 rw [qQ1 h.1 hr] at e
 cases ea:rO a r.ID with
 | none=>
  rw [ea] at e
  have e:some r=rO b r.ID:=e
  exact hb.2 r (Yb e.symm).1
 | some x=>
  rw [ea] at e
  cases eb:rO b r.ID with
  | none=>
   rw [eb] at e
   obtain rfl:=Option.some.inj e
   exact ha.2 r (Yb ea).1
  | some y=>
   rw [eb] at e
   obtain rfl:=Option.some.inj e
   exact qBV (ha.2 x (Yb ea).1) (hb.2 y (Yb eb).1)
end Go.Rx
end
set_option maxRecDepth 100000
noncomputable section
namespace Go.Rx
open Go.Proofs
open Go.Lib (compareBytes)
section g
variable {α:Type}
theorem qJ4 {p q:List α} {x:α} {n:Nat} (h:(p++x::q).length=n):jy (p++x::q) n p.length=some x:=by
 unfold jy
 rw [if_pos h,List.getElem?_append_right (Nat.le_refl _),Nat.sub_self]; rfl
theorem qFr {x y:α} {q:List α}:∀ {p:List α},(p++x::q).set p.length y=p++y::q
 | []=>rfl
 | z::p=>by
  show z::(p++x::q).set p.length y=_
  rw [qFr]; rfl
end g
def K7 (rp:List (Vector UInt8 16)) (x:Vector UInt8 16) (q:List (Vector UInt8 16)):List (Vector UInt8 16):=match rp with
 | []=>x::q
 | y::r=>if lbB x y=true then K7 r x (y::q) else (y::r).reverse++x::q
def Q6 (l:List (Vector UInt8 16)):List (Vector UInt8 16):=l.foldl (fun p x=>K7 p.reverse x []) []
theorem qxV {x:Vector UInt8 16}:∀ {rp q:List (Vector UInt8 16)},(K7 rp x q).Perm (x::(rp++q))
 | [],q=>List.Perm.refl _
 | y::r,q=>by
  unfold K7
  split
  ·exact qxV.trans (List.Perm.cons _ List.perm_middle)
  ·exact List.perm_middle.trans (List.Perm.cons _ ((List.reverse_perm _).append_right _))
theorem qG7 {x:Vector UInt8 16} {s:List (Vector UInt8 16)}:∀ {rp q:List (Vector UInt8 16)},K7 rp x (q++s)=K7 rp x q++s
 | [],q=>rfl
 | y::r,q=>by
  unfold K7
  split
  ·exact qG7 (q:=y::q)
  ·rw [List.append_assoc]; rfl
abbrev qmK (l:List (Vector UInt8 16)):Prop:=l.Pairwise fun a b=>lbB a b=true
theorem qAV {x:Vector UInt8 16}:∀ {rp q:List (Vector UInt8 16)},qmK (rp.reverse++q)→(∀ y∈q,lbB x y=true)→x∉rp→qmK (K7 rp x q)
 | [],q,h,hq,_=>List.pairwise_cons.2 ⟨hq,h⟩
 | y::r,q,h,hq,hx=>by
  rw [List.mem_cons,not_or] at hx
  unfold K7
  split
  ·rename_i hlt
   refine qAV (rp:=r) (q:=y::q) ?_ (fun z hz=>?_) hx.2
   ·rw [List.reverse_cons,List.append_assoc] at h; exact h
   ·rcases List.mem_cons.1 hz with rfl | hz
    ·exact hlt
    ·exact hq z hz
  ·rename_i hlt
   have hyx:lbB y x=true:=by
    rcases qL1 x y with h1 | h1 | h1
    ·exact (hlt h1.1).elim
    ·exact (hx.1 h1).elim
    ·exact h1.1
   obtain ⟨h1,h2,h3⟩:=List.pairwise_append.1 h
   refine List.pairwise_append.2 ⟨h1,List.pairwise_cons.2 ⟨hq,h2⟩,fun a ha b hb=>?_⟩
   have hay:lbB a x=true:=by
    rw [List.reverse_cons,List.mem_append,List.mem_singleton] at ha
    rcases ha with ha | rfl
    ·rw [List.reverse_cons] at h1
     exact qhA ((List.pairwise_append.1 h1).2.2 a ha y (List.mem_singleton.2 rfl)) hyx
    ·exact hyx
   rcases List.mem_cons.1 hb with rfl | hb
   ·exact hay
   ·exact h3 a ha b hb
theorem qG6:∀ {l p:List (Vector UInt8 16)},qmK p→(p++l).Nodup→qmK (l.foldl (fun p x=>K7 p.reverse x []) p)∧(l.foldl (fun p x=>K7 p.reverse x []) p).Perm (p++l)
 | [],p,h,_=>⟨h,by rw [List.append_nil]; exact List.Perm.refl _⟩
 | x::l,p,h,hn=>by
  have hp:(K7 p.reverse x []).Perm (x::p):=qxV.trans (List.Perm.cons _ (by rw [List.append_nil]; exact List.reverse_perm _))
  have hx:x∉p:=fun hx=>by
   have:=(List.nodup_append.1 hn).2.2 x hx x (List.mem_cons_self ..)
   exact this rfl
  have hs:qmK (K7 p.reverse x []):=qAV (by rw [List.reverse_reverse,List.append_nil]; exact h) (fun y hy=>absurd hy (List.not_mem_nil)) (by rw [List.mem_reverse]; exact hx)
  have hpl:(K7 p.reverse x []++l).Perm (p++x::l):=(hp.append_right l).trans List.perm_middle.symm
  obtain ⟨h1,h2⟩:=qG6 (l:=l) hs (hpl.nodup_iff.2 hn)
  exact ⟨h1,h2.trans hpl⟩
theorem qSa {l:List (Vector UInt8 16)} (h:l.Nodup):qmK (Q6 l)∧(Q6 l).Perm l:=by
 have:=qG6 (l:=l) (p:=[]) List.Pairwise.nil (by simpa using h)
 rw [List.nil_append] at this
 exact this
section
variable {N:Nat} [Jj N]
theorem qTn (a b:Vector UInt8 16):∃ n:Int,qnn a b=some n∧decide (n < 0)=lbB a b:=by
 refine ⟨compareBytes a.toList b.toList,rfl,?_⟩
 rw [qzA]; rfl
theorem qMs {s2 s8 : Int} : ∀ (rp : List (Vector UInt8 16)) (x : Vector UInt8 16) (q : List (Vector UInt8 16)) (n m : Nat), (rp.reverse ++ x :: q).length = n → n ≤ 1000 → rp.length < m →
    ∃ j b,qQ (jH N n 0 s2 s8) some m (rp.reverse++x::q,(rp.length:Int))=some (K7 rp x q,j,b)
 | _,_,_,_,0,_,_,hm=>by omega
 | [],x,q,n,m + 1,hn,hs,hm=>by
  refine ⟨((0:Nat):Int),false,?_⟩
  rw [zu (x:=(([]:List (Vector UInt8 16)).reverse++x::q,((0:Nat):Int),false)) (by unfold jH; exact w_f rfl (qA rfl)) m]
  rfl
 | y::r,x,q,n,m + 1,hn,hs,hm=>by
  have hl:(y::r).reverse.length=r.length + 1:=by simp
  have e0:(y::r).reverse++x::q=r.reverse++y::(x::q):=by rw [List.reverse_cons,List.append_assoc]; rfl
  have hrl:r.reverse.length=r.length:=List.length_reverse
  have hnl:r.length + 1 < n:=by rw [← hn,List.length_append,hl,List.length_cons]; omega
  obtain ⟨c,hc,hlt⟩:=qTn x y
  have c0:(0:Int)≤((r.length + 1:Nat):Int)∧((r.length + 1:Nat):Int) < ((n:Nat):Int):=by omega
  have c1:qp (((r.length + 1:Nat):Int) - 1):=by unfold qp; omega
  have c2:(0:Int)≤((r.length + 1:Nat):Int) - 1∧((r.length + 1:Nat):Int) - 1 < ((n:Nat):Int):=by omega
  have g1:jy ((y::r).reverse++x::q) n (((r.length + 1:Nat):Int)).toNat=some x:=by
   have:=qJ4 (p:=(y::r).reverse) (x:=x) (q:=q) hn
   rw [hl] at this; exact this
  have t1:(((r.length + 1:Nat):Int) - 1).toNat=r.length:=by omega
  have g2:jy ((y::r).reverse++x::q) n (((r.length + 1:Nat):Int) - 1).toNat=some y:=by
   rw [t1,e0]
   have:=qJ4 (p:=r.reverse) (x:=y) (q:=x::q) (n:=n) (by rw [← e0]; exact hn)
   rw [hrl] at this; exact this
  cases hb:lbB x y with
  | false=>
   refine ⟨((r.length + 1:Nat):Int),decide (c < 0),?_⟩
   rw [zu (x:=((y::r).reverse++x::q,((r.length + 1:Nat):Int),decide (c < 0))) (by
    unfold jH
    exact w_t (decide_eq_true (by show (0:Int) < ((r.length + 1:Nat):Int); omega)) (qF c0 (ql g1 (qF c1 (qF c2 (ql g2 (ql hc (w_f (hlt.trans hb) (qA rfl)))))))) ) m]
   unfold K7
   rw [if_neg (by rw [hb]; simp)]
  | true=>
   obtain ⟨j,b,h⟩:=qMs r x (y::q) n m (by rw [← hn,e0]; simp) hs (by simp at hm; omega)
   refine ⟨j,b,?_⟩
   have s1:((y::r).reverse++x::q).set (((r.length + 1:Nat):Int)).toNat y=(y::r).reverse++y::q:=by
    have:=qFr (p:=(y::r).reverse) (x:=x) (y:=y) (q:=q)
    rw [hl] at this; exact this
   have s2:((y::r).reverse++y::q).set (((r.length + 1:Nat):Int) - 1).toNat x=r.reverse++x::(y::q):=by
    rw [t1,show (y::r).reverse++y::q=r.reverse++y::(y::q) by rw [List.reverse_cons,List.append_assoc]; rfl]
    have:=qFr (p:=r.reverse) (x:=y) (y:=x) (q:=y::q)
    rw [hrl] at this; exact this
   have v1:qkc ((y::r).reverse++x::q).length n (((r.length + 1:Nat):Int)).toNat:=⟨hn,by omega⟩
   have v2:qkc (((y::r).reverse++x::q).set (((r.length + 1:Nat):Int)).toNat y).length n (((r.length + 1:Nat):Int) - 1).toNat:=⟨by rw [List.length_set]; exact hn,by omega⟩
   rw [Zt (v':=(r.reverse++x::(y::q),(r.length:Int))) (by
    unfold jH
    refine w_t (decide_eq_true (by show (0:Int) < ((r.length + 1:Nat):Int); omega)) (qF c0 (ql g1 (qF c1 (qF c2 (ql g2 (ql hc (w_t (hlt.trans hb) (qF c1 (qF c1 (qF c2 (ql g2 (qF c0 (ql g1 (qF c0 (qF v1 (qF c2 (qF v2 (qF c1 (qA ?_)))))))))))))))))))
    show some (Sum.inl ((((y::r).reverse++x::q).set (((r.length + 1:Nat):Int)).toNat y).set (((r.length + 1:Nat):Int) - 1).toNat x,((r.length + 1:Nat):Int) - 1))=_
    rw [s1,s2,show ((r.length + 1:Nat):Int) - 1=(r.length:Int) by omega]) m]
   unfold K7
   rw [if_pos hb]
   exact h
theorem qOB {l:List (Vector UInt8 16)} (hs:l.length≤1000) (h0:l≠[]):jg N l 0 (l.length:Int)=some (Q6 l):=by
 have hN:=big N
 have hpos:0 < l.length:=List.length_pos_iff.2 h0
 have key:vJ N l.length 0 (l.length:Int) l 1=some (Q6 l,(l.length:Int),false):=by
  have h:=qjL (B:=zS N l.length 0 (l.length:Int)) (g:=some) (I:=fun v=>∃ k:Nat,1≤k∧k≤l.length∧v=(Q6 (l.take k)++l.drop k,(k:Int))) (Q:=fun y=>y=(Q6 l,(l.length:Int),false)) (fun v=>l.length - v.2.toNat) ?_ N (l,((1:Nat):Int))
   ⟨1,Nat.le_refl _,hpos,by
    cases l with
    | nil=>exact (h0 rfl).elim
    | cons x r=>rfl⟩ (by simp; omega)
  ·obtain ⟨y,e,rfl⟩:=h
   exact e
  rintro v ⟨k,h1,hk,rfl⟩
  have hlen:∀ j,j≤l.length→(Q6 (l.take j)).length=j:=by
   intro j hj
   have:∀ (m p:List (Vector UInt8 16)),(m.foldl (fun p x=>K7 p.reverse x []) p).length=p.length + m.length:=by
    intro m
    induction m with
    | nil=>intro p; rfl
    | cons x m ih=>
     intro p
     rw [List.foldl_cons,ih,qxV.length_eq]
     simp; omega
   unfold Q6
   rw [this]; simp; omega
  by_cases h:k < l.length
  ·left
   have ed:l.drop k=l.getD k (Vector.replicate 16 0)::l.drop (k + 1):=by
    rw [List.drop_eq_getElem_cons h,List.getD_eq_getElem?_getD,List.getElem?_eq_getElem h]; rfl
   have et:Q6 (l.take (k + 1))=K7 (Q6 (l.take k)).reverse (l.getD k (Vector.replicate 16 0)) []:=by
    unfold Q6
    rw [List.take_succ_eq_append_getElem h,List.foldl_append,List.getD_eq_getElem?_getD,List.getElem?_eq_getElem h]; rfl
   have hll:(Q6 (l.take k)).reverse.length=k:=by rw [List.length_reverse,hlen k hk]
   obtain ⟨j,b,e⟩:=qMs (N:=N) (s2:=(l.length:Int)) (s8:=(k:Int)) (Q6 (l.take k)).reverse (l.getD k (Vector.replicate 16 0)) (l.drop (k + 1)) l.length N (by
    rw [List.reverse_reverse,← ed,List.length_append,hlen k hk,List.length_drop]; omega) hs (by omega)
   rw [List.reverse_reverse,← ed,hll] at e
   have er:K7 (Q6 (l.take k)).reverse (l.getD k (Vector.replicate 16 0)) (l.drop (k + 1))=Q6 (l.take (k + 1))++l.drop (k + 1):=by
    rw [et,← qG7]; rfl
   rw [er] at e
   refine ⟨(Q6 (l.take (k + 1))++l.drop (k + 1),((k + 1:Nat):Int)),?_,⟨k + 1,by omega,h,rfl⟩,by simp only [Int.toNat_natCast]; omega⟩
   unfold zS
   exact w_t (dec_lt h) (ql e (qF (zB (by omega)) (qA (by rw [qT]))))
  ·right
   obtain rfl:k=l.length:=by omega
   refine ⟨(Q6 l,(l.length:Int),false),_,?_,rfl,rfl⟩
   unfold zS
   refine w_f (zi (Nat.lt_irrefl _)) (qA ?_)
   dsimp only
   rw [zi (Nat.lt_irrefl _),List.take_of_length_le (Nat.le_refl _),List.drop_of_length_le (Nat.le_refl _),List.append_nil]
 unfold jg vU
 exact qF (by unfold qp; omega) (ql key (qA rfl))
theorem qLt:jg N [] 0 ((([]:List (Vector UInt8 16)).length:Nat):Int)=some []:=by
 have key:vJ N 0 0 ((0:Nat):Int) [] 1=some ([],1,false):=by
  obtain ⟨M,hM⟩:∃ M,N=M + 1:=⟨N - 1,by have:=big N; omega⟩
  show qQ (zS N 0 0 ((0:Nat):Int)) some N ([],1)=_
  have:∀ K,K=M + 1→qQ (zS N 0 0 ((0:Nat):Int)) some K ([],1)=some ([],1,false):=by
   rintro K rfl
   rw [zu (x:=([],1,false)) (by unfold zS; exact w_f rfl (qA rfl))]
  exact this N hM
 unfold jg vU
 exact qF (by unfold qp; omega) (ql key (qA rfl))
theorem qU_ {l:List (Vector UInt8 16)} (h:l.length≤12):Ke N l=some (Q6 l):=by
 have e1:jg N l 0 ((l.length:Nat):Int)=some (Q6 l):=by
  cases l with
  | nil=>exact qLt
  | cons x r=>exact qOB (by omega) (by simp)
 have e2:∀ z:Int,J8 N l 0 ((l.length:Nat):Int) z=some (Q6 l):=fun z=>by
  have key:XP N l 0 ((l.length:Nat):Int) z=some (Q6 l):=by
   obtain ⟨M,hM⟩:∃ M,N=M + 1:=⟨N - 1,by have:=big N; omega⟩
   show qQ (QR N l 0 ((l.length:Nat):Int) z) some N ()=_
   have:∀ K,K=M + 1→qQ (QR N l 0 ((l.length:Nat):Int) z) some K ()=some (Q6 l):=by
    rintro K rfl
    rw [zu (x:=Q6 l) (by unfold QR; exact qF (by unfold qp; omega) (w_t (decide_eq_true (by omega)) (ql ((zl rfl).trans e1) (qA rfl))))]
   exact this N hM
  unfold J8 Wy
  exact ql ((zl rfl).trans key) (qA rfl)
 have e3:∃ z,qgn (IntKind.u64.wrap ((l.length:Nat):Int))=some z:=by
  rw [qSq (by omega)]
  have:∀ k,k≤12→(qgn ((k:Nat):Int)).isSome=true:=by decide +kernel
  exact Option.isSome_iff_exists.1 (this _ h)
 obtain ⟨z,e3⟩:=e3
 unfold Ke qaP
 exact ql e3 (ql ((zl rfl).trans (e2 z)) (qA rfl))
end
end Go.Rx
end
set_option maxRecDepth 100000
noncomputable section
namespace Go.Rx
open Go.Proofs
open Go.Lib (compareBytes)
section
variable {N:Nat} [Jj N]
theorem quD (a b:Vector UInt8 32):qjZ a b=some (ltD a b):=by
 unfold qjZ quM ltD
 rw [qL,eqD]
 by_cases h:a=b
 ·subst h; rw [decide_eq_true rfl,qep]; rfl
 ·rw [decide_eq_false h]; rfl
end
end Go.Rx
end
set_option maxRecDepth 100000
noncomputable section
namespace Go.Rx
open Go.Proofs
open Go.Lib (compareBytes)
section
variable {N:Nat} [Jj N]
theorem qRK {x y : Bool} {p : Prop} (h : (x = true ∧ y = false) ∨ p ∨ (y = true ∧ x = false)) (hp : p → x = false ∧ y = false) :
    ∃ n:Int,(Tree.cond x (.ret (-1:Int)) (.cond y (.ret 1) (.ret 0))).run some=some n∧(decide (n=0)=true↔p)∧(¬ p→decide (n < 0)=x):=by
 rcases h with ⟨h1,h2⟩ | h1 | ⟨h1,h2⟩
 ·subst h1; subst h2
  exact ⟨-1,rfl,⟨fun h=>by simp at h,fun h=>by have:=(hp h).1; simp at this⟩,fun _=>rfl⟩
 ·obtain ⟨h2,h3⟩:=hp h1
  subst h2; subst h3
  exact ⟨0,rfl,⟨fun _=>h1,fun _=>rfl⟩,fun h=>(h h1).elim⟩
 ·subst h1; subst h2
  exact ⟨1,rfl,⟨fun h=>by simp at h,fun h=>by have:=(hp h).2; simp at this⟩,fun _=>rfl⟩
theorem qQq (a b:qc):∃ n:Int,qa_ N a b=some n∧(decide (n=0)=true↔a=b)∧(a≠b→decide (n < 0)=slB a b):=by
 obtain ⟨n,h1,h2,h3⟩:=qRK (qy9 a b) fun h=>by subst h; exact ⟨YS a,YS a⟩
 refine ⟨n,?_,h2,h3⟩
 unfold qa_ qd7
 rw [run_bind,W5,Option.bind_some,← h1,qL,qL,run_bind,W5,Option.bind_some]
theorem qPO (a b:Vector UInt8 32):∃ n:Int,K0 a b=some n∧(decide (n=0)=true↔a=b)∧(a≠b→decide (n < 0)=ltD a b):=by
 have ht:(ltD a b=true∧ltD b a=false)∨a=b∨(ltD b a=true∧ltD a b=false):=by
  rcases qzu a.toList b.toList with h | h | h
  ·exact .inl h
  ·exact .inr (.inl (Vector.toList_inj.1 h))
  ·exact .inr (.inr h)
 obtain ⟨n,h1,h2,h3⟩:=qRK ht fun h=>by subst h; exact ⟨qep _,qep _⟩
 refine ⟨n,?_,h2,h3⟩
 unfold K0 qcB
 rw [run_bind,quD,Option.bind_some,← h1,qL,qL,run_bind,quD,Option.bind_some]
theorem qUU (a b:List UInt8):∃ n:Int,YW a b=some n∧(decide (n=0)=true↔a=b)∧(a≠b→decide (n < 0)=ltB a b):=by
 have e:∀ x:List UInt8,qbi x=some ():=fun x=>rfl
 have g:(!(Op.bytesLess a b||decide (a=b)))=ltB b a:=by
  rw [qD4]
  rcases qzu a b with h | h | h
  ·rw [h.1,h.2]; rfl
  ·subst h; rw [decide_eq_true rfl,qep]; rfl
  ·have:a≠b:=fun e=>by subst e; rw [qep] at h; simp at h
   rw [h.1,h.2,decide_eq_false this]; rfl
 obtain ⟨n,h1,h2,h3⟩:=qRK (qzu a b) fun h=>by subst h; exact ⟨qep _,qep _⟩
 refine ⟨n,?_,h2,h3⟩
 unfold YW qbp
 refine ql (e a) (ql (e b) (w_f (by rw [decide_eq_true rfl]; rfl) (w_f (by rw [decide_eq_true rfl]; rfl) ?_)))
 rw [← h1,qL,qL,qL,qL,qD4 a b,← g,qD4 a b]
theorem qRf {a b:qe} (ha:a.V.length≤50000) (hb:b.V.length≤50000):qpg N a b=some (qcN a b):=by
 obtain ⟨n1,e1,z1,l1⟩:=qQq (N:=N) a.S b.S
 obtain ⟨n2,e2,z2,l2⟩:=qPO (VE a.V) (VE b.V)
 obtain ⟨n3,e3,z3,l3⟩:=qUU a.V b.V
 have f1:qke N a b=some n1:=by unfold qke qk7; exact ql e1 (qA rfl)
 have f2:qj9 N a b=some n2:=by unfold qj9 qlb; exact ql (qBY ha) (ql (qBY hb) (ql e2 (qA rfl)))
 have f3:qj6 a b=some n3:=by unfold qj6 qlt; exact ql e3 (qA rfl)
 have key:∃ M,N=M + 1:=⟨N - 1,by have:=big N; omega⟩
 obtain ⟨M,hM⟩:=key
 have z:∀ {n:Int} {p:Prop},(decide (n=0)=true↔p)→p→(!decide (n=0))=false:=fun h hp=>by rw [h.2 hp]; rfl
 have nz:∀ {n:Int} {p:Prop},(decide (n=0)=true↔p)→¬ p→(!decide (n=0))=true:=fun {n} {p} h hp=>by
  cases e:decide (n=0) with
  | false=>rfl
  | true=>exact (hp (h.1 e)).elim
 have hl:qiQ N a b=some (if a.S=b.S∧VE a.V=VE b.V∧a.V=b.V then .inr () else .inl (qcN a b)):=by
  have s1:qiQ N a b=qQ (qed N a b) (qjB N N (a,b)) (M + 1) ():=by rw [← hM]; rfl
  rw [s1]
  by_cases h1:a.S=b.S
  ·rw [zu (x:=.inl ()) (by unfold qed; exact qF (by omega) (ql f1 (w_f (z z1 h1) (qA rfl))))]
   show qQ (Vy N a b) (WE N N (a,b)) N ()=_
   rw [show qQ (Vy N a b) (WE N N (a,b)) N ()=qQ (Vy N a b) (WE N N (a,b)) (M + 1) () by rw [← hM]]
   by_cases h2:VE a.V=VE b.V
   ·rw [zu (x:=.inl ()) (by unfold Vy; exact qF (by omega) (ql f2 (w_f (z z2 h2) (qA rfl))))]
    show qQ (Vo N a b) (WL N N (a,b)) N ()=_
    rw [show qQ (Vo N a b) (WL N N (a,b)) N ()=qQ (Vo N a b) (WL N N (a,b)) (M + 1) () by rw [← hM]]
    by_cases h3:a.V=b.V
    ·rw [zu (x:=.inl ()) (by unfold Vo; exact qF (by omega) (ql f3 (w_f (z z3 h3) (qA rfl))))]
     show qQ (WR N a b) some N ()=_
     rw [show qQ (WR N a b) some N ()=qQ (WR N a b) some (M + 1) () by rw [← hM]]
     rw [zu (x:=.inr ()) (by unfold WR; exact qA rfl),if_pos ⟨h1,h2,h3⟩]
    ·rw [zu (x:=.inr (.inl (decide (n3 < 0)))) (by unfold Vo; exact qF (by omega) (ql f3 (w_t (nz z3 h3) (qA rfl)))),if_neg (fun h=>h3 h.2.2)]
     show some (Sum.inl (decide (n3 < 0)))=_
     rw [l3 h3]
     unfold qcN
     rw [if_pos h1,if_pos h2]
   ·rw [zu (x:=.inr (.inl (decide (n2 < 0)))) (by unfold Vy; exact qF (by omega) (ql f2 (w_t (nz z2 h2) (qA rfl)))),if_neg (fun h=>h2 h.2.1)]
    show some (Sum.inl (decide (n2 < 0)))=_
    rw [l2 h2]
    unfold qcN
    rw [if_pos h1,if_neg h2]
  ·rw [zu (x:=.inr (.inl (decide (n1 < 0)))) (by unfold qed; exact qF (by omega) (ql f1 (w_t (nz z1 h1) (qA rfl)))),if_neg (fun h=>h1 h.1)]
   show some (Sum.inl (decide (n1 < 0)))=_
   rw [l1 h1]
   unfold qcN
   rw [if_neg h1]
 unfold qpg qqf
 refine ql hl ?_
 by_cases h:a.S=b.S∧VE a.V=VE b.V∧a.V=b.V
 ·rw [if_pos h]
  show some false=_
  unfold qcN
  rw [if_pos h.1,if_pos h.2.1,h.2.2,qep]
 ·rw [if_neg h]; rfl
theorem qWz {a b:qe} (ha:a.V.length≤50000) (hb:b.V.length≤50000):qoY N a b=some (cJ a b):=by
 unfold qoY qqi cJ
 refine ql (qRf ha hb) ?_
 cases qcN a b<;>rfl
theorem qWu (a b:qc):qoM N a b=some (mxS a b):=by
 unfold qoM qqj mxS
 refine ql (W5 _ _) ?_
 cases slB a b<;>rfl
end
end Go.Rx
end
set_option maxRecDepth 100000
noncomputable section
namespace Go.Rx
open Go.Proofs
section
variable {N:Nat} [Jj N]
theorem qUx {l : List qd} (h8 : l.length ≤ 600) (hV : ∀ k, k < l.length → (l.getD k zF).C.V.length ≤ 200) {c : Nat} {M : List (Int × qe × Nat)} {g : Int → Option qe} (hM : ∀ no, qd_ no M = g no) (hg : qmH g) :
    ∃ c' M',qcg N l ((l.length:Nat):Int) c M 0=some (c',M',((l.length:Nat):Int),false)∧(∀ no,qd_ no M'=l.foldl Y3 g no)∧qmH (l.foldl Y3 g):=by
 have key:∃ y,qQ (Jp N l ((l.length:Nat):Int)) some N (c,M,((0:Nat):Int))=some y∧∃ c' M',y=(c',M',((l.length:Nat):Int),false)∧(∀ no,qd_ no M'=l.foldl Y3 g no)∧qmH (l.foldl Y3 g):=by
  refine qjL (I:=fun v=>∃ (k c':Nat) (M':List (Int×qe×Nat)),k≤l.length∧v=(c',M',(k:Int))∧(∀ no,qd_ no M'=(l.take k).foldl Y3 g no)∧qmH ((l.take k).foldl Y3 g)) (fun v=>l.length - v.2.2.toNat) ?_ N _ ⟨0,c,M,Nat.zero_le _,rfl,hM,hg⟩ (by have:=big N; simp; omega)
  rintro v ⟨k,c',M',hk,rfl,hi,hs⟩
  by_cases h:k < l.length
  ·left
   have et:(l.take (k + 1)).foldl Y3 g=Y3 ((l.take k).foldl Y3 g) (l.getD k zF):=by
    rw [List.take_succ_eq_append_getElem h,List.foldl_append,List.getD_eq_getElem?_getD,List.getElem?_eq_getElem h]; rfl
   have hs':qmH ((l.take (k + 1)).foldl Y3 g):=by rw [et]; exact qNN hs (hV k h)
   have hno:=hi (l.getD k zF).No
   unfold qd_ at hno
   cases e:fnd (β:=qe) (.i .i64) (l.getD k zF).No M' with
   | none=>
    rw [e] at hno
    refine ⟨((J2 (.i .i64) (qd.No (l.getD k zF)) (qd.C (l.getD k zF)) c' M').1,(J2 (.i .i64) (qd.No (l.getD k zF)) (qd.C (l.getD k zF)) c' M').2,((k + 1:Nat):Int)),?_,⟨k + 1,_,_,h,rfl,?_,hs'⟩,by simp only [Int.toNat_natCast]; omega⟩
    ·unfold Jp
     exact w_t (dec_lt h) (ql (zo (d:=zF) h) (qKi e (qF (zB (by omega)) (qA (by rw [qT])))))
    ·intro no
     rw [qJO,et,qKg]
     by_cases hq:no=(l.getD k zF).No
     ·rw [if_pos hq,if_pos hq.symm,hq,← hno]; rfl
     ·rw [if_neg hq,if_neg (fun e=>hq e.symm),hi no]
   | some x=>
    rw [e] at hno
    have hx:x.1.V.length≤200:=hs _ _ hno.symm
    refine ⟨((J2 (.i .i64) (qd.No (l.getD k zF)) (cJ x.1 (qd.C (l.getD k zF))) c' M').1,(J2 (.i .i64) (qd.No (l.getD k zF)) (cJ x.1 (qd.C (l.getD k zF))) c' M').2,((k + 1:Nat):Int)),?_,⟨k + 1,_,_,h,rfl,?_,hs'⟩,by simp only [Int.toNat_natCast]; omega⟩
    ·unfold Jp
     exact w_t (dec_lt h) (ql (zo (d:=zF) h) (qEf e (ql (qWz (by omega) (by have:(l.getD k zF).C.V.length≤200:=hV k h; omega)) (qF (zB (by omega)) (qA (by rw [qT]))))))
    ·intro no
     rw [qJO,et,qKg]
     by_cases hq:no=(l.getD k zF).No
     ·rw [if_pos hq,if_pos hq.symm,hq,← hno]; rfl
     ·rw [if_neg hq,if_neg (fun e=>hq e.symm),hi no]
  ·right
   obtain rfl:k=l.length:=by omega
   refine ⟨(c',M',((l.length:Nat):Int),false),_,?_,rfl,c',M',rfl,?_⟩
   ·unfold Jp
    exact w_f (zi (Nat.lt_irrefl _)) (qA (by rw [zi (Nat.lt_irrefl _)]))
   ·rw [List.take_of_length_le (Nat.le_refl _)] at hi hs
    exact ⟨hi,hs⟩
 obtain ⟨y,e,c',M',rfl,h⟩:=key
 exact ⟨c',M',e,h⟩
theorem qMK {r : qa} (hr : vg r = true) {c : Nat} {M : List (Int × qe × Nat)} {g : Int → Option qe} (hM : ∀ no, qd_ no M = g no) (hg : qmH g) :
    ∃ c' M',Yg N c M r=some (c',M')∧(∀ no,qd_ no M'=jC (g no) (cO r.F no))∧qmH (r.F.foldl Y3 g):=by
 have h8:=YV hr
 obtain ⟨c',M',e,h,hs⟩:=qUx (N:=N) (l:=r.F) (by omega) (fun k hk=>qup (Km.1 ((qbz.1 hr).2.2 k hk)).2.2.1) (c:=c) hM hg
 refine ⟨c',M',?_,fun no=>?_,hs⟩
 ·unfold Yg qdm
  exact ql e (qA rfl)
 ·rw [h,qFj (qIj hr)]
theorem qQX {o : List qd} {c : Nat} {M : List (Int × qe × Nat)} {o5 : Vector UInt8 16} {o6 : qc} {o7 : Vector UInt8 16} {o8 dead : qc} :
    XT N o [] c M o5 o6 o7 o8 dead=some (VA (fun no=>qd_ no M) dead 8 0):=by
 have key:Yo N o c M o5 o6 o7 o8 dead [] 0=some (zY (fun k s=>s++qcX dead k (qd_ (k:Int) M)) 8 0 [],(8:Int),false):=by
  refine jd (σ:=List qd) (B:=Je N o c M o5 o6 o7 o8 dead) (g:=some) (at_:=fun k s=>(s,(k:Int))) (I:=fun k s=>s.length≤k) (f:=fun k s=>s++qcX dead k (qd_ (k:Int) M)) (n:=8)
   (fin:=fun s=>(s,(8:Int),false)) (fun k s hk hs=>⟨?_,?_⟩) (fun s _=>?_) N 0 [] (Nat.le_refl _) (Nat.zero_le _) (by have:=big N; omega)
  ·have d8:decide ((k:Int) < 8)=true:=decide_eq_true (by omega)
   unfold Je
   refine w_t d8 ?_
   unfold qd_
   cases e:fnd (β:=qe) (.i .i64) (k:Int) M with
   | none=>exact qKi rfl (qF (zB (by omega)) (qA (by rw [qT]; show _=some (Sum.inl (s++[],_)); rw [List.append_nil])))
   | some x=>
    refine qEf rfl (ql (W5 _ _) ?_)
    have hk2:qcX dead k (Option.map (fun x=>x.1) (some x))=if slB dead x.1.S=true then [qd.mk (k:Int) x.1] else []:=rfl
    rw [hk2]
    cases hb:slB dead (qe.S x.1) with
    | false=>
     rw [if_neg (by simp),List.append_nil]
     exact w_f rfl (qF (zB (by omega)) (qA (by rw [qT])))
    | true=>
     rw [if_pos rfl]
     have er:qa0 o s c M o5 o6 o7 o8 dead (qd.mk (k:Int) x.1)=some ():=by
      unfold qa0 qdy
      exact qF ⟨rfl,by rw [List.length_append]; unfold zh; simp; omega⟩ (qA rfl)
     exact w_t rfl (ql ((zl rfl).trans ((zl rfl).trans er)) (qF (zB (by omega)) (qA (by rw [qT]))))
  ·have:=qy5 (dead:=dead) (k:=k) (c:=qd_ (k:Int) M)
   rw [List.length_append]; omega
  ·unfold Je
   exact w_f rfl (qA rfl)
 unfold XT YJ
 refine ql ((zl rfl).trans ((zl rfl).trans key)) (qA ?_)
 rw [qnO (g:=fun no=>qd_ no M),List.nil_append]
theorem qWA {a b:qa} (ha:vg a=true) (hb:vg b=true) (hid:a.ID=b.ID):qti N a b=some (rJ a b,true):=by
 have hN:=big N
 have h8a:=YV ha
 have h8b:=YV hb
 obtain ⟨c1,M1,e1,h1,s1⟩:=qMK (N:=N) ha (c:=0) (M:=[]) (g:=fun _=>none) (fun no=>rfl) (fun no c h=>by cases h)
 obtain ⟨c2,M2,e2,h2,_⟩:=qMK (N:=N) hb (c:=c1) (M:=M1) (g:=fun no=>cO a.F no) (fun no=>by rw [h1]; rfl) (by
  have:(a.F.foldl Y3 fun _=>none)=fun no=>cO a.F no:=by funext no; rw [qFj (qIj ha)]; rfl
  rw [← this]; exact s1)
 have ef:=qQX (N:=N) (o:=[]) (c:=c2) (M:=M2) (o5:=Vector.replicate 16 0) (o6:=qc.mk 0 0) (o7:=a.ID) (o8:=mxS a.qz b.qz) (dead:=mxS a.qz b.qz)
 have eg:(fun no=>qd_ no M2)=fun no=>jC (cO a.F no) (cO b.F no):=funext h2
 rw [eg] at ef
 unfold qti qtn
 exact ql (qzk (by omega) (by omega)) (w_f (by rw [ha]; rfl) (ql (qzk (by omega) (by omega)) (w_f (by rw [hb]; rfl) (w_f (by rw [qs8]; show (!decide (a.ID=b.ID))=false; rw [decide_eq_true hid]; rfl)
  (ql e1 (ql e2 (ql (qWu _ _) (ql rfl (ql ((zl rfl).trans ((zl rfl).trans ef)) (qF rfl (qA rfl)))))))))))
end
end Go.Rx
end
set_option maxRecDepth 100000
noncomputable section
namespace Go.Rx
open Go.Proofs
section n
variable {N:Nat} [Jj N]
theorem qQK {l:List qd} (h:l.length≤1000000):Zy l=some ():=by
 unfold Zy
 cases l with
 | nil=>kernel_rfl
 | cons x r=>
  show qdi (x::r)=_
  unfold qdi qaR
  have h2:zU ([]:List qd).length 0 ([]++x::r).length 40:=⟨rfl,by rw [List.nil_append]; unfold zh; omega⟩
  rw [qS,qi (List.isEmpty_cons),qS,qi h2,qS,qi rfl,zc]
end n
end Go.Rx
end
set_option maxRecDepth 100000
noncomputable section
namespace Go.Rx
open Go.Proofs
theorem qCr {α:Type} {d:α} {l:List α} {k:Nat} (h:k < l.length):l.take (k + 1)=l.take k++[l.getD k d]:=by
 rw [List.take_succ_eq_append_getElem h,List.getD_eq_getElem?_getD,List.getElem?_eq_getElem h]; rfl
def qh1 (g:Vector UInt8 16→Option qa) (r:qa) (id:Vector UInt8 16):Option qa:=if r.ID=id then jR (g id) (some r) else g id
theorem qjN {g:Vector UInt8 16→Option qa} {r:qa} {id:Vector UInt8 16}:qh1 g r id=if r.ID=id then jR (g id) (some r) else g id:=rfl
theorem qMc {x:Option qa}:jR x none=x:=by cases x<;>rfl
theorem qsE:∀ {l:List qa} {g:Vector UInt8 16→Option qa} {id:Vector UInt8 16},YP l→l.foldl qh1 g id=jR (g id) (rO l id)
 | [],g,id,_=>by rw [qDS,qMc]; rfl
 | r::l,g,id,h=>by
  have hp:=List.pairwise_cons.1 h
  rw [List.foldl_cons,qsE hp.2,Xc,qjN]
  by_cases e:r.ID=id
  ·rw [if_pos e,if_pos e]
   have:rO l id=none:=by
    cases hc:rO l id with
    | none=>rfl
    | some x=>
     have:=hp.1 x (Yb hc).1
     rw [e,(Yb hc).2,Kq] at this; cases this
   rw [this,qMc]
  ·rw [if_neg e,if_neg e]
def WZ (id:Vector UInt8 16) (M:List (Vector UInt8 16×qa×Nat)):Option qa:=(fnd (β:=qa) (.ba 16) id M).map (·.1)
theorem qJy {q k:Vector UInt8 16} {p:qa} {c:Nat} {M:List (Vector UInt8 16×qa×Nat)}:WZ q (J2 (β:=qa) (.ba 16) k p c M).2=if q=k then some p else WZ q M:=by
 have:=@qBU (El (.ba 16)) qa (Ww (.ba 16)) k q p c M
 rw [show WZ q (J2 (β:=qa) (.ba 16) k p c M).2=@qCu (El (.ba 16)) qa (Ww (.ba 16)) q (@qns (El (.ba 16)) qa (Ww (.ba 16)) k p c M).2 from rfl,this]
 by_cases h:q=k
 ·rw [if_pos h]; exact if_pos h
 ·rw [if_neg h]; exact if_neg h
structure qTu (l:List qa) (nm:List (Vector UInt8 16)) (M:List (Vector UInt8 16×qa×Nat)):Prop where
 nd:nm.Nodup
 val:∀ id,WZ id M=l.foldl qh1 (fun _=>none) id
 mem:∀ id,id∈nm↔WZ id M≠none
 ok:∀ id r,WZ id M=some r→vg r=true∧r.ID=id
 len:nm.length≤l.length
def qe7 (M:List (Vector UInt8 16×qa×Nat)) (l:List (Vector UInt8 16)):List qa:=l.map fun id=>(WZ id M).getD zR
theorem qQg {M:List (Vector UInt8 16×qa×Nat)} {id:Vector UInt8 16}:∀ {l:List (Vector UInt8 16)},(∀ i∈l,∃ r,WZ i M=some r∧r.ID=i)→rO (qe7 M l) id=if id∈l then WZ id M else none
 | [],_=>by rw [if_neg List.not_mem_nil]; rfl
 | i::l,h=>by
  obtain ⟨r,e,hr⟩:=h i (List.mem_cons_self ..)
  show rO ((WZ i M).getD zR::qe7 M l) id=_
  rw [e,Xc,qQg fun j hj=>h j (List.mem_cons_of_mem _ hj)]
  by_cases c:i=id
  ·subst c
   rw [if_pos (show (Option.getD (some r) zR).ID=i from hr),if_pos (List.mem_cons_self ..),e]; rfl
  ·rw [if_neg (show ¬ (Option.getD (some r) zR).ID=id from fun h'=>c (hr.symm.trans h'))]
   by_cases m:id∈l
   ·rw [if_pos m,if_pos (List.mem_cons_of_mem _ m)]
   ·rw [if_neg m,if_neg (fun hm=>by rcases List.mem_cons.1 hm with e' | e'; exact c e'.symm; exact m e')]
section
variable {N:Nat} [Jj N]
theorem qGy {α:Type} {l:List (List α)} {k:Nat} (h:k < l.length):(l.take (k + 1)).flatten=(l.take k).flatten++l.getD k []:=by
 rw [qCr (d:=[]) h,List.flatten_append]; simp
theorem qMh {α:Type} {l:List (List α)} {k:Nat}:(l.take k).flatten.length≤l.flatten.length:=by
 have:(l.take k).flatten++(l.drop k).flatten=l.flatten:=by rw [← List.flatten_append,List.take_append_drop]
 rw [← this,List.length_append]; omega
theorem qN4 {l:List (List qa)} (hl:l.length≤1000) (hf:l.flatten.length≤1000):K1 N l=some l.flatten:=by
 have hN:=big N
 have k1:qa3 N l l ((l.length:Nat):Int) 0 0=some (((l.flatten.length:Nat):Int),((l.length:Nat):Int),false):=by
  refine jd (σ:=Unit) (B:=Xu N l l ((l.length:Nat):Int)) (g:=some) (at_:=fun k _=>((((l.take k).flatten.length:Nat):Int),(k:Int))) (I:=fun _ _=>True) (f:=fun _ s=>s) (n:=l.length)
   (fin:=fun _=>(((l.flatten.length:Nat):Int),((l.length:Nat):Int),false)) (fun k s hk _=>⟨?_,trivial⟩) (fun s _=>?_) N 0 () trivial (Nat.zero_le _) (by omega)
  ·have e1:(((l.take k).flatten.length:Nat):Int) + (((l.getD k []).length:Nat):Int)=(((l.take (k + 1)).flatten.length:Nat):Int):=by rw [qGy hk,List.length_append]; omega
   have h2:=qMh (l:=l) (k:=k + 1)
   unfold Xu
   refine w_t (dec_lt hk) (ql (zo (d:=[]) hk) ?_)
   dsimp only
   rw [e1]
   exact qF (by unfold qp; omega) (w_f (decide_eq_false (by omega)) (qF (zB (by omega)) (qA (by rw [qT]))))
  ·unfold Xu
   exact w_f (zi (Nat.lt_irrefl _)) (qA (by rw [zi (Nat.lt_irrefl _),List.take_of_length_le (Nat.le_refl _)]))
 have k2:Wc N l ((l.length:Nat):Int) [] 0=some (l.flatten,((l.length:Nat):Int),false):=by
  refine jd (σ:=Unit) (B:=VR N l ((l.length:Nat):Int)) (g:=some) (at_:=fun k _=>((l.take k).flatten,(k:Int))) (I:=fun _ _=>True) (f:=fun _ s=>s) (n:=l.length)
   (fin:=fun _=>(l.flatten,((l.length:Nat):Int),false)) (fun k s hk _=>⟨?_,trivial⟩) (fun s _=>?_) N 0 () trivial (Nat.zero_le _) (by omega)
  ·have h2:=qMh (l:=l) (k:=k + 1)
   unfold VR
   refine w_t (dec_lt hk) (ql (zo (d:=[]) hk) ?_)
   dsimp only
   rw [← qGy hk]
   exact qF ⟨rfl,by unfold zh; omega⟩ (qF (zB (by omega)) (qA (by rw [qT])))
  ·unfold VR
   exact w_f (zi (Nat.lt_irrefl _)) (qA (by rw [zi (Nat.lt_irrefl _),List.take_of_length_le (Nat.le_refl _)]))
 unfold K1 qcw
 refine ql k1 ?_
 by_cases h0:l.flatten.length=0
 ·have kg : X0 ((l.flatten.length : Nat) : Int) = some (.inr ()) := by
     unfold X0 KX
     exact w_f (decide_eq_false (by omega)) (qF (by unfold qp; omega) (w_f (decide_eq_false (by omega)) (qA rfl)))
  exact ql kg (w_r rfl (ql ((zl rfl).trans k2) (qF rfl (qA rfl))))
 ·have kg : X0 ((l.flatten.length : Nat) : Int) = some (.inl ()) := by
     unfold X0 KX
     exact w_f (decide_eq_false (by omega)) (qF (by unfold qp; omega) (w_t (decide_eq_true (by omega)) (qF ⟨by omega,by unfold zh; omega⟩ (qA rfl))))
  exact ql kg (w_l rfl (ql ((zl rfl).trans k2) (qF rfl (qA rfl))))
theorem qVa {r:qa} (h:vg r=true):quP r=some ():=by
 unfold quP qtc
 exact ql (qQK (by have:=YV h; omega)) (qA rfl)
theorem qSD {L : List qa} (hl : L.length ≤ 1000) (hr : ∀ r ∈ L, vg r = true) :
    ∃ nm c M,qm1 N [] L ((L.length:Nat):Int) [] 0 [] 0=some (nm,c,M,((L.length:Nat):Int),false)∧qTu L nm M:=by
 have hN:=big N
 have key:∃ y,qQ (qau N [] L ((L.length:Nat):Int)) some N ([],0,[],((0:Nat):Int))=some y∧∃ nm c M,y=(nm,c,M,((L.length:Nat):Int),false)∧qTu L nm M:=by
  refine qjL (I:=fun v=>∃ (k:Nat) (nm:List (Vector UInt8 16)) (c:Nat) (M:List (Vector UInt8 16×qa×Nat)),k≤L.length∧v=(nm,c,M,(k:Int))∧qTu (L.take k) nm M) (fun v=>L.length - v.2.2.2.toNat) ?_ N _ ⟨0,[],0,[],Nat.zero_le _,rfl,⟨List.nodup_nil,fun _=>rfl,fun id=>⟨fun h=>absurd h List.not_mem_nil,fun h=>(h rfl).elim⟩,fun _ _ h=>(by cases h),Nat.le_refl _⟩⟩ (by simp; omega)
  rintro v ⟨k,nm,c,M,hk,rfl,hi⟩
  by_cases h:k < L.length
  ·left
   have hmem:L.getD k zR∈L:=by rw [List.getD_eq_getElem?_getD,List.getElem?_eq_getElem h]; exact List.getElem_mem h
   have hrec:=hr _ hmem
   have et:∀ id,(L.take (k + 1)).foldl qh1 (fun _=>none) id=qh1 ((L.take k).foldl qh1 fun _=>none) (L.getD k zR) id:=fun id=>by
    rw [qCr (d:=zR) h,List.foldl_append]; rfl
   have hlk:(L.take k).length=k:=by rw [List.length_take]; omega
   have hlk1:(L.take (k + 1)).length=k + 1:=by rw [List.length_take]; omega
   have hv:=hi.val (L.getD k zR).ID
   have hnl:=hi.len
   cases e:fnd (β:=qa) (.ba 16) (L.getD k zR).ID M with
   | none=>
    have hn:WZ (L.getD k zR).ID M=none:=by unfold WZ; rw [e]; rfl
    rw [hn] at hv
    refine ⟨(nm++[(L.getD k zR).ID],(J2 (.ba 16) (qa.ID (L.getD k zR)) (L.getD k zR) c M).1,(J2 (.ba 16) (qa.ID (L.getD k zR)) (L.getD k zR) c M).2,((k + 1:Nat):Int)),?_,⟨k + 1,_,_,_,h,rfl,?_⟩,by simp only [Int.toNat_natCast]; omega⟩
    ·unfold qau
     exact w_t (dec_lt h) (ql (zo (d:=zR) h) (qKi e (qF ⟨rfl,by rw [List.length_append]; unfold zh; simp; omega⟩ (ql (qVa hrec) (qF (zB (by omega)) (qA (by rw [qT]; rfl)))))))
    ·have hpv:∀ id,WZ id (J2 (.ba 16) (qa.ID (L.getD k zR)) (L.getD k zR) c M).2=if id=(L.getD k zR).ID then some (L.getD k zR) else WZ id M:=fun id=>qJy
     refine ⟨?_,fun id=>?_,fun id=>?_,fun id r hr'=>?_,?_⟩
     ·refine List.nodup_append.2 ⟨hi.nd,List.nodup_cons.2 ⟨List.not_mem_nil,List.nodup_nil⟩,fun a ha b hb=>?_⟩
      obtain rfl:=List.mem_singleton.1 hb
      intro hab
      rw [hab] at ha
      exact (hi.mem _).1 ha hn
     ·rw [hpv,et,qjN]
      by_cases q:id=(L.getD k zR).ID
      ·rw [if_pos q,if_pos q.symm,q,← hv]; rfl
      ·rw [if_neg q,if_neg (fun x=>q x.symm),hi.val]
     ·rw [hpv,List.mem_append,List.mem_singleton,hi.mem]
      by_cases q:id=(L.getD k zR).ID
      ·rw [if_pos q]; exact ⟨fun _=>by simp,fun _=>.inr q⟩
      ·rw [if_neg q]; exact ⟨fun x=>x.resolve_right q,fun x=>.inl x⟩
     ·rw [hpv] at hr'
      by_cases q:id=(L.getD k zR).ID
      ·rw [if_pos q] at hr'
       obtain rfl:=Option.some.inj hr'
       exact ⟨hrec,q.symm⟩
      ·rw [if_neg q] at hr'; exact hi.ok id r hr'
     ·rw [hlk1,List.length_append]; simp; omega
   | some x=>
    have hn:WZ (L.getD k zR).ID M=some x.1:=by unfold WZ; rw [e]; rfl
    rw [hn] at hv
    have hx:=hi.ok _ _ hn
    have ej:=qWA (N:=N) hx.1 hrec hx.2
    refine ⟨(nm,(J2 (.ba 16) (qa.ID (L.getD k zR)) (rJ x.1 (L.getD k zR)) c M).1,(J2 (.ba 16) (qa.ID (L.getD k zR)) (rJ x.1 (L.getD k zR)) c M).2,((k + 1:Nat):Int)),?_,⟨k + 1,_,_,_,h,rfl,?_⟩,by simp only [Int.toNat_natCast]; omega⟩
    ·unfold qau
     exact w_t (dec_lt h) (ql (zo (d:=zR) h) (qEf e (ql ej (qF (zB (by omega)) (qA (by rw [qT]))))))
    ·have hpv:∀ id,WZ id (J2 (.ba 16) (qa.ID (L.getD k zR)) (rJ x.1 (L.getD k zR)) c M).2=if id=(L.getD k zR).ID then some (rJ x.1 (L.getD k zR)) else WZ id M:=fun id=>qJy
     refine ⟨hi.nd,fun id=>?_,fun id=>?_,fun id r hr'=>?_,?_⟩
     ·rw [hpv,et,qjN]
      by_cases q:id=(L.getD k zR).ID
      ·rw [if_pos q,if_pos q.symm,q,← hv]; rfl
      ·rw [if_neg q,if_neg (fun x=>q x.symm),hi.val]
     ·rw [hpv,hi.mem]
      by_cases q:id=(L.getD k zR).ID
      ·rw [if_pos q,q,hn]; simp
      ·rw [if_neg q]
     ·rw [hpv] at hr'
      by_cases q:id=(L.getD k zR).ID
      ·rw [if_pos q] at hr'
       obtain rfl:=Option.some.inj hr'
       exact ⟨qBV hx.1 hrec,by rw [qUl,hx.2,q]⟩
      ·rw [if_neg q] at hr'; exact hi.ok id r hr'
     ·rw [hlk1]; omega
  ·right
   obtain rfl:k=L.length:=by omega
   rw [List.take_of_length_le (Nat.le_refl _)] at hi
   refine ⟨(nm,c,M,((L.length:Nat):Int),false),_,?_,rfl,nm,c,M,rfl,hi⟩
   unfold qau
   exact w_f (zi (Nat.lt_irrefl _)) (qA (by rw [zi (Nat.lt_irrefl _)]))
 obtain ⟨y,e,nm,c,M,rfl,h⟩:=key
 exact ⟨nm,c,M,e,h⟩
theorem qU1 {nm : List (Vector UInt8 16)} {c n : Nat} {M : List (Vector UInt8 16 × qa × Nat)} (hn : nm.length = n) (hl : n ≤ 1000) (h : ∀ i ∈ nm, ∃ r, WZ i M = some r ∧ r.ID = i) :
    qk6 N [] nm c M n ((n:Nat):Int) [] 0=some (qe7 M nm,((n:Nat):Int),false):=by
 subst hn
 have hN:=big N
 refine jd (σ:=Unit) (B:=qcT N [] nm c M nm.length ((nm.length:Nat):Int)) (g:=some) (at_:=fun k _=>(qe7 M (nm.take k),(k:Int))) (I:=fun _ _=>True) (f:=fun _ s=>s) (n:=nm.length)
  (fin:=fun _=>(qe7 M nm,((nm.length:Nat):Int),false)) (fun k s hk _=>⟨?_,trivial⟩) (fun s _=>?_) N 0 () trivial (Nat.zero_le _) (by omega)
 ·have hmem:nm.getD k (Vector.replicate 16 0)∈nm:=by rw [List.getD_eq_getElem?_getD,List.getElem?_eq_getElem hk]; exact List.getElem_mem hk
  obtain ⟨r,hr,_⟩:=h _ hmem
  have hf:∃ x,fnd (β:=qa) (.ba 16) (nm.getD k (Vector.replicate 16 0)) M=some x∧x.1=r:=by
   unfold WZ at hr
   cases e:fnd (β:=qa) (.ba 16) (nm.getD k (Vector.replicate 16 0)) M with
   | none=>rw [e] at hr; cases hr
   | some x=>rw [e] at hr; exact ⟨x,rfl,Option.some.inj hr⟩
  obtain ⟨x,ex,hx⟩:=hf
  have eo:qe7 M (nm.take (k + 1))=qe7 M (nm.take k)++[x.1]:=by
   unfold qe7
   rw [qCr (d:=Vector.replicate 16 0) hk,List.map_append,List.map_cons,hr,hx]; rfl
  have cav:zU (qe7 M (nm.take k)).length (qe7 M (nm.take k)).length (qe7 M (nm.take k)++[x.1]).length 56:=⟨rfl,by
   rw [List.length_append]; unfold qe7; rw [List.length_map,List.length_take]; unfold zh; simp; omega⟩
  unfold qcT
  exact w_t (dec_lt hk) (qF ⟨by show (0:Int)≤(k:Int); omega,by show (k:Int) < _; omega⟩ (ql (qP8 rfl hk) (qEf ex (qF cav (qF (zB (by omega)) (qA (by rw [qT,eo])))))))
 ·unfold qcT
  exact w_f (zi (Nat.lt_irrefl _)) (qA (by rw [zi (Nat.lt_irrefl _),List.take_of_length_le (Nat.le_refl _)]))
theorem qj2 {b:qb} (h:jm b=true):jj N b:=by
 have hN:=big N
 have hb:=qo8.1 h
 exact ⟨by omega,by omega,fun k hk=>by have:=YV (hb.1 k hk).1; exact ⟨by omega,by omega⟩⟩
def qt7 (c:List qa):qb×Int:=if c.length≤10 then (qb.mk c,0) else (qb.mk [],4)
theorem qBr {a b:qb} (ha:jm a=true) (hb:jm b=true):∃ c,qm7 a.R b.R c∧Kb N a b=some (qt7 c):=by
 have hA:=Xn.1 ha
 have hB:=Xn.1 hb
 have hfl:[a.R,b.R].flatten=a.R++b.R:=by simp
 have hll:(a.R++b.R).length≤20:=by rw [List.length_append]; omega
 have ec:=qN4 (N:=N) (l:=[a.R,b.R]) (by simp) (by rw [hfl]; omega)
 rw [hfl] at ec
 obtain ⟨nm,c,M,el,hi⟩:=qSD (N:=N) (L:=a.R++b.R) (by omega) (fun r hr=>by
  rcases List.mem_append.1 hr with h | h
  ·exact hA.1.2 r h
  ·exact hB.1.2 r h)
 have hval:∀ id,WZ id M=jR (rO a.R id) (rO b.R id):=fun id=>by
  rw [hi.val,List.foldl_append,qsE hB.1.1,qsE hA.1.1]; rfl
 obtain ⟨hs,hp⟩:=qSa hi.nd
 have hin:∀ i∈Q6 nm,∃ r,WZ i M=some r∧r.ID=i:=fun i h=>by
  have:=(hi.mem i).1 (hp.mem_iff.1 h)
  cases e:WZ i M with
  | none=>exact (this e).elim
  | some r=>exact ⟨r,rfl,(hi.ok i r e).2⟩
 have hlen:(qe7 M (Q6 nm)).length=nm.length:=by unfold qe7; rw [List.length_map,hp.length_eq]
 refine ⟨qe7 M (Q6 nm),⟨?_,fun id=>?_⟩,?_⟩
 ·unfold YP qe7
  rw [List.pairwise_map]
  refine (List.Pairwise.and_mem.1 hs).imp fun {i j} h=>?_
  obtain ⟨r,e1,h1⟩:=hin i h.1
  obtain ⟨s,e2,h2⟩:=hin j h.2.1
  rw [e1,e2]
  show lbB r.ID s.ID=true
  rw [h1,h2]; exact h.2.2
 ·rw [qQg hin,← hval]
  by_cases m:id∈Q6 nm
  ·rw [if_pos m]
  ·rw [if_neg m]
   cases e:WZ id M with
   | none=>rfl
   | some r=>exact (m (hp.mem_iff.2 ((hi.mem id).2 (by rw [e]; simp)))).elim
 ·have hnl:=hi.len
  unfold Kb qkh
  refine ql (qtG (qj2 ha)) (w_f (by rw [ha]; rfl) (ql (qtG (qj2 hb)) (w_f (by rw [hb]; rfl) (ql ec (ql ((zl rfl).trans ((zl rfl).trans el)) ?_)))))
  unfold qt7
  rw [hlen]
  by_cases h10:nm.length≤10
  ·rw [if_pos h10]
   exact w_f (decide_eq_false (by show ¬ (10:Int) < ((nm.length:Nat):Int); omega)) (ql ((zl rfl).trans (qU_ (by show nm.length≤12; omega))) (ql ((zl rfl).trans ((zl rfl).trans (qU1 hp.length_eq (by show nm.length≤1000; omega) hin))) (qF rfl (qA rfl))))
  ·rw [if_neg h10]
   exact w_t (decide_eq_true (by show (10:Int) < ((nm.length:Nat):Int); omega)) (qF rfl (qA rfl))
theorem qBj {a b:qb} (fa:jj N a) (fb:jj N b) (h:¬ (jm a=true∧jm b=true)):Kb N a b=some (qb.mk [],1):=by
 unfold Kb qkh
 refine ql (qtG fa) ?_
 cases ha:jm a with
 | false=>exact w_t rfl (qF rfl (qA rfl))
 | true=>
  refine w_f rfl (ql (qtG fb) ?_)
  cases hb:jm b with
  | false=>exact w_t rfl (qF rfl (qA rfl))
  | true=>exact (h ⟨ha,hb⟩).elim
end
end Go.Rx
end
set_option maxRecDepth 100000
noncomputable section
namespace Go.Rx
open Go.Proofs
def V3 (r:qa):List qa→List qa
 | []=>[r]
 | x::l=>if lbB r.ID x.ID=true then r::x::l else if x.ID=r.ID then rJ x r::l else x::V3 r l
theorem qxg {r x:qa} {l:List qa}:V3 r (x::l)=if lbB r.ID x.ID=true then r::x::l else if x.ID=r.ID then rJ x r::l else x::V3 r l:=rfl
theorem qCv {r:qa}:∀ {l:List qa} {y:qa},y∈V3 r l→y=r∨y∈l∨∃ x,x∈l∧x.ID=r.ID∧y=rJ x r
 | [],y,h=>.inl (List.mem_singleton.1 h)
 | x::l,y,h=>by
  unfold V3 at h
  split at h
  ·rcases List.mem_cons.1 h with h | h
   ·exact .inl h
   ·exact .inr (.inl h)
  ·split at h
   ·rename_i e
    rcases List.mem_cons.1 h with h | h
    ·exact .inr (.inr ⟨x,List.mem_cons_self ..,e,h⟩)
    ·exact .inr (.inl (List.mem_cons_of_mem _ h))
   ·rcases List.mem_cons.1 h with h | h
    ·exact .inr (.inl (by rw [h]; exact List.mem_cons_self ..))
    ·rcases qCv h with h | h | ⟨z,hz,e⟩
     ·exact .inl h
     ·exact .inr (.inl (List.mem_cons_of_mem _ h))
     ·exact .inr (.inr ⟨z,List.mem_cons_of_mem _ hz,e⟩)
theorem qp6 {r:qa}:∀ {l:List qa},YP l→YP (V3 r l)
 | [],_=>List.pairwise_singleton _ _
 | x::l,h=>by
  have hp:=List.pairwise_cons.1 h
  unfold V3
  split
  ·rename_i e
   refine List.pairwise_cons.2 ⟨fun y hy=>?_,h⟩
   rcases List.mem_cons.1 hy with rfl | hy
   ·exact e
   ·exact qhA e (hp.1 y hy)
  ·split
   ·exact List.pairwise_cons.2 ⟨fun y hy=>hp.1 y hy,hp.2⟩
   ·rename_i e1 e2
    have hxr:lbB x.ID r.ID=true:=by
     rcases qL1 r.ID x.ID with h1 | h1 | h1
     ·exact (e1 h1.1).elim
     ·exact (e2 h1.symm).elim
     ·exact h1.1
    refine List.pairwise_cons.2 ⟨fun y hy=>?_,qp6 hp.2⟩
    rcases qCv hy with rfl | hy | ⟨z,hz,e,rfl⟩
    ·exact hxr
    ·exact hp.1 y hy
    ·exact hp.1 z hz
theorem qMQ {r:qa} {id:Vector UInt8 16}:∀ {l:List qa},YP l→rO (V3 r l) id=qh1 (rO l) r id
 | [],_=>by
  show rO [r] id=_
  rw [Xc,qjN,qDS]; rfl
 | x::l,h=>by
  have hp:=List.pairwise_cons.1 h
  have nol:lbB r.ID x.ID=true→rO (x::l) r.ID=none:=fun e=>by
   cases hc:rO (x::l) r.ID with
   | none=>rfl
   | some y=>
    have hy:=Yb hc
    rcases List.mem_cons.1 hy.1 with h1 | h1
    ·rw [← hy.2,h1,Kq] at e; cases e
    ·have:=qhA e (hp.1 y h1)
     rw [hy.2,Kq] at this; cases this
  rw [qjN]
  unfold V3
  split
  ·rename_i e
   rw [Xc]
   by_cases q:r.ID=id
   ·rw [if_pos q,if_pos q,← q,nol e]; rfl
   ·rw [if_neg q,if_neg q]
  ·rename_i e1
   split
   ·rename_i e2
    rw [Xc,Xc,qUl]
    by_cases q:r.ID=id
    ·rw [if_pos (e2.trans q),if_pos q,if_pos (e2.trans q)]; rfl
    ·have:¬ x.ID=id:=fun h'=>q (e2.symm.trans h')
     rw [if_neg this,if_neg q,if_neg this]
   ·rename_i e2
    rw [Xc,Xc,qMQ hp.2,qjN]
    by_cases q:x.ID=id
    ·have:¬ r.ID=id:=fun h'=>e2 (q.trans h'.symm)
     rw [if_pos q,if_neg this,if_pos q]
    ·rw [if_neg q,if_neg q]
theorem qzy {r:qa} {l:List qa} (hl:Y2 l) (hr:vg r=true):Y2 (V3 r l):=by
 refine ⟨qp6 hl.1,fun y hy=>?_⟩
 rcases qCv hy with rfl | hy | ⟨z,hz,e,rfl⟩
 ·exact hr
 ·exact hl.2 y hy
 ·exact qBV (hl.2 z hz) hr
theorem qBq {r:qa}:∀ {l:List qa},(V3 r l).length≤l.length + 1
 | []=>Nat.le_refl _
 | x::l=>by
  unfold V3
  split
  ·exact Nat.le_refl _
  ·split
   ·simp
   ·rw [List.length_cons,List.length_cons]
    have:=qBq (r:=r) (l:=l); omega
def qaM (l0 a:List qa):List qa:=a.foldl (fun l r=>V3 r l) l0
theorem quj:∀ {a l0:List qa},Y2 l0→(∀ r∈a,vg r=true)→Y2 (qaM l0 a)
 | [],_,h,_=>h
 | r::a,l0,h,ha=>quj (a:=a) (qzy h (ha r (List.mem_cons_self ..))) fun x hx=>ha x (List.mem_cons_of_mem _ hx)
theorem qBi {id:Vector UInt8 16}:∀ {a l0:List qa},YP l0→rO (qaM l0 a) id=a.foldl qh1 (rO l0) id
 | [],_,_=>rfl
 | r::a,l0,h=>by
  have:rO (V3 r l0)=qh1 (rO l0) r:=funext fun i=>qMQ h
  show rO (qaM (V3 r l0) a) id=a.foldl qh1 (qh1 (rO l0) r) id
  rw [← this]
  exact qBi (qp6 h)
theorem qGm {α σ:Type} {d:α} {f:σ→α→σ} {l:List α}:∀ {m k:Nat} {s:σ},k + m=l.length→zY (fun k s=>f s (l.getD k d)) m k s=(l.drop k).foldl f s
 | 0,k,s,h=>by rw [List.drop_of_length_le (by omega)]; rfl
 | m + 1,k,s,h=>by
  rw [qkF (d:=d) (by omega)]
  unfold zY
  rw [qGm (by omega)]; rfl
section
variable {N:Nat} [Jj N]
theorem qsf {r:qa} (h:vg r=true):QX r=some ():=by
 have:=YV h
 unfold QX qdc
 exact qF (by unfold qij; unfold zh; show (qa.F r).length * 40≤_; have:(qa.F r).length≤8:=this; omega) (qF rfl (qA rfl))
theorem qGh {b:qb} {r:qa} (hb:Y2 b.R) (hl:b.R.length≤100) (hr:vg r=true):vS N b r=some (qb.mk (V3 r b.R)):=by
 have hN:=big N
 have key:∃ y,qQ (vB N [] b r) some N ([],false,((0:Nat):Int))=some y∧∃ o d,y=(o,d,((b.R.length:Nat):Int),false)∧V3 r b.R=(if d=true then o else o++[r])∧o.length≤200:=by
  refine qjL (I:=fun v=>∃ (k:Nat) (o:List qa) (d:Bool),k≤b.R.length∧v=(o,d,(k:Int))∧o.length≤2 * k∧V3 r b.R=(if d=true then o++b.R.drop k else o++V3 r (b.R.drop k))∧(d=true→∀ x∈b.R.drop k,x.ID≠r.ID)) (fun v=>b.R.length - v.2.2.toNat) ?_ N _ ⟨0,[],false,Nat.zero_le _,rfl,Nat.zero_le _,rfl,fun h=>(by cases h)⟩ (by simp; omega)
  rintro v ⟨k,o,d,hk,rfl,ho,hi,hd⟩
  by_cases h:k < b.R.length
  ·left
   have hdrop:=qkF (d:=zR) h
   have hmem:b.R.getD k zR∈b.R:=by rw [List.getD_eq_getElem?_getD,List.getElem?_eq_getElem h]; exact List.getElem_mem h
   have hrec:=hb.2 _ hmem
   have hsd:YP (b.R.drop k):=hb.1.sublist (List.drop_sublist _ _)
   rw [hdrop] at hsd
   have hp:=List.pairwise_cons.1 hsd
   have g:=zo (d:=zR) h
   have cav:∀ x:qa,zU o.length o.length (o++[x]).length 56:=fun x=>⟨rfl,by rw [List.length_append]; unfold zh; simp; omega⟩
   have cav2:∀ x:qa,zU (o++[r]).length (o++[r]).length (o++[r]++[x]).length 56:=fun x=>⟨rfl,by rw [List.length_append,List.length_append]; unfold zh; simp; omega⟩
   have ns:qp ((k:Int) + 1):=zB (by omega)
   have el:=qB_ (N:=N) r.ID (b.R.getD k zR).ID
   have same:∀ d':Bool,d'=true→(d=true∨lbB r.ID (b.R.getD k zR).ID=true)→¬ (b.R.getD k zR).ID=r.ID∧∀ x∈b.R.drop (k + 1),x.ID≠r.ID:=fun d' _ hc=>by
    rcases hc with hc | hc
    ·have:=hd hc
     rw [hdrop] at this
     exact ⟨this _ (List.mem_cons_self ..),fun x hx=>this x (List.mem_cons_of_mem _ hx)⟩
    ·refine ⟨fun e=>(by rw [e,Kq] at hc; cases hc),fun x hx e=>?_⟩
     have:=qhA hc (hp.1 x hx)
     rw [e,Kq] at this; cases this
   cases hb1:lbB r.ID (b.R.getD k zR).ID with
   | true=>
    obtain ⟨n1,n2⟩:=same true rfl (.inr hb1)
    have q:eqE (.ba 16) (qa.ID (b.R.getD k zR)) (qa.ID r)=false:=by rw [qs8]; exact decide_eq_false n1
    cases d with
    | false=>
     refine ⟨(o++[r]++[b.R.getD k zR],true,((k + 1:Nat):Int)),?_,⟨k + 1,_,_,h,rfl,by simp; omega,?_,fun _=>n2⟩,by simp only [Int.toNat_natCast]; omega⟩
     ·unfold vB
      exact w_t (dec_lt h) <| ql g <| ql el <| w_t hb1 <| w_t rfl <| ql (qsf hr) <| qF (cav _) <| ql g <| w_f q <| ql g <| ql (qsf hrec) <| qF (cav2 _) <| qF ns <| qA (by rw [qT])
     ·rw [hi,if_neg (by simp),if_pos rfl,hdrop]
      rw [qxg,if_pos hb1]; simp
    | true=>
     refine ⟨(o++[b.R.getD k zR],true,((k + 1:Nat):Int)),?_,⟨k + 1,_,_,h,rfl,by simp; omega,?_,fun _=>n2⟩,by simp only [Int.toNat_natCast]; omega⟩
     ·unfold vB
      exact w_t (dec_lt h) <| ql g <| ql el <| w_t hb1 <| w_f rfl <| ql g <| w_f q <| ql g <| ql (qsf hrec) <| qF (cav _) <| qF ns <| qA (by rw [qT])
     ·rw [hi,if_pos rfl,if_pos rfl,hdrop]; simp
   | false=>
    by_cases e:(b.R.getD k zR).ID=r.ID
    ·have q:eqE (.ba 16) (qa.ID (b.R.getD k zR)) (qa.ID r)=true:=by rw [qs8]; exact decide_eq_true e
     have hd0:d=false:=by
      cases d with
      | false=>rfl
      | true=>exact ((same true rfl (.inl rfl)).1 e).elim
     subst hd0
     refine ⟨(o++[rJ (b.R.getD k zR) r],true,((k + 1:Nat):Int)),?_,⟨k + 1,_,_,h,rfl,by simp; omega,?_,fun _ x hx e'=>?_⟩,by simp only [Int.toNat_natCast]; omega⟩
     ·unfold vB
      exact w_t (dec_lt h) <| ql g <| ql el <| w_f hb1 <| ql g <| w_t q <| ql g <| ql (qSI hrec hr e) <| qF (cav _) <| qF ns <| qA (by rw [qT])
     ·rw [hi,if_neg (by simp),if_pos rfl,hdrop]
      rw [qxg,if_neg (by rw [hb1]; simp),if_pos e]; simp
     ·have:=hp.1 x hx
      rw [e,e',Kq] at this; cases this
    ·have q:eqE (.ba 16) (qa.ID (b.R.getD k zR)) (qa.ID r)=false:=by rw [qs8]; exact decide_eq_false e
     refine ⟨(o++[b.R.getD k zR],d,((k + 1:Nat):Int)),?_,⟨k + 1,_,_,h,rfl,by simp; omega,?_,fun hd'=>(same true rfl (.inl hd')).2⟩,by simp only [Int.toNat_natCast]; omega⟩
     ·unfold vB
      exact w_t (dec_lt h) <| ql g <| ql el <| w_f hb1 <| ql g <| w_f q <| ql g <| ql (qsf hrec) <| qF (cav _) <| qF ns <| qA (by rw [qT])
     ·rw [hi,hdrop]
      cases d with
      | false=>
       rw [if_neg (by simp),if_neg (by simp)]
       rw [qxg,if_neg (by rw [hb1]; simp),if_neg e,List.append_assoc]; rfl
      | true=>rw [if_pos rfl,if_pos rfl]; simp
  ·right
   obtain rfl:k=b.R.length:=by omega
   rw [List.drop_of_length_le (Nat.le_refl _)] at hi
   refine ⟨(o,d,((b.R.length:Nat):Int),false),_,?_,rfl,o,d,rfl,?_,by omega⟩
   ·unfold vB
    exact w_f (zi (Nat.lt_irrefl _)) (qA (by rw [zi (Nat.lt_irrefl _)]))
   ·rw [hi,List.append_nil]; rfl
 obtain ⟨y,e,o,d,rfl,hi,ho⟩:=key
 unfold vS qdb
 refine ql ((zl rfl).trans ((zl rfl).trans e)) ?_
 rw [hi]
 cases d with
 | false=>exact w_t rfl (ql (qsf hr) (qF ⟨rfl,by rw [List.length_append]; unfold zh; simp; omega⟩ (qF rfl (qA rfl))))
 | true=>exact w_f rfl (qF rfl (qA rfl))
theorem qF_ {W Y : Type} {B : qb × Int → Tree ((qb × Int) ⊕ W)} {g : W → Option Y} {R : List qa} {fin : qb × Int × Bool → W}
    (h1:∀ (c:qb) (k:Nat),k < R.length→∀ c',vS N c (R.getD k zR)=some c'→(B (c,(k:Int))).run some=some (.inl (c',((k + 1:Nat):Int))))
    (h2:∀ c,(B (c,((R.length:Nat):Int))).run some=some (.inr (fin (c,((R.length:Nat):Int),false))))
    (hR:∀ r∈R,vg r=true) (hn:R.length≤20) {l:List qa} (hl:Y2 l) (hll:l.length≤50) {k:Nat} (hk:k≤R.length) :
    qQ B g N (qb.mk l,(k:Int))=g (fin (qb.mk (qaM l (R.drop k)),((R.length:Nat):Int),false)):=by
 have hN:=big N
 have:=jd (σ:=List qa) (B:=B) (g:=g) (at_:=fun k l=>(qb.mk l,(k:Int))) (I:=fun k l=>Y2 l∧l.length≤50 + k) (f:=fun k l=>V3 (R.getD k zR) l) (n:=R.length)
  (fin:=fun l=>fin (qb.mk l,((R.length:Nat):Int),false)) (fun k l hk hi=>by
   have hmem:R.getD k zR∈R:=by rw [List.getD_eq_getElem?_getD,List.getElem?_eq_getElem hk]; exact List.getElem_mem hk
   have hlen:=qBq (r:=R.getD k zR) (l:=l)
   refine ⟨h1 _ k hk _ (qGh (b:=qb.mk l) hi.1 (by show l.length≤100; omega) (hR _ hmem)),qzy hi.1 (hR _ hmem),by omega⟩) (fun l _=>h2 _) N k l ⟨hl,by omega⟩ hk (by omega)
 rw [this,qGm (f:=fun l r=>V3 r l) (by omega)]
 rfl
theorem qRD {a b:qb} (ha:jm a=true) (hb:jm b=true):zw N a b=some (qt7 (qaM (qaM [] a.R) b.R)):=by
 have hN:=big N
 have hA:=Xn.1 ha
 have hB:=Xn.1 hb
 have hnil:Y2 []:=⟨List.Pairwise.nil,fun r hr=>absurd hr List.not_mem_nil⟩
 have hlen:∀ (a l:List qa),(qaM l a).length≤l.length + a.length:=by
  intro a
  induction a with
  | nil=>intro l; exact Nat.le_refl _
  | cons r a ih=>
   intro l
   have h1:=ih (V3 r l)
   have h2:=qBq (r:=r) (l:=l)
   show (qaM (V3 r l) a).length≤_
   rw [List.length_cons]; omega
 have e7:WV N [] [] a b=some (if a.R=[] then .inl () else .inr (qb.mk (qaM [] a.R),((a.R.length:Nat):Int),false)):=by
  obtain ⟨M,hM⟩:∃ M,N=M + 1:=⟨N - 1,by omega⟩
  have s1:WV N [] [] a b=qQ (Xj N [] [] a b) (KB N N ([],[],a,b)) (M + 1) ():=by rw [← hM]; rfl
  rw [s1]
  by_cases h0:a.R=[]
  ·rw [if_pos h0,zu (x:=.inr (.inl ())) (by unfold Xj; exact w_f (decide_eq_false (by show ¬ (0:Int) < ((a.R.length:Nat):Int); rw [h0]; decide)) (qA rfl))]; rfl
  ·have hpos:0 < a.R.length:=List.length_pos_iff.2 h0
   have hmem:a.R.getD 0 zR∈a.R:=by rw [List.getD_eq_getElem?_getD,List.getElem?_eq_getElem hpos]; exact List.getElem_mem hpos
   rw [if_neg h0,zu (x:=.inl (qb.mk (V3 (a.R.getD 0 zR) []),((1:Nat):Int))) (by
    unfold Xj
    exact w_t (decide_eq_true (by show (0:Int) < ((a.R.length:Nat):Int); omega)) (ql (zo (d:=zR) hpos) (qF rfl (ql (qGh (b:=qb.mk []) hnil (Nat.zero_le _) (hA.1.2 _ hmem)) (qA rfl)))))]
   show qQ (Qx N [] [] a b) some N (qb.mk (V3 (a.R.getD 0 zR) []),((1:Nat):Int))=_
   rw [qF_ (B:=Qx N [] [] a b) (R:=a.R) (fin:=.inr) (fun c k hk c' hc=>by
    unfold Qx
    exact w_t (dec_lt hk) (ql (zo (d:=zR) hk) (ql hc (qF (zB (by omega)) (qA (by rw [qT])))))) (fun c=>by
    unfold Qx
    exact w_f (zi (Nat.lt_irrefl _)) (qA (by rw [zi (Nat.lt_irrefl _)]))) hA.1.2 (by omega) (qzy hnil (hA.1.2 _ hmem)) (by show (1:Nat)≤50; omega) hpos]
   obtain ⟨x,l,e⟩:=List.exists_cons_of_ne_nil h0
   rw [e]; rfl
 have e11:XV N [] [] b=some (if b.R=[] then .inl () else .inr (qb.mk (qaM [] b.R),((b.R.length:Nat):Int),false)):=by
  obtain ⟨M,hM⟩:∃ M,N=M + 1:=⟨N - 1,by omega⟩
  have s1:XV N [] [] b=qQ (VN N [] [] b) (YC N N ([],[],b)) (M + 1) ():=by rw [← hM]; rfl
  rw [s1]
  by_cases h0:b.R=[]
  ·rw [if_pos h0,zu (x:=.inr (.inl ())) (by unfold VN; exact w_f (decide_eq_false (by show ¬ (0:Int) < ((b.R.length:Nat):Int); rw [h0]; decide)) (qA rfl))]; rfl
  ·have hpos:0 < b.R.length:=List.length_pos_iff.2 h0
   have hmem:b.R.getD 0 zR∈b.R:=by rw [List.getD_eq_getElem?_getD,List.getElem?_eq_getElem hpos]; exact List.getElem_mem hpos
   rw [if_neg h0,zu (x:=.inl (qb.mk (V3 (b.R.getD 0 zR) []),((1:Nat):Int))) (by
    unfold VN
    exact w_t (decide_eq_true (by show (0:Int) < ((b.R.length:Nat):Int); omega)) (ql (zo (d:=zR) hpos) (qF rfl (ql (qGh (b:=qb.mk []) hnil (Nat.zero_le _) (hB.1.2 _ hmem)) (qA rfl)))))]
   show qQ (v7 N [] [] b) some N (qb.mk (V3 (b.R.getD 0 zR) []),((1:Nat):Int))=_
   rw [qF_ (B:=v7 N [] [] b) (R:=b.R) (fin:=.inr) (fun c k hk c' hc=>by
    unfold v7
    exact w_t (dec_lt hk) (ql (zo (d:=zR) hk) (ql hc (qF (zB (by omega)) (qA (by rw [qT])))))) (fun c=>by
    unfold v7
    exact w_f (zi (Nat.lt_irrefl _)) (qA (by rw [zi (Nat.lt_irrefl _)]))) hB.1.2 (by omega) (qzy hnil (hB.1.2 _ hmem)) (by show (1:Nat)≤50; omega) hpos]
   obtain ⟨x,l,e⟩:=List.exists_cons_of_ne_nil h0
   rw [e]; rfl
 have e12:∀ l:List qa,Y2 l→l.length≤50→YF N [] b (qb.mk l) 0=some (qb.mk (qaM l b.R),((b.R.length:Nat):Int),false):=fun l hl hll=>by
  have := qF_ (N := N) (B := JU N [] b) (g := some) (R := b.R) (fin := id) (fun c k hk c' hc => by
      unfold JU
      exact w_t (dec_lt hk) (ql (zo (d:=zR) hk) (ql hc (qF (zB (by omega)) (qA (by rw [qT])))))) (fun c=>by
      unfold JU
      exact w_f (zi (Nat.lt_irrefl _)) (qA (by rw [zi (Nat.lt_irrefl _)]; rfl))) hB.1.2 (by omega) hl hll (Nat.zero_le _)
  rw [List.drop_zero] at this
  exact this
 unfold zw Yy
 refine ql (qjU (qj2 ha)) (ql (qjU (qj2 hb)) (w_f (by rw [ha]; rfl) (w_f (by rw [hb]; rfl) (ql ((zl rfl).trans ((zl rfl).trans e7)) ?_))))
 have room:∀ c:List qa,(Tree.cond (decide ((10:Int) < ((c.length:Nat):Int))) (.chk (0=0) (.ret (qb.mk [],(4:Int)))) (.ret (qb.mk c,0))).run some=some (qt7 c):=fun c=>by
  unfold qt7
  by_cases h:c.length≤10
  ·rw [if_pos h]; exact w_f (decide_eq_false (by omega)) (qA rfl)
  ·rw [if_neg h]; exact w_t (decide_eq_true (by omega)) (qF rfl (qA rfl))
 by_cases h0:a.R=[]
 ·rw [if_pos h0,h0]
  refine w_l rfl (ql ((zl rfl).trans ((zl rfl).trans e11)) ?_)
  by_cases h1:b.R=[]
  ·rw [if_pos h1,h1]
   exact w_l rfl (w_f rfl (qF rfl (qA rfl)))
  ·rw [if_neg h1]
   exact w_r rfl (room _)
 ·rw [if_neg h0]
  have hfa:=quj (a:=a.R) hnil hA.1.2
  have:=hlen a.R []
  exact w_r rfl (ql ((zl rfl).trans (e12 _ hfa (by simp at this; show (qaM [] a.R).length≤50; omega))) (room _))
theorem qRB {a b:qb} (fa:jj N a) (fb:jj N b) (h:¬ (jm a=true∧jm b=true)):zw N a b=some (qb.mk [],1):=by
 unfold zw Yy
 refine ql (qjU fa) (ql (qjU fb) ?_)
 cases ha:jm a with
 | false=>exact w_t rfl (qF rfl (qA rfl))
 | true=>
  refine w_f rfl ?_
  cases hb:jm b with
  | false=>exact w_t rfl (qF rfl (qA rfl))
  | true=>exact (h ⟨ha,hb⟩).elim
theorem qTq {a b:qb} (fa:jj N a) (fb:jj N b):∃ x,Kb N a b=some x∧zw N a b=some x:=by
 by_cases h:jm a=true∧jm b=true
 ·obtain ⟨c,hc,e⟩:=qBr (N:=N) h.1 h.2
  have hA:=Xn.1 h.1
  have hB:=Xn.1 h.2
  have hnil:Y2 []:=⟨List.Pairwise.nil,fun r hr=>absurd hr List.not_mem_nil⟩
  have hfa:=quj (a:=a.R) hnil hA.1.2
  have hfb:=quj (a:=b.R) hfa hB.1.2
  have hj:qm7 a.R b.R (qaM (qaM [] a.R) b.R):=⟨hfb.1,fun id=>by
   have e1:rO (qaM [] a.R)=fun id=>rO a.R id:=funext fun i=>by
    rw [qBi List.Pairwise.nil,qsE hA.1.1]; rfl
   rw [qBi hfa.1,e1,qsE hB.1.1]⟩
  exact ⟨_,e,by rw [qOg hc hj]; exact qRD h.1 h.2⟩
 ·exact ⟨_,qBj fa fb h,qRB fa fb h⟩
end
end Go.Rx
end
set_option maxRecDepth 100000
noncomputable section
namespace Go.Rx
open Go.Proofs
def exB (c:qe) (x:qn) (no:Int):Bool:=slB x.qz c.S&&(match qxy x.F no with
 | none=>true
 | some i=>if (x.F.getD i zE).S=c.S then ltD (x.F.getD i zE).D (VE c.V) else slB (x.F.getD i zE).S c.S)
def partOf (m:qg) (r:qa):qa:=
 qa.mk r.ID (if slB (zI m r.ID).1.qz r.qz=true then r.qz else zSt) (r.F.filter fun f=>exB f.C (zI m r.ID).1 f.No)
def vv (p:qa):Bool:=decide (p.qz=zSt)&&decide (p.F.length=0)
def Xz (m:qg) (r:qa):List qa:=if vv (partOf m r)=true then [] else [partOf m r]
def QS (m:qg) (l:List qa):List qa:=l.flatMap (Xz m)
theorem qGD {m:qg} {r:qa}:(Xz m r).length≤1:=by
 unfold Xz
 split
 ·exact Nat.zero_le _
 ·exact Nat.le_refl _
theorem quE {m:qg}:∀ {l:List qa},(QS m l).length≤l.length
 | []=>Nat.le_refl _
 | r::l=>by
  unfold QS
  rw [List.flatMap_cons,List.length_append,List.length_cons]
  have h1:=qGD (m:=m) (r:=r)
  have h2:=quE (m:=m) (l:=l)
  unfold QS at h2
  omega
theorem qA0 {α:Type} {p:α→Bool} {d:α} {l:List α} {k:Nat} (h:k < l.length):(l.take (k + 1)).filter p=(l.take k).filter p++(if p (l.getD k d)=true then [l.getD k d] else []):=by
 rw [List.take_succ_eq_append_getElem h,List.filter_append,List.getD_eq_getElem?_getD,List.getElem?_eq_getElem h]
 show _++List.filter p [l[k]]=_++(if p l[k]=true then [l[k]] else [])
 cases hp:p l[k]<;>simp [hp]
theorem qyG {α β:Type} {f:α→List β} {d:α} {l:List α} {k:Nat} (h:k < l.length):(l.take (k + 1)).flatMap f=(l.take k).flatMap f++f (l.getD k d):=by
 rw [List.take_succ_eq_append_getElem h,List.flatMap_append,List.getD_eq_getElem?_getD,List.getElem?_eq_getElem h]
 simp
end Go.Rx
end
set_option maxRecDepth 100000
noncomputable section
namespace Go.Rx
open Go.Proofs
section
variable {N:Nat} [Jj N]
theorem qPh {l:List qm} {no:Int} (h:l.length≤600):VG N no l=some (qV5 (qxy l no)):=by
 have key:=qdo (B:=vC N no l ((l.length:Nat):Int)) (g:=some) (p:=fun k=>decide ((l.getD k zE).No=no)) (n:=l.length) (hit:=fun k=>.inl (k:Int)) (fin:=.inr (((l.length:Nat):Int),false)) (fun k hk=>by
  unfold vC
  refine w_t (dec_lt hk) <| ql (zo (d:=zE) hk) <| ql (show qiE no (l.getD k zE)=some () from rfl) <| qcD (c:=decide ((l.getD k zE).No=no)) rfl (fun h=>qA ?_) fun h=>qF (zB (by omega)) <| qA ?_
  ·rw [h]; rfl
  ·rw [h,qT]; rfl) (by
  unfold vC
  exact w_f (zi (Nat.lt_irrefl _)) (qA (by rw [zi (Nat.lt_irrefl _)]))) N 0 (Nat.zero_le _) (by have:=big N; omega)
 rw [Nat.sub_zero] at key
 have e:Wu N no l ((l.length:Nat):Int) 0=qQ (vC N no l ((l.length:Nat):Int)) some N ((0:Nat):Int):=rfl
 unfold VG W2
 refine ql (e.trans key) ?_
 unfold qxy
 cases Zk (fun k=>decide ((l.getD k zE).No=no)) l.length 0<;>rfl
theorem qOR {c:qe} {x:qn} {no:Int} (hx:x.F.length≤600) (hc:c.V.length≤50000):YR N c x no=some (exB c x no):=by
 unfold YR qh_ exB
 refine ql (qPh hx) (ql (W5 _ _) ?_)
 cases slB (qn.qz x) (qe.S c) with
 | false=>rfl
 | true=>
  refine w_f rfl ?_
  show _=some (match qxy x.F no with | none=>true | some i=>if (x.F.getD i zE).S=c.S then ltD (x.F.getD i zE).D (VE c.V) else slB (x.F.getD i zE).S c.S)
  cases e:qxy x.F no with
  | none=>rfl
  | some i=>
   have hi:=(qD2 e).1
   have g:=zo (d:=zE) hi
   refine w_f (decide_eq_false (by show ¬ ((i:Nat):Int) < 0; omega)) (ql g ?_)
   show _=some (if (x.F.getD i zE).S=c.S then ltD (x.F.getD i zE).D (VE c.V) else slB (x.F.getD i zE).S c.S)
   by_cases h:(x.F.getD i zE).S=c.S
   ·rw [if_pos h]
    exact w_f (by rw [qbm]; show (!decide ((x.F.getD i zE).S=c.S))=false; rw [decide_eq_true h]; rfl) <| ql g <| ql (qBY hc) <| ql (quD _ _) <| qA rfl
   ·rw [if_neg h]
    exact w_t (by rw [qbm]; show (!decide ((x.F.getD i zE).S=c.S))=true; rw [decide_eq_false h]; rfl) <| ql g <| ql (W5 _ _) <| qA rfl
end
end Go.Rx
end
set_option maxRecDepth 100000
noncomputable section
namespace Go.Rx
open Go.Proofs
section
variable {N:Nat} [Jj N]
section f
variable {m:qg} (hf:qqZ m=true)
include hf
theorem qNp {c:qe} {id:Vector UInt8 16} {no:Int} (hc:c.V.length≤50000):qgo N c m id no=some (exB c (zI m id).1 no):=by
 unfold qgo qhN
 exact ql (qCj hf id) <| ql (qOR (by have:=(qxb hf id).1; omega) hc) <| qA rfl
end f
end
end Go.Rx
end
set_option maxRecDepth 100000
noncomputable section
namespace Go.Rx
open Go.Proofs
def jB (N:Nat) (a b:qb):qb×Int:=(Kb N a b).getD (qb.mk [],0)
def Wk (p:qa):qa:=qa.mk p.ID p.qz []
def Vm (p:qa):qa:=qa.mk p.ID zSt p.F
def V9 (N:Nat) (b:qb) (e:qa):qb×Int:=if vv e=true then (b,0) else jB N b (qb.mk [e])
theorem qIP {N:Nat} {b:qb} {e:qa} (h:vv e=true):V9 N b e=(b,0):=if_pos h
theorem qEJ {N:Nat} {b:qb} {e:qa} (h:vv e=false):V9 N b e=jB N b (qb.mk [e]):=if_neg (by rw [h]; simp)
def qE9 (N:Nat) (b:qb) (e1 e2:qa):qb×Int:=
 if (V9 N b e1).2=0 then (if (V9 N (V9 N b e1).1 e2).2=0 then ((V9 N (V9 N b e1).1 e2).1,0) else (qb.mk [],(V9 N (V9 N b e1).1 e2).2)) else (qb.mk [],(V9 N b e1).2)
def qTk (b:qb) (p:qa):Bool:=jm b&&(!vv p&&(stB p.qz&&(decide (p.F.length=0)||vg (Vm p))))
def qFb (N:Nat) (b:qb) (p:qa):qb×Int:=if qTk b p=true then qE9 N b (Wk p) (Vm p) else (qb.mk [],1)
section
variable {N:Nat} [Jj N]
theorem qUw {a b:qb} (fa:jj N a) (fb:jj N b):Kb N a b=some (jB N a b):=by
 unfold jB
 by_cases h:jm a=true∧jm b=true
 ·obtain ⟨c,_,e⟩:=qBr (N:=N) h.1 h.2
  rw [e]; rfl
 ·rw [qBj fa fb h]; rfl
theorem qWn {a b:qb} (ha:jm a=true) (hb:jm b=true):∃ c,qm7 a.R b.R c∧jB N a b=qt7 c:=by
 obtain ⟨c,hc,e⟩:=qBr (N:=N) ha hb
 exact ⟨c,hc,by unfold jB; rw [e]; rfl⟩
theorem qWK {a b:qb} (fa:jj N a) (fb:jj N b) (h:¬ (jm a=true∧jm b=true)):jB N a b=(qb.mk [],1):=by
 unfold jB
 rw [qBj fa fb h]; rfl
theorem qMB {a b:qb} (fa:jj N a) (fb:jj N b) (h:(jB N a b).2=0):jm a=true∧jm b=true∧qm7 a.R b.R (jB N a b).1.R∧jm (jB N a b).1=true:=by
 by_cases hab:jm a=true∧jm b=true
 ·obtain ⟨c,hc,e⟩:=qWn (N:=N) hab.1 hab.2
  rw [e] at h ⊢
  unfold qt7 at h ⊢
  by_cases h10:c.length≤10
  ·rw [if_pos h10] at h ⊢
   exact ⟨hab.1,hab.2,hc,Xn.2 ⟨qQE (Xn.1 hab.1).1 (Xn.1 hab.2).1 hc,h10⟩⟩
  ·rw [if_neg h10] at h; cases h
 ·rw [qWK fa fb hab] at h; cases h
theorem qum {e:qa} (h1:e.F.length < N) (h2:e.F.length≤4611686018427387904):jj N (qb.mk [e]):=by
 have:=big N
 refine ⟨by show 1 < N; omega,by show 1≤4611686018427387904; omega,fun k hk=>?_⟩
 have hk:k < 1:=hk
 obtain rfl:k=0:=by omega
 exact ⟨h1,h2⟩
theorem qxP {b:qb} {e:qa} (fb:jj N b) (h1:e.F.length < N) (h2:e.F.length≤4611686018427387904) (h:(V9 N b e).2=0):jj N (V9 N b e).1:=by
 unfold V9 at *
 split
 ·exact fb
 ·rename_i hn
  rw [if_neg hn] at h
  exact qj2 (qMB fb (qum h1 h2) h).2.2.2
theorem qGq {b : qb} {e : qa} {s47 : List qa} {k : Nat} (hk : k < s47.length) (hs : s47.length ≤ 10) (he : s47.getD k zR = e) (fb : jj N b) (h1 : e.F.length < N) (h2 : e.F.length ≤ 4611686018427387904) :
    (qad N [] s47 ((s47.length:Nat):Int) (b,(k:Int))).run some=some (if (V9 N b e).2=0 then .inl ((V9 N b e).1,((k + 1:Nat):Int)) else .inr (.inr (V9 N b e).2)):=by
 unfold qad
 refine w_t (dec_lt hk) <| ql ((zo (d:=zR) hk).trans (by rw [he])) <| ql (by
  have e0:eqE qh (qa.qz e) (qc.mk 0 0)=decide (e.qz=zSt):=qbm _ _
  have e2:decide (((e.F.length:Nat):Int)=0)=decide (e.F.length=0):=decide_eq_decide.2 (by omega)
  show J7 e=some (vv e)
  unfold J7 qc_ vv
  refine qcD e0 (fun h=>qA ?_) fun h=>qA ?_
  ·rw [h]; exact congrArg some e2
  ·rw [h]; rfl) ?_
 cases hn:vv e with
 | true=>
  rw [qIP hn]
  exact w_t rfl <| qF (zB (by omega)) <| qA (by rw [qT]; rfl)
 | false=>
  rw [qEJ hn]
  refine w_f rfl <| ql (qUw fb (qum h1 h2)) ?_
  by_cases hz:(jB N b (qb.mk [e])).2=0
  ·rw [if_pos hz]
   exact w_f (by rw [decide_eq_true hz]; rfl) <| qF (zB (by omega)) <| qA (by rw [qT])
  ·rw [if_neg hz]
   exact w_t (by rw [decide_eq_false hz]; rfl) <| qA rfl
theorem qRJ {b : qb} {e1 e2 : qa} (fb : jj N b) (h1 : e1.F.length < N ∧ e1.F.length ≤ 4611686018427387904) (h2 : e2.F.length < N ∧ e2.F.length ≤ 4611686018427387904) :
    ∃ z,qaw N [] [e1,e2] ((([e1,e2]:List qa).length:Nat):Int) b 0=some z∧(match z with | .inl w=>(w.1,(0:Int)) | .inr e=>(qb.mk [],e))=qE9 N b e1 e2:=by
 obtain ⟨M,hM⟩:∃ M,N=M + 3:=⟨N - 3,by have:=big N; omega⟩
 have s0:qaw N [] [e1,e2] ((([e1,e2]:List qa).length:Nat):Int) b 0=qQ (qad N [] [e1,e2] ((([e1,e2]:List qa).length:Nat):Int)) some (M + 3) (b,((0:Nat):Int)):=by rw [← hM]; rfl
 rw [s0]
 have r1:=qGq (N:=N) (b:=b) (e:=e1) (s47:=[e1,e2]) (k:=0) (by simp) (by simp) rfl fb h1.1 h1.2
 unfold qE9
 by_cases z1:(V9 N b e1).2=0
 ·rw [if_pos z1] at r1 ⊢
  rw [Zt r1]
  have r2:=qGq (N:=N) (b:=(V9 N b e1).1) (e:=e2) (s47:=[e1,e2]) (k:=1) (by simp) (by simp) rfl (qxP fb h1.1 h1.2 z1) h2.1 h2.2
  by_cases z2:(V9 N (V9 N b e1).1 e2).2=0
  ·rw [if_pos z2] at r2 ⊢
   rw [Zt r2,zu (x:=.inl ((V9 N (V9 N b e1).1 e2).1,((2:Nat):Int),false)) (by
    unfold qad
    exact w_f rfl (qA rfl))]
   exact ⟨_,rfl,rfl⟩
  ·rw [if_neg z2] at r2 ⊢
   rw [zu r2]
   exact ⟨_,rfl,rfl⟩
 ·rw [if_neg z1] at r1 ⊢
  rw [zu r1]
  exact ⟨_,rfl,rfl⟩
theorem qWa {b:qb} {p:qa} (fb:jj N b) (h1:p.F.length < N) (h2:p.F.length≤4611686018427387904):qoO N b p=some (qFb N b p):=by
 have hN:=big N
 have hn:J7 p=some (vv p):=by
  have e0:eqE qh (qa.qz p) (qc.mk 0 0)=decide (p.qz=zSt):=qbm _ _
  have e2:decide (((p.F.length:Nat):Int)=0)=decide (p.F.length=0):=decide_eq_decide.2 (by omega)
  unfold J7 qc_ vv
  refine qcD e0 (fun h=>qA ?_) fun h=>qA ?_
  ·rw [h]; exact congrArg some e2
  ·rw [h]; rfl
 obtain ⟨z,ez,hz⟩:=qRJ (N:=N) (b:=b) (e1:=Wk p) (e2:=Vm p) fb ⟨by show 0 < N; omega,Nat.zero_le _⟩ ⟨h1,h2⟩
 have fin:(Tree.bind (zV [(([]:List qa).length,0)] (qaw N [] [Wk p,Vm p] ((([Wk p,Vm p]:List qa).length:Nat):Int) b 0)) fun z5=>.sum z5 (fun z6=>.ret (z6.1,(0:Int))) fun z6=>.chk (0=0) (.ret (qb.mk [],z6))).run some=some (qE9 N b (Wk p) (Vm p)):=by
  refine ql ((zl rfl).trans ez) ?_
  rw [← hz]
  cases z with
  | inl w=>rfl
  | inr e=>exact w_r rfl <| qF rfl <| qA rfl
 unfold qoO qrg qFb qTk
 refine ql (qtG fb) ?_
 cases hb:jm b with
 | false=>exact w_t rfl <| qF rfl <| qA rfl
 | true=>
  refine w_f rfl <| ql hn ?_
  cases hnp:vv p with
  | true=>exact w_t rfl <| qF rfl <| qA rfl
  | false=>
   refine w_f rfl <| ql (qnT _) ?_
   have hst:stB (qa.qz p)=stB p.qz:=rfl
   rw [hst]
   cases hs:stB p.qz with
   | false=>exact w_t rfl <| qF rfl <| qA rfl
   | true=>
    refine w_f rfl ?_
    by_cases h0:p.F.length=0
    ·rw [decide_eq_true h0]
     exact w_f (decide_eq_false (by show ¬ (0:Int) < ((p.F.length:Nat):Int); omega)) fin
    ·rw [decide_eq_false h0]
     refine w_t (decide_eq_true (by show (0:Int) < ((p.F.length:Nat):Int); omega)) <| ql (qzk (r:=Vm p) h1 h2) ?_
     cases hr:vg (Vm p) with
     | false=>exact w_t rfl <| qF rfl <| qA rfl
     | true=>exact w_f rfl fin
end
end Go.Rx
end
set_option maxRecDepth 100000
noncomputable section
namespace Go.Rx
open Go.Proofs
section
variable {N:Nat} [Jj N]
def qw_ (l:List qm) (dead:qc) (k:Nat):Bool:=
 stB (l.getD k zE).S&&(slB dead (l.getD k zE).S&&((if k=0 then decide (0≤(l.getD k zE).No) else decide ((l.getD (k - 1) zE).No < (l.getD k zE).No))&&(decide ((l.getD k zE).No < 8)&&(decide (0≤(l.getD k zE).Len)&&(decide ((l.getD k zE).Len≤200)&&decide ((((l.getD k zE).B.length:Nat):Int)=blk (l.getD k zE).Len))))))
theorem qtl {l:List qm} {dead:qc} {k:Nat}:qw_ l dead k=true↔stB (l.getD k zE).S=true∧slB dead (l.getD k zE).S=true∧(if k=0 then 0≤(l.getD k zE).No else (l.getD (k - 1) zE).No < (l.getD k zE).No)∧(l.getD k zE).No < 8∧0≤(l.getD k zE).Len∧(l.getD k zE).Len≤200∧(((l.getD k zE).B.length:Nat):Int)=blk (l.getD k zE).Len:=by
 unfold qw_
 simp only [Bool.and_eq_true,decide_eq_true_iff]
 refine and_congr Iff.rfl (and_congr Iff.rfl (and_congr ?_ Iff.rfl))
 split<;>exact decide_eq_true_iff
theorem qJz {l:List qm} {dead:qc} {k:Nat}:qjD l dead k=true↔(0≤(l.getD k zE).No∧(l.getD k zE).No < 8∧0≤(l.getD k zE).Len∧(l.getD k zE).Len≤200∧(((l.getD k zE).B.length:Nat):Int)=blk (l.getD k zE).Len∧stB (l.getD k zE).S=true∧slB dead (l.getD k zE).S=true)∧(k=0∨(l.getD (k - 1) zE).No < (l.getD k zE).No):=by
 unfold qjD qKp
 simp only [Bool.and_eq_true,decide_eq_true_iff,Bool.or_eq_true,Bool.not_eq_true',decide_eq_false_iff_not,Int.not_le]
theorem qJF {l:List qm} {dead:qc} {n:Nat} (h:∀ k,k < n→qw_ l dead k=true):∀ k,k < n→0≤(l.getD k zE).No
 | 0,hk=>by have:=(qtl.1 (h 0 hk)).2.2.1; rw [if_pos rfl] at this; exact this
 | k + 1,hk=>by
  have h1:=(qtl.1 (h (k + 1) hk)).2.2.1
  rw [if_neg (by omega),show k + 1 - 1=k by omega] at h1
  have:=qJF h k (by omega)
  omega
theorem qQ8 {l:List qm} {dead:qc} {n:Nat}:ve (qw_ l dead) n=ve (qjD l dead) n:=by
 refine Bool.eq_iff_iff.2 ?_
 rw [J_,J_]
 constructor
 ·intro h k hk
  have h1:=qtl.1 (h k hk)
  refine qJz.2 ⟨⟨qJF h k hk,h1.2.2.2.1,h1.2.2.2.2.1,h1.2.2.2.2.2.1,h1.2.2.2.2.2.2,h1.1,h1.2.1⟩,?_⟩
  by_cases h0:k=0
  ·exact .inl h0
  ·have:=h1.2.2.1
   rw [if_neg h0] at this; exact .inr this
 ·intro h k hk
  have h1:=qJz.1 (h k hk)
  refine qtl.2 ⟨h1.1.2.2.2.2.2.1,h1.1.2.2.2.2.2.2,?_,h1.1.2.1,h1.1.2.2.1,h1.1.2.2.2.1,h1.1.2.2.2.2.1⟩
  by_cases h0:k=0
  ·rw [if_pos h0]; exact h1.1.1
  ·rw [if_neg h0]; exact h1.2.resolve_left h0
def qt9 (l:List qm) (k:Nat):Int:=if k=0 then -1 else (l.getD (k - 1) zE).No
theorem qOj {l:List qm} {dead:qc} {k:Nat}:Kd (l.getD k zE) (qt9 l k) dead=some (qw_ l dead k):=by
 have hq:(if k=0 then decide (0≤(l.getD k zE).No) else decide ((l.getD (k - 1) zE).No < (l.getD k zE).No))=!decide ((l.getD k zE).No≤qt9 l k):=by
  rw [← decide_not]
  unfold qt9
  by_cases h0:k=0
  ·rw [if_pos h0,if_pos h0]; exact decide_eq_decide.2 (by omega)
  ·rw [if_neg h0,if_neg h0]; exact decide_eq_decide.2 (by omega)
 unfold qw_
 rw [hq]
 generalize l.getD k zE=e
 unfold Kd qa7
 refine ql (qrG _) (ql (Yn _ _) ?_)
 cases h1:stB e.S with
 | false=>rfl
 | true=>
  refine w_f rfl ?_
  cases h2:slB dead e.S with
  | false=>rfl
  | true=>
   refine w_f rfl (qcD (c:=decide (e.No≤qt9 l k)) rfl (fun h3=>by rw [h3]; rfl) fun h3=>?_)
   rw [h3]
   refine qcD (c:=decide ((8:Int)≤e.No)) rfl (fun h4=>?_) fun h4=>?_
   ·rw [decide_eq_false (show ¬ e.No < 8 by have:=of_decide_eq_true h4; omega)]; rfl
   rw [decide_eq_true (show e.No < 8 by have:=of_decide_eq_false h4; omega)]
   refine qcD (c:=decide (e.Len < 0)) rfl (fun h5=>?_) fun h5=>?_
   ·rw [decide_eq_false (show ¬ 0≤e.Len by have:=of_decide_eq_true h5; omega)]; rfl
   have g5:0≤e.Len:=by have:=of_decide_eq_false h5; omega
   rw [decide_eq_true g5]
   refine qcD (c:=decide (200 < e.Len)) rfl (fun h6=>?_) fun h6=>?_
   ·rw [decide_eq_false (show ¬ e.Len≤200 by have:=of_decide_eq_true h6; omega)]; rfl
   have g6:e.Len≤200:=by have:=of_decide_eq_false h6; omega
   rw [decide_eq_true g6]
   unfold blk
   by_cases h7:e.Len < 24
   ·rw [if_pos h7]
    exact w_t (decide_eq_true h7) (qA rfl)
   ·rw [if_neg h7]
    have e0:e.Len.tdiv 8=e.Len / 8:=Int.tdiv_eq_ediv_of_nonneg g5
    exact w_f (decide_eq_false h7) (qF (by omega) (qF (by unfold qp; omega) (qA rfl)))
theorem qPr {m : qg} {x : qn} {s : Int} (h : x.F.length ≤ 600) :
    ∃ z,jN N m x s (-1) 0=some (if ve (qjD x.F x.qz) x.F.length then .inr z else .inl ()):=by
 refine ⟨(qt9 x.F x.F.length,((x.F.length:Nat):Int),false),?_⟩
 rw [← qQ8]
 refine (quI (B:=Xd N m x s) (g:=some) (at_:=fun k=>(qt9 x.F k,(k:Int))) (q:=qw_ x.F x.qz) (n:=x.F.length) (hit:=.inl ()) (fin:=.inr (qt9 x.F x.F.length,((x.F.length:Nat):Int),false)) (fun k hk=>?_) ?_ x.F.length 0 (by omega) N (by have:=big N; omega) (fun j hj=>by omega)).trans ?_
 ·unfold Xd
  refine w_t (dec_lt hk) (ql (zo (d:=zE) hk) (ql qOj ?_))
  cases qw_ x.F x.qz k with
  | false=>rfl
  | true=>
   refine w_f rfl (ql (zo (d:=zE) hk) (qF (zB (by omega)) (qA ?_)))
   rw [qT]; rfl
 ·unfold Xd
  exact w_f (zi (Nat.lt_irrefl _)) (qA (by rw [zi (Nat.lt_irrefl _)]))
 ·split<;>rfl
theorem qT4 {m : qg} (h : m.L.length ≤ 600) (hF : ∀ k, k < m.L.length → (m.L.getD k zL).F.length ≤ 600) :
    qcd N m 0=some (if ve (qiF m.L) m.L.length then .inr (((m.L.length:Nat):Int),false) else .inl ()):=by
 refine VD (B:=X6 N m) (g:=some) (q:=qiF m.L) (fun k hk=>?_) ?_ (by have:=big N; omega)
 ·have e0:eqE qh (m.L.getD k zL).qz (qc.mk 0 0)=decide ((m.L.getD k zL).qz=zSt):=qbm _ _
  obtain ⟨z,ez⟩:=qPr (N:=N) (m:=m) (x:=m.L.getD k zL) (s:=(k:Int)) (hF k hk)
  have tail : ∀ c : Bool, (Tree.bind (jN N m (m.L.getD k zL) (k : Int) (-1) 0) fun z3 => Tree.sum z3 (fun _ => .ret (.inr (.inl ()))) fun _ => .chk (qp ((k : Int) + 1)) (.ret (.inl ((k : Int) + 1) : Int ⊕ (Unit ⊕ (Int × Bool))))).run some =
      some (if ve (qjD (m.L.getD k zL).F (m.L.getD k zL).qz) (m.L.getD k zL).F.length then .inl ((k + 1:Nat):Int) else .inr (.inl ())):=fun c=>by
   refine ql ez ?_
   split
   ·exact qF (zB (by omega)) (qA (by rw [qT]))
   ·rfl
  have next : ∀ w : Bool, qiF m.L k = (w && (decide (k = 0) || lbB (m.L.getD (k - 1) zL).ID (m.L.getD k zL).ID)) → qic (m.L.getD k zL) = w → w = ve (qjD (m.L.getD k zL).F (m.L.getD k zL).qz) (m.L.getD k zL).F.length →
      (Tree.cond (decide ((0:Int) < (k:Int))) (.chk (qp ((k:Int) - 1)) (.bind (qM m.L ((k:Int) - 1)) fun e3=>.bind (Qq N (qn.ID e3) (qn.ID (m.L.getD k zL))) fun r4=>.cond (!r4) (.ret (.inr (.inl ())))
       (Tree.bind (jN N m (m.L.getD k zL) (k:Int) (-1) 0) fun z3=>Tree.sum z3 (fun _=>.ret (.inr (.inl ()))) fun _=>.chk (qp ((k:Int) + 1)) (.ret (.inl ((k:Int) + 1):Int⊕(Unit⊕(Int×Bool)))))))
       (Tree.bind (jN N m (m.L.getD k zL) (k:Int) (-1) 0) fun z3=>Tree.sum z3 (fun _=>.ret (.inr (.inl ()))) fun _=>.chk (qp ((k:Int) + 1)) (.ret (.inl ((k:Int) + 1):Int⊕(Unit⊕(Int×Bool)))))).run some =
      some (if qiF m.L k=true then .inl ((k + 1:Nat):Int) else .inr (.inl ())):=fun w hq _ hw=>by
   rw [hq]
   by_cases h0:k=0
   ·rw [decide_eq_true h0,Bool.true_or,Bool.and_true]
    refine w_f (decide_eq_false (by omega)) ((tail true).trans ?_)
    rw [hw]
   ·rw [decide_eq_false h0,Bool.false_or]
    have hk1:k - 1 < m.L.length:=by omega
    refine w_t (decide_eq_true (by omega)) (qF (qVu (by omega)) (ql (by rw [qjO (Nat.pos_of_ne_zero h0)]; exact zo (d:=zL) hk1) (ql (qB_ _ _) ?_)))
    cases lbB (m.L.getD (k - 1) zL).ID (m.L.getD k zL).ID with
    | false=>rw [Bool.and_false]; rfl
    | true=>refine w_f rfl ((tail true).trans ?_); rw [Bool.and_true,hw]
  unfold X6
  refine w_t (dec_lt hk) (ql (zo (d:=zL) hk) (ql (qrG _) ?_))
  have hl:qic (m.L.getD k zL)=(ve (qjD (m.L.getD k zL).F (m.L.getD k zL).qz) (m.L.getD k zL).F.length&&(stB (m.L.getD k zL).qz&&(decide (0 < (m.L.getD k zL).F.length)||!decide ((m.L.getD k zL).qz=zSt)))):=rfl
  have hq:qiF m.L k=(qic (m.L.getD k zL)&&(decide (k=0)||lbB (m.L.getD (k - 1) zL).ID (m.L.getD k zL).ID)):=rfl
  cases h1:stB (m.L.getD k zL).qz with
  | false=>
   rw [hq,hl,h1,Bool.false_and,Bool.and_false,Bool.false_and]; rfl
  | true=>
   refine w_f rfl ?_
   rw [h1,Bool.true_and] at hl
   by_cases h2:(m.L.getD k zL).F.length=0
   ·refine w_t (decide_eq_true (by omega)) ?_
    rw [decide_eq_false (show ¬ 0 < (m.L.getD k zL).F.length by omega),Bool.false_or] at hl
    cases h3:decide ((m.L.getD k zL).qz=zSt) with
    | true=>
     rw [hq,hl,h3,Bool.not_true,Bool.and_false,Bool.false_and]
     exact w_t (e0.trans h3) rfl
    | false=>
     rw [h3,Bool.not_false,Bool.and_true] at hl
     exact w_f (e0.trans h3) (next _ hq rfl hl)
   ·rw [decide_eq_true (show 0 < (m.L.getD k zL).F.length by omega),Bool.true_or,Bool.and_true] at hl
    exact w_f (decide_eq_false (by omega)) (next _ hq rfl hl)
 ·unfold X6
  exact w_f (zi (Nat.lt_irrefl _)) (qA (by rw [zi (Nat.lt_irrefl _)]))
theorem qKf {m:qg} (h:m.L.length≤600) (hF:∀ k,k < m.L.length→(m.L.getD k zL).F.length≤600):qaL N m=some (qig m):=by
 have e2:decide (((m.L.length:Nat):Int)≤10)=decide (m.L.length≤10):=decide_eq_decide.2 (by omega)
 unfold qaL qc9 qig
 refine ql (qT4 h hF) ?_
 cases ve (qiF m.L) m.L.length with
 | false=>rfl
 | true=>exact qA (by rw [e2]; rfl)
end
end Go.Rx
end
set_option maxRecDepth 100000
noncomputable section
namespace Go.Rx
open Go.Proofs
theorem qPJ {m:qg} (hm:qig m=true) (id:Vector UInt8 16):stB (zI m id).1.qz=true:=by
 unfold zI
 cases e:qCs m.L id with
 | none=>rfl
 | some i=>exact (qPM.1 ((qT5.1 hm).1 i (qD2 e).1).1).2.1
theorem qVC {x y:qc} (hx:stB x=true) (h:slB x y=true):y≠zSt:=by
 rintro rfl
 by_cases e:x=zSt
 ·subst e; rw [YS] at h; cases h
 ·have:=qwB (qCo hx e) h
  rw [YS] at this; cases this
section
variable {N:Nat} [Jj N]
theorem qxD {m:qg} (h:m.L.length≤600) (id:Vector UInt8 16):Vv N m id=some (zI m id):=by
 have key:=qdo (B:=ZH N [] m id (Vector.replicate 16 0) (qc.mk 0 0)) (g:=some) (p:=fun k=>decide ((m.L.getD k zL).ID=id)) (n:=m.L.length) (hit:=fun k=>.inl (m.L.getD k zL)) (fin:=.inr (((m.L.length:Nat):Int),false)) (fun k hk=>by
  unfold ZH
  refine w_t (dec_lt hk) <| ql (zo (d:=zL) hk) <| qcD (qs8 _ _) (fun h=>?_) fun h=>?_
  ·exact ql (zo (d:=zL) hk) <| qA (by rw [if_pos h])
  ·exact qF (zB (by omega)) <| qA (by rw [if_neg (by rw [show decide ((m.L.getD k zL).ID=id)=false from h]; simp),qT])) (by
  unfold ZH
  exact w_f (zi (Nat.lt_irrefl _)) (qA (by rw [zi (Nat.lt_irrefl _)]))) N 0 (Nat.zero_le _) (by have:=big N; omega)
 rw [Nat.sub_zero] at key
 have e:qaQ N [] m id (Vector.replicate 16 0) (qc.mk 0 0) 0=qQ (ZH N [] m id (Vector.replicate 16 0) (qc.mk 0 0)) some N ((0:Nat):Int):=rfl
 unfold Vv qcj zI qCs
 refine ql ((zl rfl).trans (e.trans key)) ?_
 cases Zk (fun k=>decide ((m.L.getD k zL).ID=id)) m.L.length 0 with
 | none=>exact w_r rfl <| qF rfl <| qA rfl
 | some i=>rfl
theorem qPB {m:qg} (hf:qqZ m=true) (id:Vector UInt8 16) (no:Int):KM N m id no=some (qOq m id no):=by
 have hl:=(qxb hf id).1
 have hm:=(qhi.1 hf).1
 have key:=qdo (B:=Z0 N (qc.mk 0 0) (Vector.replicate 32 0) (zI m id).1 no) (g:=some) (p:=fun k=>decide (((zI m id).1.F.getD k zE).No=no)) (n:=(zI m id).1.F.length) (hit:=fun k=>.inl ((zI m id).1.F.getD k zE)) (fin:=.inr ((((zI m id).1.F.length:Nat):Int),false)) (fun k hk=>by
  unfold Z0
  refine w_t (dec_lt hk) <| ql (zo (d:=zE) hk) <| qcD (c:=decide (((zI m id).1.F.getD k zE).No=no)) rfl (fun h=>?_) fun h=>?_
  ·exact ql (zo (d:=zE) hk) <| qA (by rw [if_pos h])
  ·exact qF (zB (by omega)) <| qA (by rw [if_neg (by rw [h]; simp),qT])) (by
  unfold Z0
  exact w_f (zi (Nat.lt_irrefl _)) (qA (by rw [zi (Nat.lt_irrefl _)]))) N 0 (Nat.zero_le _) (by have:=big N; omega)
 rw [Nat.sub_zero] at key
 have e:qbw N (qc.mk 0 0) (Vector.replicate 32 0) (zI m id).1 no 0=qQ (Z0 N (qc.mk 0 0) (Vector.replicate 32 0) (zI m id).1 no) some N ((0:Nat):Int):=rfl
 unfold KM qcE qOq qxy
 refine ql (qxD (by omega) id) <| ql (e.trans key) ?_
 cases Zk (fun k=>decide (((zI m id).1.F.getD k zE).No=no)) (zI m id).1.F.length 0<;>rfl
section f
variable {m:qg} (hf:qqZ m=true)
include hf
theorem qKC {c:qe} {id:Vector UInt8 16} {no:Int} (hc:c.V.length≤50000):Vk N c m id no=some (exB c (zI m id).1 no):=by
 have hN:=big N
 have hm:=(qhi.1 hf).1
 unfold Vk Ky exB
 refine ql (qxD (by omega) id) <| ql (qPB hf id no) <| ql (Yn _ _) ?_
 unfold qOq
 generalize (zI m id).1=x
 show (Tree.cond (!slB x.qz c.S) _ _).run some=some (slB x.qz c.S&&_)
 cases slB x.qz c.S with
 | false=>rfl
 | true=>
  refine w_f rfl ?_
  cases qxy x.F no with
  | none=>rfl
  | some i=>
   refine w_f rfl ?_
   show _=some (if (x.F.getD i zE).S=c.S then ltD (x.F.getD i zE).D (VE c.V) else slB (x.F.getD i zE).S c.S)
   by_cases h:(x.F.getD i zE).S=c.S
   ·rw [if_pos h]
    exact w_f (by rw [qbm]; show (!decide ((x.F.getD i zE).S=c.S))=false; rw [decide_eq_true h]; rfl) <| ql (qIs (by show c.V.length≤_; omega) (by show c.V.length + 100 < N; omega)) <| ql (qIY _ _) <| qA rfl
   ·rw [if_neg h]
    exact w_t (by rw [qbm]; show (!decide ((x.F.getD i zE).S=c.S))=true; rw [decide_eq_false h]; rfl) <| ql (Yn _ _) <| qA rfl
theorem qLR {o : List qa} {b : qb} {r : qa} {o6 : Vector UInt8 16} {o7 : qc} {s8 : Int} {s13 : Bool} (hl : r.F.length ≤ 600) (hV : ∀ k, k < r.F.length → (r.F.getD k zF).C.V.length ≤ 200) :
    ZC N o b m r o6 o7 s8 s13 [] 0=some (r.F.filter fun f=>exB f.C (zI m r.ID).1 f.No,((r.F.length:Nat):Int),false):=by
 refine jd (σ:=Unit) (B:=J9 N o b m r o6 o7 s8 s13) (g:=some) (at_:=fun k _=>((r.F.take k).filter fun f=>exB f.C (zI m r.ID).1 f.No,(k:Int))) (I:=fun _ _=>True) (f:=fun _ s=>s) (n:=r.F.length)
  (fin:=fun _=>(r.F.filter fun f=>exB f.C (zI m r.ID).1 f.No,((r.F.length:Nat):Int),false)) (fun k s hk _=>⟨?_,trivial⟩) (fun s _=>?_) N 0 () trivial (Nat.zero_le _) (by have:=big N; omega)
 ·have hle:((r.F.take k).filter fun f=>exB f.C (zI m r.ID).1 f.No).length≤600:=Nat.le_trans (List.length_filter_le _ _) (by rw [List.length_take]; omega)
  have hVk:=hV k hk
  have g:=zo (d:=zF) hk
  unfold J9
  rw [qA0 (d:=zF) hk]
  refine w_t (dec_lt hk) <| ql g <| ql g <| ql (qKC hf (by show (r.F.getD k zF).C.V.length≤_; omega)) <| qcD rfl (fun h=>?_) fun h=>?_
  ·rw [if_pos (show (fun f:qd=>exB f.C (zI m r.ID).1 f.No) (r.F.getD k zF)=true from h)]
   exact ql g <| qF ⟨rfl,by rw [List.length_append]; unfold zh; simp; omega⟩ <| qF (zB (by omega)) <| qA (by rw [qT])
  ·rw [if_neg (show ¬ (fun f:qd=>exB f.C (zI m r.ID).1 f.No) (r.F.getD k zF)=true from fun h'=>by rw [show (fun f:qd=>exB f.C (zI m r.ID).1 f.No) (r.F.getD k zF)=false from h] at h'; cases h'),List.append_nil]
   exact qF (zB (by omega)) <| qA (by rw [qT])
 ·unfold J9
  exact w_f (zi (Nat.lt_irrefl _)) (qA (by rw [zi (Nat.lt_irrefl _),List.take_of_length_le (Nat.le_refl _)]))
theorem qMZ {a:qb} (ha:jm a=true) (hm:qig m=true):QY N a m=some (QS m a.R):=by
 have hN:=big N
 have hA:=qo8.1 ha
 have hfm:=qhi.1 hf
 have key:qap N a m [] 0=some (QS m a.R,((a.R.length:Nat):Int),false):=by
  refine jd (σ:=Unit) (B:=VJ N a m) (g:=some) (at_:=fun k _=>(QS m (a.R.take k),(k:Int))) (I:=fun _ _=>True) (f:=fun _ s=>s) (n:=a.R.length)
   (fin:=fun _=>(QS m a.R,((a.R.length:Nat):Int),false)) (fun k s hk _=>⟨?_,trivial⟩) (fun s _=>?_) N 0 () trivial (Nat.zero_le _) (by omega)
  ·have hrk:=(hA.1 k hk).1
   have hl:=quE (m:=m) (l:=a.R.take k)
   have hlt:(a.R.take k).length≤10:=by rw [List.length_take]; omega
   have eT:QS m (a.R.take (k + 1))=QS m (a.R.take k)++Xz m (a.R.getD k zR):=qyG (d:=zR) hk
   have cav:∀ x:qa,zU (QS m (a.R.take k)).length (QS m (a.R.take k)).length (QS m (a.R.take k)++[x]).length 56:=fun x=>⟨rfl,by rw [List.length_append]; unfold zh; simp; omega⟩
   have e16:∀ (D:qc) (s13:Bool),ZC N (QS m (a.R.take k)) a m (a.R.getD k zR) (a.R.getD k zR).ID D (k:Int) s13 [] 0=some ((a.R.getD k zR).F.filter fun f=>exB f.C (zI m (a.R.getD k zR).ID).1 f.No,(((a.R.getD k zR).F.length:Nat):Int),false):=fun D s13=>qLR hf (by have:=YV hrk; omega) fun j hj=>qup (quY hrk j hj)
   have ns:qp ((k:Int) + 1):=zB (by omega)
   unfold VJ
   rw [eT]
   refine w_t (dec_lt hk) <| ql (zo (d:=zR) hk) <| ql (qxD (by omega) _) <| ql (Yn _ _) ?_
   cases hs:slB (zI m (a.R.getD k zR).ID).1.qz (a.R.getD k zR).qz with
   | true=>
    have hp:partOf m (a.R.getD k zR)=qa.mk (a.R.getD k zR).ID (a.R.getD k zR).qz ((a.R.getD k zR).F.filter fun f=>exB f.C (zI m (a.R.getD k zR).ID).1 f.No):=by unfold partOf; rw [if_pos hs]
    have hz:=qVC (qPJ hm _) hs
    have hn:vv (partOf m (a.R.getD k zR))=false:=by
     rw [hp]
     show (decide ((a.R.getD k zR).qz=zSt)&&_)=false
     rw [decide_eq_false hz]; rfl
    rw [show Xz m (a.R.getD k zR)=[partOf m (a.R.getD k zR)] from if_neg (by rw [hn]; simp),hp]
    exact w_t rfl <| ql ((zl rfl).trans ((zl rfl).trans (e16 _ _))) <| w_t rfl <| qF rfl <| qF (cav _) <| qF ns <| qA (by rw [qT])
   | false=>
    have hp:partOf m (a.R.getD k zR)=qa.mk (a.R.getD k zR).ID zSt ((a.R.getD k zR).F.filter fun f=>exB f.C (zI m (a.R.getD k zR).ID).1 f.No):=by unfold partOf; rw [if_neg (by rw [hs]; simp)]
    refine w_f rfl <| ql ((zl rfl).trans ((zl rfl).trans (e16 _ _))) <| w_f rfl ?_
    by_cases hl0:((a.R.getD k zR).F.filter fun f=>exB f.C (zI m (a.R.getD k zR).ID).1 f.No).length=0
    ·have hn : vv (partOf m (a.R.getD k zR)) = true := by
        rw [hp]
        show (decide ((zSt:qc)=zSt)&&decide (((a.R.getD k zR).F.filter fun f=>exB f.C (zI m (a.R.getD k zR).ID).1 f.No).length=0))=true
        rw [decide_eq_true hl0,decide_eq_true rfl]; rfl
     rw [show Xz m (a.R.getD k zR)=[] from if_pos hn,List.append_nil]
     exact w_f (decide_eq_false (by show ¬ (0:Int) < ((((a.R.getD k zR).F.filter fun f=>exB f.C (zI m (a.R.getD k zR).ID).1 f.No).length:Nat):Int); omega)) <| qF ns <| qA (by rw [qT])
    ·have hn : vv (partOf m (a.R.getD k zR)) = false := by
        rw [hp]
        show (_&&decide (((a.R.getD k zR).F.filter fun f=>exB f.C (zI m (a.R.getD k zR).ID).1 f.No).length=0))=false
        rw [decide_eq_false hl0,Bool.and_false]
     rw [show Xz m (a.R.getD k zR)=[partOf m (a.R.getD k zR)] from if_neg (by rw [hn]; simp),hp]
     exact w_t (decide_eq_true (by show (0:Int) < ((((a.R.getD k zR).F.filter fun f=>exB f.C (zI m (a.R.getD k zR).ID).1 f.No).length:Nat):Int); omega)) <| qF rfl <| qF (cav _) <| qF ns <| qA (by rw [qT]; rfl)
  ·unfold VJ
   exact w_f (zi (Nat.lt_irrefl _)) (qA (by rw [zi (Nat.lt_irrefl _),List.take_of_length_le (Nat.le_refl _)]))
 unfold QY WU
 exact ql (qjU (qj2 ha)) <| ql (qKf (by omega) (fun k hk=>by have:=(hfm.2 k hk).1; omega)) <| w_f (by rw [ha]; rfl) <| w_f (by rw [hm]; rfl) <| ql ((zl rfl).trans key) <| qF rfl <| qA rfl
theorem qOm {a:qb} (fa:jj N a) (h:¬ (jm a=true∧qig m=true)):QY N a m=some []:=by
 have hfm:=qhi.1 hf
 unfold QY WU
 refine ql (qjU fa) <| ql (qKf (by omega) (fun k hk=>by have:=(hfm.2 k hk).1; omega)) ?_
 cases ha:jm a with
 | false=>rfl
 | true=>
  cases hm:qig m with
  | false=>rfl
  | true=>exact (h ⟨ha,hm⟩).elim
end f
theorem qEx {a b:qb} (fa:jj N a) (fb:jj N b):zw N a b=some (jB N a b):=by
 obtain ⟨x,e1,e2⟩:=qTq (N:=N) fa fb
 rw [e2]
 have:=qUw (N:=N) fa fb
 rw [e1] at this
 exact this
theorem qD3 {p:qa}:vv (Wk p)=decide (p.qz=zSt):=by
 unfold vv Wk
 show (decide (p.qz=zSt)&&true)=_
 rw [Bool.and_true]
theorem qsX {p:qa}:vv (Vm p)=decide (p.F.length=0):=by
 unfold vv Vm
 show (true&&decide (p.F.length=0))=_
 rw [Bool.true_and]
theorem qTl {b:qb} {p:qa} (fb:jj N b) (h1:p.F.length < N) (h2:p.F.length≤4611686018427387904):qbf N b p=some (qFb N b p):=by
 have hN:=big N
 have e0:∀ t:qa,eqE qh (qa.qz t) (qc.mk 0 0)=decide (t.qz=zSt):=fun t=>qbm _ _
 have fh:jj N (qb.mk [Wk p]):=qum (e:=Wk p) (by show 0 < N; omega) (Nat.zero_le _)
 have fl:jj N (qb.mk [Vm p]):=qum (e:=Vm p) h1 h2
 have dnot:∀ {n:Int},n=0→(!decide (n=0))=false:=fun h=>by rw [decide_eq_true h]; rfl
 have dnot':∀ {n:Int},¬ n=0→(!decide (n=0))=true:=fun h=>by rw [decide_eq_false h]; rfl
 have lz:(p.F.length=0→decide ((0:Int) < ((p.F.length:Nat):Int))=false)∧(p.F.length≠0→decide ((0:Int) < ((p.F.length:Nat):Int))=true):=⟨fun h=>decide_eq_false (by omega),fun h=>decide_eq_true (by omega)⟩
 unfold qbf qdk
 refine ql (qjU fb) <| ql (qrG _) <| ql (qzh (r:=Vm p) h1 h2) ?_
 unfold qFb qTk
 cases hb:jm b with
 | false=>rfl
 | true=>
  refine w_f rfl ?_
  have hst:stB (qa.qz p)=stB p.qz:=rfl
  rw [hst]
  cases hs:stB p.qz with
  | false=>
   rw [Bool.false_and,Bool.and_false,Bool.and_false]
   exact w_t rfl <| qF rfl <| qA rfl
  | true=>
   refine w_f rfl ?_
   rw [Bool.true_and,Bool.true_and]
   unfold qE9
   by_cases hz:p.qz=zSt
   ·have ez:eqE qh (qa.qz p) (qc.mk 0 0)=true:=(e0 p).trans (decide_eq_true hz)
    have eh:V9 N b (Wk p)=(b,0):=qIP (by rw [qD3,decide_eq_true hz])
    rw [eh]
    refine w_t ez ?_
    by_cases h0:p.F.length=0
    ·have hn:vv p=true:=by unfold vv; rw [decide_eq_true hz,decide_eq_true h0]; rfl
     rw [hn]
     exact w_t (decide_eq_true (by show ((p.F.length:Nat):Int)=0; omega)) <| qF rfl <| qA rfl
    ·have hn:vv p=false:=by unfold vv; rw [decide_eq_false h0,Bool.and_false]
     have el:V9 N b (Vm p)=jB N b (qb.mk [Vm p]):=qEJ (by rw [qsX,decide_eq_false h0])
     rw [hn,decide_eq_false h0,Bool.false_or]
     refine w_f (decide_eq_false (by show ¬ ((p.F.length:Nat):Int)=0; omega)) <| w_t (lz.2 h0) ?_
     cases hr:vg (Vm p) with
     | false=>exact w_t rfl <| qF rfl <| qA rfl
     | true=>
      refine w_f rfl <| w_f (by rw [ez]; rfl) <| w_t (lz.2 h0) <| ql (qEx fb fl) ?_
      rw [if_pos (show (b,(0:Int)).2=0 from rfl),el]
      by_cases q:(jB N b (qb.mk [Vm p])).2=0
      ·rw [if_pos q]; exact w_f (dnot q) <| qA rfl
      ·rw [if_neg q]; exact w_t (dnot' q) <| qF rfl <| qA rfl
   ·have ez:eqE qh (qa.qz p) (qc.mk 0 0)=false:=(e0 p).trans (decide_eq_false hz)
    have hn:vv p=false:=by unfold vv; rw [decide_eq_false hz,Bool.false_and]
    have eh:V9 N b (Wk p)=jB N b (qb.mk [Wk p]):=qEJ (by rw [qD3,decide_eq_false hz])
    rw [eh,hn]
    refine w_f ez ?_
    by_cases h0:p.F.length=0
    ·rw [decide_eq_true h0,Bool.true_or]
     refine w_f (lz.1 h0) <| w_t (by rw [ez]; rfl) <| ql (qEx fb fh) ?_
     by_cases q:(jB N b (qb.mk [Wk p])).2=0
     ·have el:V9 N (jB N b (qb.mk [Wk p])).1 (Vm p)=((jB N b (qb.mk [Wk p])).1,0):=qIP (by rw [qsX,decide_eq_true h0])
      rw [if_pos q,el]
      exact w_t (decide_eq_true q) <| w_f (lz.1 h0) <| w_f (dnot q) <| qA rfl
     ·rw [if_neg q]
      exact w_f (decide_eq_false q) <| w_t (dnot' q) <| qF rfl <| qA rfl
    ·rw [decide_eq_false h0,Bool.false_or]
     refine w_t (lz.2 h0) ?_
     cases hr:vg (Vm p) with
     | false=>exact w_t rfl <| qF rfl <| qA rfl
     | true=>
      refine w_f rfl <| w_t (by rw [ez]; rfl) <| ql (qEx fb fh) ?_
      by_cases q:(jB N b (qb.mk [Wk p])).2=0
      ·have fj:=qj2 (N:=N) (qMB fb fh q).2.2.2
       have el:V9 N (jB N b (qb.mk [Wk p])).1 (Vm p)=jB N (jB N b (qb.mk [Wk p])).1 (qb.mk [Vm p]):=qEJ (by rw [qsX,decide_eq_false h0])
       rw [if_pos q,el]
       refine w_t (decide_eq_true q) <| w_t (lz.2 h0) <| ql (qEx fj fl) ?_
       by_cases q2:(jB N (jB N b (qb.mk [Wk p])).1 (qb.mk [Vm p])).2=0
       ·rw [if_pos q2]; exact w_f (dnot q2) <| qA rfl
       ·rw [if_neg q2]; exact w_t (dnot' q2) <| qF rfl <| qA rfl
      ·rw [if_neg q]
       exact w_f (decide_eq_false q) <| w_t (dnot' q) <| qF rfl <| qA rfl
theorem qMV {r:qa} (hN:r.F.length < N) (h62:r.F.length≤4611686018427387904):KK N r r=some true:=by
 have es:∀ f:qd,eqE qB f f=true:=fun f=>(W_ qB f f).2 rfl
 have key:qaW N r r 0=some (.inr (((r.F.length:Nat):Int),false)):=by
  have:=VD (B:=Xq N r r) (g:=some) (q:=fun _=>true) (n:=r.F.length) (hit:=()) (fun k hk=>by
   unfold Xq
   exact w_t (dec_lt hk) <| ql (zo (d:=zF) hk) <| ql (zo (d:=zF) hk) <| w_f (by rw [es]; rfl) <| qF (zB (by omega)) <| qA (by rw [qT]; rfl)) (by
   unfold Xq
   exact w_f (zi (Nat.lt_irrefl _)) (qA (by rw [zi (Nat.lt_irrefl _)]))) hN
  rw [show ve (fun _=>true) r.F.length=true from J_.2 fun _ _=>rfl] at this
  exact this
 unfold KK qcv
 exact w_f (by rw [qs8,decide_eq_true rfl]; rfl) <| w_f (by rw [qbm,decide_eq_true rfl]; rfl) <| w_f (by rw [decide_eq_true rfl]; rfl) <| ql key <| w_r rfl <| qA rfl
theorem qEt {b:qb} (fb:jj N b):WO N b b=some true:=by
 have key:qbo N b b 0=some (.inr (((b.R.length:Nat):Int),false)):=by
  have:=VD (B:=XD N b b) (g:=some) (q:=fun _=>true) (n:=b.R.length) (hit:=()) (fun k hk=>by
   unfold XD
   exact w_t (dec_lt hk) <| ql (zo (d:=zR) hk) <| ql (zo (d:=zR) hk) <| ql (qMV (fb.2.2 k hk).1 (fb.2.2 k hk).2) <| w_f rfl <| qF (zB (by have:=fb.2.1; omega)) <| qA (by rw [qT]; rfl)) (by
   unfold XD
   exact w_f (zi (Nat.lt_irrefl _)) (qA (by rw [zi (Nat.lt_irrefl _)]))) fb.1
  rw [show ve (fun _=>true) b.R.length=true from J_.2 fun _ _=>rfl] at this
  exact this
 unfold WO qcf
 exact w_f (by rw [decide_eq_true rfl]; rfl) <| ql key <| w_r rfl <| qA rfl
theorem qQU {b:qb} {p:qa} (fb:jj N b) (h1:p.F.length < N) (h2:p.F.length≤4611686018427387904):jj N (qFb N b p).1:=by
 have hN:=big N
 have fe:jj N (qb.mk []):=⟨by show 0 < N; omega,Nat.zero_le _,fun k hk=>absurd hk (Nat.not_lt_zero _)⟩
 unfold qFb qE9
 split
 ·split
  ·rename_i q
   have f1:=qxP (e:=Wk p) fb (by show 0 < N; omega) (Nat.zero_le _) q
   split
   ·rename_i q2
    exact qxP (e:=Vm p) f1 h1 h2 q2
   ·exact fe
  ·exact fe
 ·exact fe
theorem qN7 {a:qb} {m:qg} (ha:jm a=true):jj N (qb.mk (QS m a.R)):=by
 have hN:=big N
 have hA:=Xn.1 ha
 have h10:(QS m a.R).length≤10:=Nat.le_trans quE hA.2
 refine ⟨by show (QS m a.R).length < N; omega,by show (QS m a.R).length≤_; omega,(qj4 (d:=zR) (l:=QS m a.R) (P:=fun x:qa=>x.F.length < N∧x.F.length≤4611686018427387904)).2 fun x hx=>?_⟩
 obtain ⟨r,hr,hx⟩:=List.mem_flatMap.1 hx
 have hf:=YV (hA.1.2 r hr)
 have:x.F.length≤8:=by
  unfold Xz at hx
  split at hx
  ·exact absurd hx List.not_mem_nil
  ·obtain rfl:=List.mem_singleton.1 hx
   exact Nat.le_trans (List.length_filter_le _ _) hf
 exact ⟨by omega,by omega⟩
end
end Go.Rx
end
set_option maxRecDepth 100000
noncomputable section
namespace Go.Rx
open Go.Proofs
section
variable {N:Nat} [Jj N]
theorem qMv (p:qa):J7 p=some (vv p):=by
 have e:eqE qh (qa.qz p) (qc.mk 0 0)=decide (p.qz=zSt):=qbm _ _
 have e2:decide (((p.F.length:Nat):Int)=0)=decide (p.F.length=0):=decide_eq_decide.2 (by omega)
 unfold J7 qc_ vv
 refine qcD e (fun h=>qA ?_) fun h=>qA ?_
 ·rw [h]; exact congrArg some e2
 ·rw [h]; rfl
theorem qLU {b : qb} {m : qg} {x : qn} {o5 : Vector UInt8 16} {o6 : qc} {s12 : List qa} {s13 s14 : Int} {l : List qd} (hx : x.F.length ≤ 600) (hl : l.length ≤ 600) (hV : ∀ k, k < l.length → (l.getD k zF).C.V.length ≤ 200) :
    Kc N b m x o5 o6 s12 s13 s14 l ((l.length:Nat):Int) [] 0=some (l.filter fun f=>exB f.C x f.No,((l.length:Nat):Int),false):=by
 refine jd (σ:=Unit) (B:=KR N b m x o5 o6 s12 s13 s14 l ((l.length:Nat):Int)) (g:=some) (at_:=fun k _=>((l.take k).filter fun f=>exB f.C x f.No,(k:Int))) (I:=fun _ _=>True) (f:=fun _ s=>s) (n:=l.length)
  (fin:=fun _=>(l.filter fun f=>exB f.C x f.No,((l.length:Nat):Int),false)) (fun k s hk _=>⟨?_,trivial⟩) (fun s _=>?_) N 0 () trivial (Nat.zero_le _) (by have:=big N; omega)
 ·have hle:((l.take k).filter fun f=>exB f.C x f.No).length≤600:=Nat.le_trans (List.length_filter_le _ _) (by rw [List.length_take]; omega)
  have hVk:=hV k hk
  unfold KR
  rw [qA0 (d:=zF) hk]
  refine w_t (dec_lt hk) <| ql (zo (d:=zF) hk) <| ql (qOR hx (by show (l.getD k zF).C.V.length≤_; omega)) <| qcD rfl (fun h=>?_) fun h=>?_
  ·rw [if_pos (show (fun f:qd=>exB f.C x f.No) (l.getD k zF)=true from h)]
   exact qF ⟨rfl,by rw [List.length_append]; unfold zh; simp; omega⟩ <| qF (zB (by omega)) <| qA (by rw [qT])
  ·rw [if_neg (show ¬ (fun f:qd=>exB f.C x f.No) (l.getD k zF)=true from fun h'=>by rw [show (fun f:qd=>exB f.C x f.No) (l.getD k zF)=false from h] at h'; cases h'),List.append_nil]
   exact qF (zB (by omega)) <| qA (by rw [qT])
 ·unfold KR
  exact w_f (zi (Nat.lt_irrefl _)) (qA (by rw [zi (Nat.lt_irrefl _),List.take_of_length_le (Nat.le_refl _)]))
theorem qGE {o2 : List qa} {b : qb} {m : qg} {x : qn} {o5 : Vector UInt8 16} {o6 : qc} {s12 : List qa} {s13 s14 : Int} {l : List qd} (hx : x.F.length ≤ 600) (hl : l.length ≤ 600) (hV : ∀ k, k < l.length → (l.getD k zF).C.V.length ≤ 200) :
    KP N o2 b m x o5 o6 s12 s13 s14 l ((l.length:Nat):Int) [] 0=some (l.filter fun f=>exB f.C x f.No,((l.length:Nat):Int),false):=qLU (b:=b) (m:=m) (o5:=o5) (o6:=o6) (s12:=s12) (s13:=s13) (s14:=s14) hx hl hV
section f
variable {m:qg} (hf:qqZ m=true)
include hf
theorem qSc {a:qb} (ha:jm a=true) (hm:qig m=true):Kw N a m=some (QS m a.R):=by
 have hN:=big N
 have hA:=qo8.1 ha
 have hfm:=qhi.1 hf
 have fits:jj N a:=⟨by omega,by omega,fun k hk=>by have:=YV (hA.1 k hk).1; exact ⟨by omega,by omega⟩⟩
 have hpart:∀ k,k < a.R.length→∀ D,(qa.mk (a.R.getD k zR).ID D ((a.R.getD k zR).F.filter fun f=>exB f.C (zI m (a.R.getD k zR).ID).1 f.No))=partOf m (a.R.getD k zR)∨D≠(if slB (zI m (a.R.getD k zR).ID).1.qz (a.R.getD k zR).qz=true then (a.R.getD k zR).qz else zSt):=fun k hk D=>by
  by_cases h:D=(if slB (zI m (a.R.getD k zR).ID).1.qz (a.R.getD k zR).qz=true then (a.R.getD k zR).qz else zSt)
  ·left; rw [h]; rfl
  ·exact .inr h
 have hrec:∀ k,k < a.R.length→(a.R.getD k zR).F.length≤600∧∀ j,j < (a.R.getD k zR).F.length→((a.R.getD k zR).F.getD j zF).C.V.length≤200:=fun k hk=>⟨by have:=YV (hA.1 k hk).1; omega,fun j hj=>qup (quY (hA.1 k hk).1 j hj)⟩
 have hlx:∀ id,(zI m id).1.F.length≤600:=fun id=>by have:=(qxb hf id).1; omega
 have s1:∀ (s:List qa) (k:Nat),s.length≤k→k≤a.R.length→qQ (Vc N a m a.R ((a.R.length:Nat):Int)) some N (s,(k:Int))=some (.inr (s++(a.R.drop k).flatMap (Xz m),((a.R.length:Nat):Int),false)):=fun s k hs hk=>by
  have:=jd (σ:=List qa) (B:=Vc N a m a.R ((a.R.length:Nat):Int)) (g:=some) (at_:=fun k s=>(s,(k:Int))) (I:=fun k s=>s.length≤k) (f:=fun k s=>s++Xz m (a.R.getD k zR)) (n:=a.R.length)
   (fin:=fun s=>.inr (s,((a.R.length:Nat):Int),false)) (fun k s hk hs=>⟨?_,?_⟩) (fun s _=>?_) N k s hs hk (by omega)
  ·rw [this]
   have key:∀ (m' k:Nat) (s:List qa),k + m'=a.R.length→zY (fun k s=>s++Xz m (a.R.getD k zR)) m' k s=s++(a.R.drop k).flatMap (Xz m):=by
    intro m'
    induction m' with
    | zero=>intro k s h; rw [List.drop_of_length_le (by omega)]; show s=s++[]; rw [List.append_nil]
    | succ m' ih=>
     intro k s h
     rw [qkF (d:=zR) (show k < a.R.length by omega),List.flatMap_cons]
     unfold zY
     rw [ih (k + 1) _ (by omega),List.append_assoc]
   rw [key _ k s (by omega)]
  ·have hr:=hrec k hk
   have keep:∀ D,D=(if slB (zI m (a.R.getD k zR).ID).1.qz (a.R.getD k zR).qz=true then (a.R.getD k zR).qz else zSt)→JS s a m (qa.mk (a.R.getD k zR).ID D ((a.R.getD k zR).F.filter fun f=>exB f.C (zI m (a.R.getD k zR).ID).1 f.No))=some (s++Xz m (a.R.getD k zR)):=fun D hD=>by
    rw [(hpart k hk D).resolve_right (fun h=>h hD)]
    unfold JS YE Xz
    refine ql (qMv _) ?_
    cases vv (partOf m (a.R.getD k zR)) with
    | true=>exact w_f rfl <| qA (by rw [if_pos rfl,List.append_nil])
    | false=>exact w_t rfl <| qF ⟨rfl,by rw [List.length_append]; unfold zh; simp; omega⟩ <| qA (by rw [if_neg (by simp)])
   unfold Vc
   refine w_t (dec_lt hk) <| ql (zo (d:=zR) hk) <| ql (qCj hf _) <| ql (W5 _ _) <| qcD rfl (fun h=>?_) fun h=>?_
   ·exact ql ((zl rfl).trans ((zl rfl).trans (qGE (hlx _) hr.1 hr.2))) <| qF rfl <| ql ((zl rfl).trans (keep _ (by rw [if_pos (show slB (zI m (a.R.getD k zR).ID).1.qz (a.R.getD k zR).qz=true from h)]))) <| qF (zB (by omega)) <| qA (by rw [qT])
   ·exact ql ((zl rfl).trans ((zl rfl).trans (qGE (hlx _) hr.1 hr.2))) <| qF rfl <| ql ((zl rfl).trans (keep _ (by rw [if_neg (show ¬ slB (zI m (a.R.getD k zR).ID).1.qz (a.R.getD k zR).qz=true from fun h'=>by rw [show slB (zI m (a.R.getD k zR).ID).1.qz (a.R.getD k zR).qz=false from h] at h'; cases h')]; rfl))) <| qF (zB (by omega)) <| qA (by rw [qT])
  ·rw [List.length_append]
   have:=qGD (m:=m) (r:=a.R.getD k zR)
   omega
  ·unfold Vc
   exact w_f (zi (Nat.lt_irrefl _)) (qA (by rw [zi (Nat.lt_irrefl _)]))
 have l1:∃ z,qik N a m a.R ((a.R.length:Nat):Int) 0=some z∧(match z with | .inl _=>[] | .inr w=>w.1)=QS m a.R:=by
  refine qjL (B:=WD N a m a.R ((a.R.length:Nat):Int)) (g:=qfb N N (a,m,a.R,((a.R.length:Nat):Int))) (I:=fun v=>∃ k:Nat,k≤a.R.length∧v=(k:Int)∧(a.R.take k).flatMap (Xz m)=[]) (Q:=fun z=>(match z with | .inl _=>[] | .inr w=>w.1)=QS m a.R) (fun v=>a.R.length - v.toNat) ?_ N ((0:Nat):Int) ⟨0,Nat.zero_le _,rfl,rfl⟩ (by simp; omega)
  rintro v ⟨k,hk,rfl,h0⟩
  by_cases h:k < a.R.length
  ·have hr:=hrec k h
   have hall:QS m a.R=(a.R.take k).flatMap (Xz m)++(Xz m (a.R.getD k zR)++(a.R.drop (k + 1)).flatMap (Xz m)):=by
    have:a.R=a.R.take k++(a.R.getD k zR::a.R.drop (k + 1)):=by rw [← qkF (d:=zR) h,List.take_append_drop]
    unfold QS
    conv=>lhs; rw [this]
    rw [List.flatMap_append,List.flatMap_cons]
   have roundS:∀ D,D=(if slB (zI m (a.R.getD k zR).ID).1.qz (a.R.getD k zR).qz=true then (a.R.getD k zR).qz else zSt)→Zz a m (qa.mk (a.R.getD k zR).ID D ((a.R.getD k zR).F.filter fun f=>exB f.C (zI m (a.R.getD k zR).ID).1 f.No))=some (if vv (partOf m (a.R.getD k zR))=true then .inr () else .inl ()):=fun D hD=>by
    rw [(hpart k h D).resolve_right (fun h=>h hD)]
    unfold Zz qat
    refine ql (qMv _) ?_
    cases vv (partOf m (a.R.getD k zR)) with
    | true=>rfl
    | false=>exact w_t rfl <| qF (by unfold qij; unfold zh; decide) <| qA rfl
   have both : ∀ D, D = (if slB (zI m (a.R.getD k zR).ID).1.qz (a.R.getD k zR).qz = true then (a.R.getD k zR).qz else zSt) →
       (Tree.bind (zV [(([]:List qd).length,0)] (Kc N a m (zI m (a.R.getD k zR).ID).1 (a.R.getD k zR).ID D a.R ((a.R.length:Nat):Int) (k:Int) (a.R.getD k zR).F (((a.R.getD k zR).F.length:Nat):Int) [] 0)) fun z4=>Tree.chk (z4.1.length=z4.1.length) <|
        .bind (Zz a m (qa.mk (a.R.getD k zR).ID D z4.1)) fun r5=>.sum r5 (fun _=>.chk (qp ((k:Int) + 1)) (.ret (.inr (.inl ([qa.mk (a.R.getD k zR).ID D z4.1],(k:Int) + 1))))) fun _=>.chk (qp ((k:Int) + 1)) (.ret (.inl ((k:Int) + 1):Int⊕KN))).run some =
       some (if vv (partOf m (a.R.getD k zR))=true then .inl ((k + 1:Nat):Int) else .inr (.inl ([partOf m (a.R.getD k zR)],((k + 1:Nat):Int)))):=fun D hD=>by
    refine ql ((zl rfl).trans (qLU (hlx _) hr.1 hr.2)) <| qF rfl <| ql (roundS D hD) ?_
    cases hn:vv (partOf m (a.R.getD k zR)) with
    | true=>exact w_r rfl <| qF (zB (by omega)) <| qA (by rw [qT]; rfl)
    | false=>
     refine w_l rfl <| qF (zB (by omega)) <| qA ?_
     rw [qT,← (hpart k h D).resolve_right (fun h=>h hD)]; rfl
   have step:(WD N a m a.R ((a.R.length:Nat):Int) (k:Int)).run some=some (if vv (partOf m (a.R.getD k zR))=true then .inl ((k + 1:Nat):Int) else .inr (.inl ([partOf m (a.R.getD k zR)],((k + 1:Nat):Int)))):=by
    unfold WD
    refine w_t (dec_lt h) <| ql (zo (d:=zR) h) <| ql (qCj hf _) <| ql (W5 _ _) <| qcD rfl (fun h=>?_) fun h=>?_
    ·exact both _ (by rw [if_pos (show slB (zI m (a.R.getD k zR).ID).1.qz (a.R.getD k zR).qz=true from h)])
    ·exact both _ (by rw [if_neg (show ¬ slB (zI m (a.R.getD k zR).ID).1.qz (a.R.getD k zR).qz=true from fun h'=>by rw [show slB (zI m (a.R.getD k zR).ID).1.qz (a.R.getD k zR).qz=false from h] at h'; cases h')]; rfl)
   cases hn:vv (partOf m (a.R.getD k zR)) with
   | true=>
    left
    rw [hn,if_pos rfl] at step
    exact ⟨_,step,⟨k + 1,h,rfl,by rw [qyG (d:=zR) h,h0]; unfold Xz; rw [if_pos hn]; rfl⟩,by simp only [Int.toNat_natCast]; omega⟩
   | false=>
    right
    rw [hn,if_neg (by simp)] at step
    refine ⟨_,_,step,s1 _ (k + 1) (by show (1:Nat)≤k + 1; omega) h,?_⟩
    show [partOf m (a.R.getD k zR)]++(a.R.drop (k + 1)).flatMap (Xz m)=_
    rw [hall,h0]
    unfold Xz
    rw [if_neg (by rw [hn]; simp)]; rfl
  ·right
   obtain rfl:k=a.R.length:=by omega
   rw [List.take_of_length_le (Nat.le_refl _)] at h0
   refine ⟨.inr (.inl (((a.R.length:Nat):Int),false)),_,?_,rfl,h0.symm⟩
   unfold WD
   exact w_f (zi (Nat.lt_irrefl _)) (qA (by rw [zi (Nat.lt_irrefl _)]))
 obtain ⟨z,ez,hz⟩:=l1
 unfold Kw qgf
 refine ql (qtG fits) <| w_f (by rw [ha]; rfl) <| ql (qPP (by omega) (fun k hk=>by have:=(hfm.2 k hk).1; omega)) <| w_f (by rw [hm]; rfl) <| ql (show qtY a m=some () from rfl) ?_
 rw [← hz]
 cases z with
 | inl w=>
  have e1:K6 N a m=some (.inl ()):=by
   unfold K6 qef
   exact ql ez <| w_l rfl <| qA rfl
  exact ql e1 <| w_l rfl <| qA rfl
 | inr w=>
  have e1:K6 N a m=some (.inr w.1):=by
   unfold K6 qef
   exact ql ez <| w_r rfl <| qA rfl
  exact ql e1 <| w_r rfl <| qF rfl <| qA rfl
theorem qSj {a:qb} (fa:jj N a) (h:¬ (jm a=true∧qig m=true)):Kw N a m=some []:=by
 have hfm:=qhi.1 hf
 unfold Kw qgf
 refine ql (qtG fa) ?_
 cases ha:jm a with
 | false=>exact w_t rfl <| qA rfl
 | true=>
  refine w_f rfl <| ql (qPP (by omega) (fun k hk=>by have:=(hfm.2 k hk).1; omega)) ?_
  cases hm:qig m with
  | false=>exact w_t rfl <| qA rfl
  | true=>exact (h ⟨ha,hm⟩).elim
end f
end
end Go.Rx
end
set_option maxRecDepth 100000
noncomputable section
namespace Go.Rx
open Go.Proofs
section
variable {N:Nat} [Jj N]
theorem qVE {m : qg} {i : Nat} (hi : i < m.L.length) (h12 : (m.L.getD i zL).F.length ≤ 12) :
    qce N m (i:Int) 0=some (if ve (fun k=>decide (((m.L.getD i zL).F.getD k zE).B.length≤40)) (m.L.getD i zL).F.length then .inr ((((m.L.getD i zL).F.length:Nat):Int),false) else .inl ()):=by
 refine VD (B:=X7 N m (i:Int)) (g:=some) (q:=fun k=>decide (((m.L.getD i zL).F.getD k zE).B.length≤40)) (fun k hk=>?_) ?_ (by have:=big N; omega)
 ·unfold X7
  refine ql (zo (d:=zL) hi) (w_t (dec_lt hk) (ql (zo (d:=zL) hi) (ql (zo (d:=zE) hk) (qcD (qth (c:=40)) (fun h=>?_) fun h=>qF (zB (by omega)) (qA ?_)))))
  ·rw [if_neg (by rw [Bool.not_eq_true'] at h; rw [h]; simp)]; rfl
  ·rw [Bool.not_eq_false'] at h; rw [if_pos h,qT]
 ·unfold X7
  exact ql (zo (d:=zL) hi) (w_f (zi (Nat.lt_irrefl _)) (qA (by rw [zi (Nat.lt_irrefl _)])))
theorem qVi {m : qg} (h14 : m.L.length ≤ 14) :
    qb9 N m 0=some (if ve (fun k=>qGd (m.L.getD k zL)) m.L.length then .inr (((m.L.length:Nat):Int),false) else .inl ()):=by
 refine VD (B:=Wg N m) (g:=some) (q:=fun k=>qGd (m.L.getD k zL)) (fun k hk=>?_) ?_ (by have:=big N; omega)
 ·unfold Wg qGd
  refine w_t (dec_lt hk) (ql (zo (d:=zL) hk) (qcD (qth (c:=12)) (fun h=>?_) fun h=>?_))
  ·rw [Bool.not_eq_true'] at h; rw [h]; rfl
  ·rw [Bool.not_eq_false'] at h
   refine ql (qVE hk (of_decide_eq_true h)) ?_
   rw [h,Bool.true_and]
   cases ve (fun j=>decide (((m.L.getD k zL).F.getD j zE).B.length≤40)) (m.L.getD k zL).F.length with
   | false=>rfl
   | true=>exact qF (zB (by omega)) (qA (by rw [qT]; rfl))
 ·unfold Wg
  exact w_f (zi (Nat.lt_irrefl _)) (qA (by rw [zi (Nat.lt_irrefl _)]))
theorem qU2 (m:qg):qbb N m=some (qqZ m):=by
 unfold qbb qdg qqZ
 refine qcD (qth (c:=14)) (fun h=>?_) fun h=>?_
 ·rw [Bool.not_eq_true'] at h; rw [h]; rfl
 ·rw [Bool.not_eq_false'] at h
  refine ql (qVi (of_decide_eq_true h)) ?_
  rw [h,Bool.true_and]
  cases ve (fun k=>qGd (m.L.getD k zL)) m.L.length<;>rfl
end
end Go.Rx
end
set_option maxRecDepth 100000
noncomputable section
namespace Go.Rx
open Go.Proofs
section
variable {N:Nat} [Jj N]
theorem qHk {a:qb} (fa:jj N a) (m:qg) (p:qa) (h1:p.F.length < N) (h2:p.F.length≤4611686018427387904) (c:qe) (id:Vector UInt8 16) (no:Int):vP N a m p c id no=some true:=by
 obtain ⟨x,ex⟩:=qVF (N:=N) a
 obtain ⟨y,ey⟩:=qMj (N:=N) p
 have fe:jj N (qb.mk []):=⟨by have:=big N; show 0 < N; omega,Nat.zero_le _,fun k hk=>absurd hk (Nat.not_lt_zero _)⟩
 unfold vP W0
 refine ql (show qNU=some true from rfl) <| ql ex <| ql (qU2 m) <| ql ey <| w_f rfl ?_
 cases x with
 | false=>rfl
 | true=>
  refine w_f rfl ?_
  cases hf:qqZ m with
  | false=>rfl
  | true=>
   refine w_f rfl ?_
   cases y with
   | false=>rfl
   | true=>
    refine w_f rfl <| qcD (c:=decide ((300:Int) < ((c.V.length:Nat):Int))) rfl (fun _=>rfl) fun h300=>?_
    have hV:c.V.length≤300:=by have:=of_decide_eq_false h300; omega
    have key:∃ l,Kw N a m=some l∧QY N a m=some l∧jj N (qb.mk l):=by
     by_cases h:jm a=true∧qig m=true
     ·exact ⟨_,qSc hf h.1 h.2,qMZ hf h.1 h.2,qN7 h.1⟩
     ·exact ⟨_,qSj hf fa h,qOm hf fa h,fe⟩
    obtain ⟨l,e1,e2,fl⟩:=key
    have e3:KO N l l=some true:=by
     unfold KO qb8
     exact ql (qEt fl) <| qA rfl
    refine ql (qWa fa h1 h2) <| ql (qTl fa h1 h2) <| ql e1 <| ql e2 <| ql e3 <| ql (qEt (qQU fa h1 h2)) <| ql (qKC hf (by omega)) <| w_t rfl <| w_t rfl <| w_t (decide_eq_true rfl) <| ql (qNp hf (by omega)) <| qA ?_
    exact congrArg some ((W_ .b _ _).2 rfl)
end
theorem qNF (a:qb) (m:qg) (p:qa) (c:qe) (id:Vector UInt8 16) (no:Int) (h1:a.R.length≤4611686018427387904) (h2:∀ k,k < a.R.length→(a.R.getD k zR).F.length≤4611686018427387904) (h3:p.F.length≤4611686018427387904):∃ N:Nat,vP N a m p c id no=some true:=by
 obtain ⟨M,hM⟩:=qWI a h1 h2
 have:Jj (100000 + M + p.F.length):=Jj.of (by omega)
 exact ⟨_,qHk (hM (100000 + M + p.F.length) (by omega)) m p (by omega) h3 c id no⟩
end Go.Rx
end
