/- A part of the proof of AboveTells: the law returns true for every input, and its arguments read as before. No condition. -/
import Derived.Test.YtmnngfcoenhhkaaGreatAboveTellsG
set_option linter.unusedSimpArgs false
set_option linter.unusedVariables false
set_option linter.unusedSectionVars false
set_option maxRecDepth 100000
noncomputable section
namespace Go.Rx
open Go.Proofs
theorem qVQ:∀ n < 32,0 < n→KC .u64 (IntKind.u64.wrap (0 - ((n:Nat):Int))) 31=((32 - n:Nat):Int):=by decide +kernel
theorem qUY:∀ n < 32,0 < n→qpY .u64 (32:Int) ((32 - n:Nat):Int)=((n:Nat):Int):=by decide +kernel
theorem qnL (x:UInt32) (n:Nat) (h:n < 32) (h0:0 < n):jx (c32 x) ((n:Nat):Int)=some (c32 (rot x n)):=by
 unfold jx qpH Ky Ym
 have h64:qp (0 - ((n:Nat):Int)):=by unfold qp; omega
 simp only [run_bind,qS,zc,qi h64,qVQ n h h0,qUY n h h0]
 rw [qi (show (0:Int)≤((32 - n:Nat):Int) by omega),qi (show (0:Int)≤((n:Nat):Int) by omega),Int.toNat_natCast,Int.toNat_natCast,Nat.min_eq_left (show 32 - n≤32 by omega),Nat.min_eq_left (show n≤32 by omega),qEA x _ (by omega),qt_ x n h,qBz]
 rfl
abbrev wAt {n:Nat} (v:Vector UInt32 n) (k:Nat):UInt32:=v.toList.getD k 0
abbrev bAt (l:List UInt8) (k:Nat):UInt32:=(l.getD k 0).toUInt32
def qle (b:List UInt8) (k:Nat) (w:Vector UInt32 64):Vector UInt32 64:=
 if k < 16 then w.setIfInBounds k ((bAt b (4 * k) <<< UInt32.ofNat 24) ||| (bAt b (4 * k + 1) <<< UInt32.ofNat 16) ||| (bAt b (4 * k + 2) <<< UInt32.ofNat 8) ||| bAt b (4 * k + 3))
 else w.setIfInBounds k (wAt w (k - 16) + wAt w (k - 7) + (rot (wAt w (k - 15)) 7 ^^^ rot (wAt w (k - 15)) 18 ^^^ (wAt w (k - 15) >>> UInt32.ofNat 3)) + (rot (wAt w (k - 2)) 17 ^^^ rot (wAt w (k - 2)) 19 ^^^ (wAt w (k - 2) >>> UInt32.ofNat 10)))
def qui (b:List UInt8):Vector UInt32 64:=zY (qle b) 64 0 (Vector.replicate 64 0)
theorem qxu (c:UInt8):IntKind.u32.wrap ((c.toNat:Nat):Int)=c32 c.toUInt32:=by
 rw [qdY,Nat.mod_eq_of_lt (by have:=c.toNat_lt; omega),c32,UInt8.toNat_toUInt32]
theorem qWg {N:Nat} {o:Vector UInt32 64} {b:List UInt8} {w:Vector UInt32 64} {k:Nat} (hb:b.length=64) (hk:k < 16):(Zn N o b (w,(k:Int))).run some=some (.inl (qle b k w,((k + 1:Nat):Int))):=by
 have g:∀ j < 4,qM b ((4:Int) * (k:Int) + ((j:Nat):Int))=some (b.getD (4 * k + j) 0):=fun j hj=>by
  rw [show (4:Int) * (k:Int) + ((j:Nat):Int)=((4 * k + j:Nat):Int) by omega]; exact zo (by omega)
 have g0:qM b ((4:Int) * (k:Int))=some (b.getD (4 * k) 0):=by have:=g 0 (by omega); simpa using this
 have g1:qM b ((4:Int) * (k:Int) + 1)=some (b.getD (4 * k + 1) 0):=g 1 (by omega)
 have g2:qM b ((4:Int) * (k:Int) + 2)=some (b.getD (4 * k + 2) 0):=g 2 (by omega)
 have g3:qM b ((4:Int) * (k:Int) + 3)=some (b.getD (4 * k + 3) 0):=g 3 (by omega)
 have c0:qp ((4:Int) * (k:Int)):=by unfold qp; omega
 have c1:qp ((4:Int) * (k:Int) + 1):=by unfold qp; omega
 have c2:qp ((4:Int) * (k:Int) + 2):=by unfold qp; omega
 have c3:qp ((4:Int) * (k:Int) + 3):=by unfold qp; omega
 have c4:qp ((k:Int) + 1):=by unfold qp; omega
 have d1:decide ((k:Int) < 64)=true:=decide_eq_true (by omega)
 have d2:decide ((k:Int) < 16)=true:=decide_eq_true (by omega)
 have p8:(0:Int)≤8:=by omega
 have p16:(0:Int)≤16:=by omega
 have p24:(0:Int)≤24:=by omega
 have pk:(0:Int)≤(k:Int)∧(k:Int) < ((64:Nat):Int):=by omega
 have pk2:k < 64:=by omega
 unfold Zn qle
 rw [if_pos hk]
 simp only [qL,run_bind,qS,zc,d1,d2,cond_true,qi c0,qi c1,qi c2,qi c3,g0,g1,g2,g3,Option.bind_some,qi p8,qi p16,qi p24,qxu,qEA _ 24 (by omega),qEA _ 16 (by omega),qEA _ 8 (by omega),qBz,qi (qH9 _),qi pk,UInt32.ofNat_toNat,Int.toNat_natCast,qi pk2,qi c4]
 rw [qT]
theorem qVJ {N:Nat} {o:Vector UInt32 64} {b:List UInt8} {w:Vector UInt32 64} {k:Nat} (h1:¬ k < 16) (hk:k < 64):(Zn N o b (w,(k:Int))).run some=some (.inl (qle b k w,((k + 1:Nat):Int))):=by
 have c4:qp ((k:Int) + 1):=by unfold qp; omega
 have d1:decide ((k:Int) < 64)=true:=decide_eq_true (by omega)
 have d2:decide ((k:Int) < 16)=false:=decide_eq_false (by omega)
 have e15:(k:Int) - 15=((k - 15:Nat):Int):=by omega
 have e2:(k:Int) - 2=((k - 2:Nat):Int):=by omega
 have e16:(k:Int) - 16=((k - 16:Nat):Int):=by omega
 have e7:(k:Int) - 7=((k - 7:Nat):Int):=by omega
 have i15:qp (((k - 15:Nat)):Int):=by unfold qp; omega
 have i2:qp (((k - 2:Nat)):Int):=by unfold qp; omega
 have i16:qp (((k - 16:Nat)):Int):=by unfold qp; omega
 have i7:qp (((k - 7:Nat)):Int):=by unfold qp; omega
 have p15:(0:Int)≤((k - 15:Nat):Int)∧((k - 15:Nat):Int) < ((64:Nat):Int):=by omega
 have p2:(0:Int)≤((k - 2:Nat):Int)∧((k - 2:Nat):Int) < ((64:Nat):Int):=by omega
 have p16:(0:Int)≤((k - 16:Nat):Int)∧((k - 16:Nat):Int) < ((64:Nat):Int):=by omega
 have p7:(0:Int)≤((k - 7:Nat):Int)∧((k - 7:Nat):Int) < ((64:Nat):Int):=by omega
 have q15:k - 15 < 64:=by omega
 have q2:k - 2 < 64:=by omega
 have q16:k - 16 < 64:=by omega
 have q7:k - 7 < 64:=by omega
 have p3:(0:Int)≤3:=by omega
 have p10:(0:Int)≤10:=by omega
 have pk:(0:Int)≤(k:Int)∧(k:Int) < ((64:Nat):Int):=by omega
 have r7:=fun x=>qnL x 7 (by omega) (by omega)
 have r18:=fun x=>qnL x 18 (by omega) (by omega)
 have r17:=fun x=>qnL x 17 (by omega) (by omega)
 have r19:=fun x=>qnL x 19 (by omega) (by omega)
 unfold Zn qle
 rw [if_neg h1]
 simp only [qL,run_bind,qS,zc,d1,d2,cond_true,cond_false]
 rw [e15,e2,e16,e7]
 rw [qi i15,qi p15,Int.toNat_natCast,qi q15,qi i2,qi p2,Int.toNat_natCast,qi q2,qi i16,qi p16,Int.toNat_natCast,qi q16,qi i7,qi p7,Int.toNat_natCast,qi q7]
 show (Option.bind (jx (c32 (wAt w (k - 15))) ((7:Nat):Int)) _)=_
 rw [r7,Option.bind_some]
 show (Option.bind (jx (c32 (wAt w (k - 15))) ((18:Nat):Int)) _)=_
 rw [r18,Option.bind_some,qi p3]
 show (Option.bind (jx (c32 (wAt w (k - 2))) ((17:Nat):Int)) _)=_
 rw [r17,Option.bind_some]
 show (Option.bind (jx (c32 (wAt w (k - 2))) ((19:Nat):Int)) _)=_
 rw [r19,Option.bind_some,qi p10,qi pk]
 simp only [qgr,Yt,qt_ _ 3 (by omega),qt_ _ 10 (by omega),qi (qH9 _),Int.toNat_natCast,UInt32.ofNat_toNat,qi hk,qi c4]
 rw [qT]
theorem qRl {N:Nat} {b:List UInt8} (hN:64 < N) (hb:b.length=64):qix N b=some (qui b):=by
 have key:qiT N (Vector.replicate 64 0) b (Vector.replicate 64 0) 0=some (qui b,(64:Int),false):=by
  refine (jd (σ:=Vector UInt32 64) (B:=Zn N (Vector.replicate 64 0) b) (g:=some) (at_:=fun k s=>(s,(k:Int))) (I:=fun _ _=>True) (f:=qle b) (n:=64)
   (fin:=fun s=>(s,(64:Int),false)) (fun k s hk _=>⟨?_,trivial⟩) (fun s _=>?_) N 0 (Vector.replicate 64 0) trivial (Nat.zero_le _) (by omega))
  ·by_cases h:k < 16
   ·exact qWg hb h
   ·exact qVJ h hk
  ·unfold Zn
   rfl
 unfold qix qjM
 rw [run_bind,key,Option.bind_some,zc]
def tW (K w:Vector UInt32 64) (i:Nat) (x:Vector UInt32 8):UInt32:=wAt x 7 + (rot (wAt x 4) 6 ^^^ rot (wAt x 4) 11 ^^^ rot (wAt x 4) 25) + ((wAt x 4 &&& wAt x 5) ^^^ (~~~(wAt x 4) &&& wAt x 6)) + wAt K i + wAt w i
def uW (x:Vector UInt32 8):UInt32:=(rot (wAt x 0) 2 ^^^ rot (wAt x 0) 13 ^^^ rot (wAt x 0) 22) + ((wAt x 0 &&& wAt x 1) ^^^ (wAt x 0 &&& wAt x 2) ^^^ (wAt x 1 &&& wAt x 2))
def qj1 (K w:Vector UInt32 64) (i:Nat) (x:Vector UInt32 8):Vector UInt32 8:=
 ((qbH x 1 7).setIfInBounds 0 (tW K w i x + uW x)).setIfInBounds 4 (wAt ((qbH x 1 7).setIfInBounds 0 (tW K w i x + uW x)) 4 + tW K w i x)
def qBP (x:Vector UInt32 8) (k:Nat) (s:Vector UInt32 8):Vector UInt32 8:=s.setIfInBounds k (wAt s k + wAt x k)
def quR (s:Vector UInt32 8) (K:Vector UInt32 64) (b:List UInt8):Vector UInt32 8:=zY (qBP (zY (qj1 K (qui b)) 64 0 s)) 8 0 s
theorem qVH {N:Nat} {s:Vector UInt32 8} {K w:Vector UInt32 64} {x:Vector UInt32 8} {k:Nat} (hk:k < 64):(VX N s K w (x,(k:Int))).run some=some (.inl (qj1 K w k x,((k + 1:Nat):Int))):=by
 have c4:qp ((k:Int) + 1):=by unfold qp; omega
 have d1:decide ((k:Int) < 64)=true:=decide_eq_true (by omega)
 have pk:(0:Int)≤(k:Int)∧(k:Int) < ((64:Nat):Int):=by omega
 have hj:∀ j < 8,(0:Int)≤((j:Nat):Int)∧((j:Nat):Int) < ((8:Nat):Int):=fun j hj=>by omega
 have j0:(0:Int)≤(0:Int)∧(0:Int) < ((8:Nat):Int):=hj 0 (by omega)
 have j1:(0:Int)≤(1:Int)∧(1:Int) < ((8:Nat):Int):=hj 1 (by omega)
 have j2:(0:Int)≤(2:Int)∧(2:Int) < ((8:Nat):Int):=hj 2 (by omega)
 have j4:(0:Int)≤(4:Int)∧(4:Int) < ((8:Nat):Int):=hj 4 (by omega)
 have j5:(0:Int)≤(5:Int)∧(5:Int) < ((8:Nat):Int):=hj 5 (by omega)
 have j6:(0:Int)≤(6:Int)∧(6:Int) < ((8:Nat):Int):=hj 6 (by omega)
 have j7:(0:Int)≤(7:Int)∧(7:Int) < ((8:Nat):Int):=hj 7 (by omega)
 have n0:0 < 8:=by omega
 have n1:1 < 8:=by omega
 have n2:2 < 8:=by omega
 have n4:4 < 8:=by omega
 have n5:5 < 8:=by omega
 have n6:6 < 8:=by omega
 have n7:7 < 8:=by omega
 have r:=fun x n h h0=>qnL x n h h0
 unfold VX qj1 tW uW
 rw [qL,d1,cond_true]
 simp only [run_bind,qS,zc]
 rw [qi j0,qi n0,qi j4,qi n4,qi j7,qi n7]
 show (Option.bind (jx (c32 (wAt x 4)) ((6:Nat):Int)) _)=_
 rw [r _ 6 (by omega) (by omega),Option.bind_some]
 show (Option.bind (jx (c32 (wAt x 4)) ((11:Nat):Int)) _)=_
 rw [r _ 11 (by omega) (by omega),Option.bind_some]
 show (Option.bind (jx (c32 (wAt x 4)) ((25:Nat):Int)) _)=_
 rw [r _ 25 (by omega) (by omega),Option.bind_some,qi j5,qi n5,qi j6,qi n6,qi pk,Int.toNat_natCast,qi hk]
 rw [qi pk,qi hk]
 show (Option.bind (jx (c32 (wAt x 0)) ((2:Nat):Int)) _)=_
 rw [r _ 2 (by omega) (by omega),Option.bind_some]
 show (Option.bind (jx (c32 (wAt x 0)) ((13:Nat):Int)) _)=_
 rw [r _ 13 (by omega) (by omega),Option.bind_some]
 show (Option.bind (jx (c32 (wAt x 0)) ((22:Nat):Int)) _)=_
 rw [r _ 22 (by omega) (by omega),Option.bind_some]
 rw [qi j1,qi n1,qi j2,qi n2,qi j1,qi n1,qi j2,qi n2,qi j0]
 simp only [qgr,qt2,qWM,Yt,qi (qH9 _),Int.toNat_natCast,UInt32.ofNat_toNat,qi n0,qi j4,qi n4,qi c4]
 rw [qT]
theorem qL0 {N:Nat} {s:Vector UInt32 8} {K:Vector UInt32 64} {b:List UInt8} (hN:64 < N) (hb:b.length=64):qae N s K b=some (quR s K b):=by
 have k1:qe2 N s K (qui b) s 0=some (zY (qj1 K (qui b)) 64 0 s,(64:Int),false):=by
  refine (jd (σ:=Vector UInt32 8) (B:=VX N s K (qui b)) (g:=some) (at_:=fun k s=>(s,(k:Int))) (I:=fun _ _=>True) (f:=qj1 K (qui b)) (n:=64)
   (fin:=fun s=>(s,(64:Int),false)) (fun k x hk _=>⟨qVH hk,trivial⟩) (fun x _=>?_) N 0 s trivial (Nat.zero_le _) (by omega))
  unfold VX
  rfl
 have k2:∀ x:Vector UInt32 8,qdv N K x s 0=some (zY (qBP x) 8 0 s,(8:Int),false):=fun x=>by
  refine (jd (σ:=Vector UInt32 8) (B:=WZ N K x) (g:=some) (at_:=fun k s=>(s,(k:Int))) (I:=fun _ _=>True) (f:=qBP x) (n:=8)
   (fin:=fun s=>(s,(8:Int),false)) (fun k y hk _=>⟨?_,trivial⟩) (fun y _=>?_) N 0 s trivial (Nat.zero_le _) (by omega))
  ·have c4:qp ((k:Int) + 1):=by unfold qp; omega
   have d1:decide ((k:Int) < 8)=true:=decide_eq_true (by omega)
   have pk:(0:Int)≤(k:Int)∧(k:Int) < ((8:Nat):Int):=by omega
   unfold WZ qBP
   simp only [qL,run_bind,qS,zc,d1,cond_true]
   rw [qi pk,Int.toNat_natCast,qi hk,qi pk,qi hk,qi pk]
   simp only [Yt,qi (qH9 _),Int.toNat_natCast,UInt32.ofNat_toNat,qi hk,qi c4]
   rw [qT]
  ·unfold WZ
   rfl
 unfold qae qgB
 rw [run_bind,qRl hN hb,Option.bind_some,run_bind,k1,Option.bind_some,run_bind,k2,Option.bind_some,zc]
 rfl
end Go.Rx
end
set_option maxRecDepth 100000
noncomputable section
namespace Go.Rx
open Go.Proofs
def qV_:Vector UInt32 8:=#v[1779033703,3144134277,1013904242,2773480762,1359893119,2600822924,528734635,1541459225]
def qe4:Vector UInt32 64:=#v[1116352408,1899447441,3049323471,3921009573,961987163,1508970993,2453635748,2870763221,
 3624381080,310598401,607225278,1426881987,1925078388,2162078206,2614888103,3248222580,
 3835390401,4022224774,264347078,604807628,770255983,1249150122,1555081692,1996064986,
 2554220882,2821834349,2952996808,3210313671,3336571891,3584528711,113926993,338241895,
 666307205,773529912,1294757372,1396182291,1695183700,1986661051,2177026350,2456956037,
 2730485921,2820302411,3259730800,3345764771,3516065817,3600352804,4094571909,275423344,
 430227734,506948616,659060556,883997877,958139571,1322822218,1537002063,1747873779,
 1955562222,2024104815,2227730452,2361852424,2428436474,2756734187,3204031479,3329325298]
def Zm (L:Nat):Nat:=(119 - L % 64) % 64
theorem qsT (n:Int):inB (IntKind.u8.wrap n):=by
 unfold inB
 have:IntKind.u8.wrap n=n % 256:=by simp [IntKind.wrap,IntKind.bits,IntKind.signed]
 rw [this]; omega
theorem qIL (a b:Nat):((a:Nat):Int).tmod ((b:Nat):Int)=((a % b:Nat):Int):=rfl
theorem qBA (a b:Nat):((a:Nat):Int).tdiv ((b:Nat):Int)=((a / b:Nat):Int):=rfl
theorem qzx {n k:Nat} (h:k≤2000000000):zU n n k 1:=⟨rfl,by unfold zh; omega⟩
theorem qVX {N:Nat} {o:Vector UInt8 32} {b:List UInt8} (hb:b.length≤1000000000) (hN:64 < N):ql9 N o b (b++[128])=some (b++[128]++List.replicate (Zm b.length) 0,false):=by
 have hz:Zm b.length < 64:=Nat.mod_lt _ (by omega)
 have h56:(b.length + 1 + Zm b.length) % 64=56:=by unfold Zm; omega
 have hlen:∀ k,(b++[128]++List.replicate k (0:UInt8)).length=b.length + 1 + k:=fun k=>by simp; omega
 have hne:∀ k,k < Zm b.length→(b.length + 1 + k) % 64≠56:=fun k hk=>by unfold Zm at *; omega
 have e0:ql9 N o b (b++[128])=qQ (qdb N o b) some N (b++[128]++List.replicate 0 (0:UInt8)):=by rw [List.replicate_zero,List.append_nil]; rfl
 rw [e0]
 refine (jd (σ:=Unit) (B:=qdb N o b) (g:=some) (at_:=fun k _=>b++[128]++List.replicate k (0:UInt8)) (I:=fun _ _=>True) (f:=fun _ s=>s) (n:=Zm b.length)
  (fin:=fun _=>(b++[128]++List.replicate (Zm b.length) 0,false)) (fun k s hk _=>⟨?_,trivial⟩) (fun s _=>?_) N 0 () trivial (Nat.zero_le _) (by omega))
 ·unfold qdb
  have c1:(64:Int)≠0:=by omega
  have e:decide ((((b++[128]++List.replicate k (0:UInt8)).length:Nat):Int).tmod 64=56)=false:=decide_eq_false (by
   rw [hlen]
   have:=hne k hk
   show ¬ (((b.length + 1 + k) % 64:Nat):Int)=56
   omega)
  have c2:zU (b++[128]++List.replicate k (0:UInt8)).length (b++[128]++List.replicate k (0:UInt8)).length ((b++[128]++List.replicate k (0:UInt8))++[UInt8.ofNat 0]).length 1:=qzx (by rw [List.length_append,hlen]; simp; omega)
  rw [qS,qi c1,qL,e,Bool.not_false,cond_true,qS,qi c2,zc]
  rw [List.replicate_succ',← List.append_assoc]
  rfl
 ·unfold qdb
  have c1:(64:Int)≠0:=by omega
  have e:decide ((((b++[128]++List.replicate (Zm b.length) (0:UInt8)).length:Nat):Int).tmod 64=56)=true:=decide_eq_true (by
   rw [hlen]
   show (((b.length + 1 + Zm b.length) % 64:Nat):Int)=56
   omega)
  rw [qS,qi c1,qL,e,Bool.not_true,cond_false,zc]
def qCI (L k:Nat):UInt8:=UInt8.ofNat (IntKind.u8.wrap (Jk (qnB .u64 (IntKind.u64.wrap ((L:Nat):Int)) 8) (min ((8:Int) * ((7:Int) - (k:Int))).toNat 64))).toNat
def qjG (L k:Nat) (l:List UInt8):List UInt8:=l++[qCI L k]
theorem qCN {L:Nat}:∀ (m k:Nat) (l:List UInt8),(zY (qjG L) m k l).length=l.length + m
 | 0,_,_=>rfl
 | m + 1,k,l=>by
  show (zY (qjG L) m (k + 1) (qjG L k l)).length=_
  rw [qCN m]; unfold qjG; rw [List.length_append]; simp; omega
theorem qU7 {N:Nat} {o:Vector UInt8 32} {b l:List UInt8} (hl:l.length≤1500000000) (hN:64 < N):qt7 N o b l 0=some (zY (qjG b.length) 8 0 l,(8:Int),false):=by
 refine (jd (σ:=List UInt8) (B:=qiv N o b) (g:=some) (at_:=fun k s=>(s,(k:Int))) (I:=fun k s=>s.length=l.length + k) (f:=qjG b.length) (n:=8)
  (fin:=fun s=>(s,(8:Int),false)) (fun k s hk hs=>⟨?_,?_⟩) (fun s _=>?_) N 0 l rfl (Nat.zero_le _) (by omega))
 ·have d1:decide ((k:Int) < 8)=true:=decide_eq_true (by omega)
  have c1:qp ((7:Int) - (k:Int)):=by unfold qp; omega
  have c2:qp ((8:Int) * ((7:Int) - (k:Int))):=by unfold qp; omega
  have c3:(0:Int)≤(8:Int) * ((7:Int) - (k:Int)):=by omega
  have c4:qp ((k:Int) + 1):=by unfold qp; omega
  have c5:zU s.length s.length (s++[qCI b.length k]).length 1:=qzx (by rw [List.length_append,hs]; simp; omega)
  unfold qiv
  rw [qL,d1,cond_true]
  simp only [qS,zc]
  rw [qi c1,qi c2,qi c3,qi (qsT _)]
  show chk (zU s.length s.length (s++[qCI b.length k]).length 1) _=_
  rw [qi c5,qi c4,qT]
  rfl
 ·unfold qjG; rw [List.length_append,hs]; simp; omega
 ·unfold qiv
  rfl
def chF (K:Vector UInt32 64):Nat→Vector UInt32 8→List UInt8→Vector UInt32 8
 | 0,s,_=>s
 | m + 1,s,l=>chF K m (quR s K (l.take 64)) (l.drop 64)
theorem qUl {N : Nat} {o : List UInt8} {o2 : Vector UInt8 32} {o3 : Vector UInt32 8} {K : Vector UInt32 64} (hN : 64 < N) : ∀ (m n : Nat) (s : Vector UInt32 8) (l : List UInt8), l.length = 64 * m → m < n →
    qQ (qbw N o o2 o3 K) some n (s,l)=some (.inr (chF K m s l,[],false))
 | 0,n + 1,s,l,hl,_=>by
  have:l=[]:=List.length_eq_zero_iff.1 (by omega)
  subst this
  exact zu (by unfold qbw; rfl) n
 | m + 1,n + 1,s,l,hl,hn=>by
  have d1:decide ((0:Int) < ((l.length:Nat):Int))=true:=decide_eq_true (by omega)
  have c1:(0:Int)≤0∧(0:Int)≤64∧(64:Int)≤((l.length:Nat):Int):=by omega
  have c2:(0:Int)≤64∧(64:Int)≤((l.length:Nat):Int):=by omega
  have ht:((l.take 64).drop 0).length=64:=by rw [List.drop_zero,List.length_take]; omega
  rw [Zq (v':=(quR s K (l.take 64),l.drop 64)) (by
   unfold qbw
   rw [qL,d1,cond_true,qS,qi c1,run_bind,qL0 hN ht,Option.bind_some,qS,qi c2,zc,List.drop_zero]) n]
  exact qUl hN m n _ _ (by rw [List.length_drop]; omega) (by omega)
 | _,0,_,_,_,hn=>by omega
theorem qPj {N m : Nat} {all : List UInt8} {o2 : Vector UInt8 32} {s : Vector UInt32 8} {K : Vector UInt32 64} (hN : 64 < N) (hm : m + 1 < N) (hl : all.length = 64 * (m + 1)) :
    qga N all o2 s K=some (.inr (chF K (m + 1) s all,[],false)):=by
 have d1:decide ((0:Int) < ((all.length:Nat):Int))=true:=decide_eq_true (by omega)
 have c1:(0:Int)≤0∧(0:Int)≤64∧(64:Int)≤((all.length:Nat):Int):=by omega
 have c2:(0:Int)≤64∧(64:Int)≤((all.length:Nat):Int):=by omega
 have ht:((all.take 64).drop 0).length=64:=by rw [List.drop_zero,List.length_take]; omega
 have hrun:(qgh N all o2 s K ()).run some=some (.inr (.inl (quR s K (all.take 64),all.drop 64))):=by
  unfold qgh
  rw [qL,d1,cond_true,qS,qi c1,qS,qi rfl,run_bind,qL0 hN ht,Option.bind_some,qS,qi c2,qS,qi rfl,zc,List.drop_zero]
 obtain ⟨N',rfl⟩:∃ N',N=N' + 1:=⟨N - 1,by omega⟩
 have e:qga (N' + 1) all o2 s K=qQ (qgh (N' + 1) all o2 s K) (qly (N' + 1) (N' + 1) (all,o2,s,K)) (N' + 1) ():=rfl
 rw [e,zu hrun]
 exact qUl (o:=all) (o2:=o2) (o3:=s) hN m (N' + 1) _ _ (by rw [List.length_drop]; omega) (by omega)
def qNa (s:Vector UInt32 8) (k:Nat):UInt8:=UInt8.ofNat (IntKind.u8.wrap (c32 (wAt s (k / 4) >>> UInt32.ofNat (24 - 8 * (k % 4))))).toNat
def qI2 (s:Vector UInt32 8) (k:Nat) (o:Vector UInt8 32):Vector UInt8 32:=o.setIfInBounds k (qNa s k)
def qTX (s:Vector UInt32 8):Vector UInt8 32:=zY (qI2 s) 32 0 (Vector.replicate 32 0)
theorem qV5 {N:Nat} {o:Vector UInt8 32} {s:Vector UInt32 8} (hN:64 < N):qkb N o s (Vector.replicate 32 0) 0=some (qTX s,(32:Int),false):=by
 refine (jd (σ:=Vector UInt8 32) (B:=qgn N o s) (g:=some) (at_:=fun k s=>(s,(k:Int))) (I:=fun _ _=>True) (f:=qI2 s) (n:=32)
  (fin:=fun s=>(s,(32:Int),false)) (fun k x hk _=>⟨?_,trivial⟩) (fun x _=>?_) N 0 (Vector.replicate 32 0) trivial (Nat.zero_le _) (by omega))
 ·have d1:decide ((k:Int) < 32)=true:=decide_eq_true (by omega)
  have e1:(k:Int).tdiv 4=((k / 4:Nat):Int):=qBA k 4
  have e2:(k:Int).tmod 4=((k % 4:Nat):Int):=qIL k 4
  have h4:(4:Int)≠0:=by omega
  have c1:qp (((k / 4:Nat)):Int):=by unfold qp; omega
  have c2:(0:Int)≤((k / 4:Nat):Int)∧((k / 4:Nat):Int) < ((8:Nat):Int):=by omega
  have c3:k / 4 < 8:=by omega
  have c4:qp ((8:Int) * ((k % 4:Nat):Int)):=by unfold qp; omega
  have e3:(24:Int) - (8:Int) * ((k % 4:Nat):Int)=((24 - 8 * (k % 4):Nat):Int):=by omega
  have c5:qp ((24 - 8 * (k % 4):Nat):Int):=by unfold qp; omega
  have c6:(0:Int)≤((24 - 8 * (k % 4):Nat):Int):=by omega
  have c7:(0:Int)≤(k:Int)∧(k:Int) < ((32:Nat):Int):=by omega
  have c8:qp ((k:Int) + 1):=by unfold qp; omega
  unfold qgn qI2 qNa
  rw [qL,d1,cond_true]
  simp only [qS,zc]
  rw [e1,e2,e3,qi h4,qi c1,qi c2,Int.toNat_natCast,qi c3,qi h4,qi c4,qi c5,qi c6,qi c7,qi (qsT _),Int.toNat_natCast,qi hk,qi c8,Int.toNat_natCast,Nat.min_eq_left (show 24 - 8 * (k % 4)≤32 by omega)]
  rw [qT]
  show some (Sum.inl (x.setIfInBounds k (UInt8.ofNat (IntKind.u8.wrap (Jk (c32 (wAt s (k / 4))) (24 - 8 * (k % 4)))).toNat),_))=_
  rw [qt_ _ _ (by omega)]
 ·unfold qgn
  rfl
def qlx (b:List UInt8):List UInt8:=zY (qjG b.length) 8 0 (b++[128]++List.replicate (Zm b.length) 0)
def VE (b:List UInt8):Vector UInt8 32:=qTX (chF qe4 ((qlx b).length / 64) qV_ (qlx b))
theorem qMg (b:List UInt8):∃ m,(qlx b).length=64 * (m + 1)∧m≤b.length:=by
 have h:(qlx b).length=b.length + 1 + Zm b.length + 8:=by unfold qlx; rw [qCN]; simp; omega
 rw [h]
 refine ⟨(b.length + 1 + Zm b.length + 8) / 64 - 1,?_,?_⟩
 ·unfold Zm; omega
 ·unfold Zm; omega
theorem qQ9 {l:List UInt8} (h:l.length≤1000000000):K9 l=some ():=by
 unfold K9
 cases l with
 | nil=>kernel_rfl
 | cons x r=>
  show qqL (x::r)=_
  unfold qqL qlr
  have h2:zU ([]:List UInt8).length 0 ([]++x::r).length 1:=⟨rfl,by rw [List.nil_append]; unfold zh; omega⟩
  rw [qS,qi (List.isEmpty_cons),qS,qi h2,zc]
theorem qdE {Z:Type} {a:Nat} {o:Option Z}:zV [(a,a)] o=o:=(zl rfl).trans (qyU o)
theorem qSO:qw5=some ():=by kernel_rfl
theorem qRn:qxo=some ():=by kernel_rfl
theorem qVW {N:Nat} {b:List UInt8} (hb:b.length≤1000000000) (hN:b.length + 100 < N):qhm N b=some (VE b):=by
 obtain ⟨m,hm,hmb⟩:=qMg b
 have c1:zU (([]:List UInt8)++b).length (([]:List UInt8)++b).length ((([]:List UInt8)++b)++[UInt8.ofNat 128]).length 1:=qzx (by rw [List.nil_append,List.length_append]; simp; omega)
 have hpad:=qVX (N:=N) (o:=Vector.replicate 32 0) hb (by omega)
 have hlen:=qU7 (N:=N) (o:=Vector.replicate 32 0) (b:=b) (l:=b++[128]++List.replicate (Zm b.length) 0) (by have:Zm b.length < 64:=Nat.mod_lt _ (by omega); simp; omega) (by omega)
 have hch:∀ (s:Vector UInt32 8) (K:Vector UInt32 64),qga N (zY (qjG b.length) 8 0 (b++[128]++List.replicate (Zm b.length) 0)) (Vector.replicate 32 0) s K=some (.inr (chF K (m + 1) s (qlx b),[],false)):=fun s K=>qPj (by omega) (by omega) hm
 have hd:(qlx b).length / 64=m + 1:=by rw [hm]; omega
 have e1:(([]:List UInt8)++b)++[UInt8.ofNat 128]=b++[128]:=rfl
 unfold qhm qxf VE
 rw [run_bind,qQ9 hb,Option.bind_some,qS,qi c1,run_bind,e1,qdE,hpad,Option.bind_some]
 dsimp only
 rw [run_bind,qdE,hlen,Option.bind_some]
 dsimp only
 rw [run_bind,qSO,Option.bind_some,run_bind,qRn,Option.bind_some,run_bind,qdE,hch,Option.bind_some,qTQ,run_bind,qV5 (by omega),Option.bind_some,zc,hd]
 rfl
end Go.Rx
end
set_option maxRecDepth 100000
noncomputable section
namespace Go.Rx
open Go.Proofs
section n
variable {N:Nat} [Jm N]
def KT (c:qe):Bool:=!decide (c.S=zSt)&&(stB c.S&&decide (c.V.length≤200))
theorem qVg (c:qe):qgx c=some (KT c):=by
 unfold qgx quO KT
 have e:eqE qh c.S (qc.mk 0 0)=decide (c.S=zSt):=qaL _ _
 have e2:decide (((c.V.length:Nat):Int)≤200)=decide (c.V.length≤200):=decide_eq_decide.2 (by omega)
 rw [qL,e,run_bind,qnq,Option.bind_some,qL,zc,e2,zc]
 cases decide (c.S=zSt)<;>cases stB c.S<;>rfl
end n
end Go.Rx
end
set_option maxRecDepth 100000
noncomputable section
namespace Go.Rx
open Go.Proofs
abbrev zF:qd:=qd.mk 0 (qe.mk zSt [])
abbrev zR:qa:=qa.mk (Vector.replicate 16 0) zSt []
def qk_ (l:List qd) (dead:qc) (k:Nat):Bool:=
 (if k=0 then decide (0≤(l.getD k zF).No) else decide ((l.getD (k - 1) zF).No < (l.getD k zF).No))&&(!decide (8≤(l.getD k zF).No)&&(KT (l.getD k zF).C&&slB dead (l.getD k zF).C.S))
def vd (r:qa):Bool:=stB r.qz&&(!(decide (r.F.length=0)&&decide (r.qz=zSt))&&ve (qk_ r.F r.qz) r.F.length)
def qt0 (l:List qa) (k:Nat):Bool:=vd (l.getD k zR)&&(decide (k=0)||lbB (l.getD (k - 1) zR).ID (l.getD k zR).ID)
def jm (b:qb):Bool:=ve (qt0 b.R) b.R.length&&decide (b.R.length≤10)
section n
variable {N:Nat} [Jm N]
theorem qRX {f : qd} {dead : qc} {k : Nat} (h64 : qp ((k : Int) + 1)) :
    (Tree.cond (decide (((8:Int))≤(qd.No f))) (.ret (.inr (.inl ())))
     (Tree.bind (qgx (qd.C f)) fun r2=>Tree.cond (!r2) (.ret (.inr (.inl ())))
      (Tree.bind (vv N dead (qe.S (qd.C f))) fun r3=>Tree.cond (!r3) (.ret (.inr (.inl ())))
       (Tree.chk (qp ((k:Int) + 1)) (.ret (.inl ((k:Int) + 1):Int⊕(Unit⊕(Int×Bool)))))))).run some =
    some (if (!decide (8≤f.No)&&(KT f.C&&slB dead f.C.S))=true then .inl ((k:Int) + 1) else .inr (.inl ())):=by
 rw [qL,zc,run_bind,qVg,Option.bind_some,qL,zc,run_bind,W5,Option.bind_some,qL,zc,qS,qi h64,zc]
 cases decide (8≤f.No)<;>cases KT f.C<;>cases slB dead f.C.S<;>rfl
theorem qU3 {r : qa} (hN : r.F.length < N) (h62 : r.F.length ≤ 4611686018427387904) :
    qmA N r r.F ((r.F.length:Nat):Int) 0=some (if ve (qk_ r.F r.qz) r.F.length then .inr (((r.F.length:Nat):Int),false) else .inl ()):=by
 refine VD (B:=qim N r r.F ((r.F.length:Nat):Int)) (g:=some) (q:=qk_ r.F r.qz) (fun k hk=>?_) ?_ hN
 ·have h64:qp ((k:Int) + 1):=by unfold qp; omega
  have ht:=qRX (N:=N) (f:=r.F.getD k zF) (dead:=r.qz) h64
  unfold qim
  rw [qL,dec_lt hk,cond_true,run_bind,zo (d:=zF) hk,Option.bind_some,← qT]
  unfold qk_
  by_cases h0:k=0
  ·have d0:decide ((k:Int)=0)=true:=decide_eq_true (by omega)
   rw [qL,d0,cond_true,if_pos h0,qL]
   by_cases h1:(0:Int)≤(r.F.getD k zF).No
   ·rw [decide_eq_true h1,cond_true,ht,Bool.true_and]
   ·have d1:decide ((0:Int) < (k:Int))=false:=decide_eq_false (by omega)
    rw [decide_eq_false h1,cond_false,qL,d1,cond_false,zc]
    rfl
  ·have d0:decide ((k:Int)=0)=false:=decide_eq_false (by omega)
   have d1:decide ((0:Int) < (k:Int))=true:=decide_eq_true (by omega)
   have hp:qp ((k:Int) - 1):=by unfold qp; omega
   have hk1:k - 1 < r.F.length:=by omega
   rw [qL,d0,cond_false,if_neg h0,qL,d1,cond_true,qS,qi hp,run_bind,qjX (Nat.pos_of_ne_zero h0),zo (d:=zF) hk1,Option.bind_some,qL]
   by_cases h2:(r.F.getD (k - 1) zF).No < (r.F.getD k zF).No
   ·rw [decide_eq_true h2,Bool.not_true,cond_false,ht,Bool.true_and]
   ·rw [decide_eq_false h2,Bool.not_false,cond_true,zc]
    rfl
 ·unfold qim
  rw [qL,zi (Nat.lt_irrefl _),cond_false,zc]
theorem qzl {r:qa} (hN:r.F.length < N) (h62:r.F.length≤4611686018427387904):qjx N r=some (vd r):=by
 have e0:eqE qh r.qz (qc.mk 0 0)=decide (r.qz=zSt):=qaL _ _
 have d0:decide (((r.F.length:Nat):Int)=0)=decide (r.F.length=0):=decide_eq_decide.2 (by omega)
 unfold qjx qyJ vd
 rw [run_bind,qnq,Option.bind_some,qL,zc,qL,d0,qL,e0,zc,run_bind,qU3 hN h62,Option.bind_some]
 cases stB r.qz<;>cases decide (r.F.length=0)<;>cases decide (r.qz=zSt)<;>cases ve (qk_ r.F r.qz) r.F.length<;>rfl
theorem qUR {b : qb} (hN : b.R.length < N) (h62 : b.R.length ≤ 4611686018427387904) (hF : ∀ k, k < b.R.length → (b.R.getD k zR).F.length < N ∧ (b.R.getD k zR).F.length ≤ 4611686018427387904) :
    qpE N b b.R ((b.R.length:Nat):Int) 0=some (if ve (qt0 b.R) b.R.length then .inr (((b.R.length:Nat):Int),false) else .inl ()):=by
 refine VD (B:=qgi N b b.R ((b.R.length:Nat):Int)) (g:=some) (q:=qt0 b.R) (fun k hk=>?_) ?_ hN
 ·have h64:qp ((k:Int) + 1):=by unfold qp; omega
  unfold qgi
  rw [qL,dec_lt hk,cond_true,run_bind,zo (d:=zR) hk,Option.bind_some,run_bind,qzl (hF k hk).1 (hF k hk).2,Option.bind_some,qL,zc,qL,qrI,qS,qS,qi h64,zc,qT]
  unfold qt0
  cases vd (b.R.getD k zR) with
  | false=>rfl
  | true=>
   by_cases h0:k=0
   ·rw [decide_eq_true h0]; rfl
   ·have hp:qp ((k:Int) - 1):=by unfold qp; omega
    have hk1:k - 1 < b.R.length:=by omega
    rw [decide_eq_false h0,Bool.not_true,cond_false,Bool.not_false,cond_true,qi hp,run_bind,qjX (Nat.pos_of_ne_zero h0),zo (d:=zR) hk1,Option.bind_some,run_bind,qIQ,Option.bind_some,qL,zc,qS,qi (show qp ((k + 1:Nat):Int) by rw [← qT]; exact h64),zc]
    cases lbB (b.R.getD (k - 1) zR).ID (b.R.getD k zR).ID<;>rfl
 ·unfold qgi
  rw [qL,zi (Nat.lt_irrefl _),cond_false,zc]
theorem qVq {b:qb} (hN:b.R.length < N) (h62:b.R.length≤4611686018427387904) (hF:∀ k,k < b.R.length→(b.R.getD k zR).F.length < N∧(b.R.getD k zR).F.length≤4611686018427387904):qd4 N b=some (jm b):=by
 have e2:decide (((b.R.length:Nat):Int)≤10)=decide (b.R.length≤10):=decide_eq_decide.2 (by omega)
 unfold qd4 quV jm
 rw [run_bind,qUR hN h62 hF,Option.bind_some]
 cases ve (qt0 b.R) b.R.length with
 | false=>rfl
 | true=>show (Tree.run some (Tree.ret (decide (((b.R.length:Nat):Int)≤10))))=_; rw [zc,e2]; rfl
end n
theorem qaS {r:qa}:vd r=true↔stB r.qz=true∧(r.F.length≠0∨r.qz≠zSt)∧∀ k,k < r.F.length→qk_ r.F r.qz k=true:=by
 unfold vd
 rw [Bool.and_eq_true,Bool.and_eq_true,Vg,Bool.not_eq_true',Bool.and_eq_false_iff,decide_eq_false_iff_not,decide_eq_false_iff_not]
theorem Kr {l:List qd} {dead:qc} {k:Nat}:qk_ l dead k=true↔(if k=0 then 0≤(l.getD k zF).No else (l.getD (k - 1) zF).No < (l.getD k zF).No)∧(l.getD k zF).No < 8∧KT (l.getD k zF).C=true∧slB dead (l.getD k zF).C.S=true:=by
 unfold qk_
 rw [Bool.and_eq_true,Bool.and_eq_true,Bool.and_eq_true,Bool.not_eq_true',decide_eq_false_iff_not,Int.not_le]
 refine and_congr ?_ Iff.rfl
 split<;>exact decide_eq_true_iff
theorem qKv {r:qa} (h:vd r=true):∀ k,k < r.F.length→(k:Int)≤(r.F.getD k zF).No
 | 0,hk=>by
  have:=(Kr.1 ((qaS.1 h).2.2 0 hk)).1
  rw [if_pos rfl] at this; exact this
 | k + 1,hk=>by
  have:=(Kr.1 ((qaS.1 h).2.2 (k + 1) hk)).1
  rw [if_neg (by omega)] at this
  have ih:=qKv h k (by omega)
  rw [show k + 1 - 1=k by omega] at this
  omega
theorem YS {r:qa} (h:vd r=true):r.F.length≤8:=by
 by_cases e:r.F.length=0
 ·omega
 ·have h1:=qKv h (r.F.length - 1) (by omega)
  have h2:=(Kr.1 ((qaS.1 h).2.2 (r.F.length - 1) (by omega))).2.1
  omega
theorem qoM {b:qb}:jm b=true↔(∀ k,k < b.R.length→vd (b.R.getD k zR)=true∧(k=0∨lbB (b.R.getD (k - 1) zR).ID (b.R.getD k zR).ID=true))∧b.R.length≤10:=by
 unfold jm
 rw [Bool.and_eq_true,decide_eq_true_iff,Vg]
 refine and_congr (forall_congr' fun k=>imp_congr_right fun _=>?_) Iff.rfl
 show (vd (b.R.getD k zR)&&(decide (k=0)||lbB (b.R.getD (k - 1) zR).ID (b.R.getD k zR).ID))=true↔_
 rw [Bool.and_eq_true,Bool.or_eq_true,decide_eq_true_iff]
theorem qts {c:qe} (h:KT c=true):c.V.length≤200:=by
 unfold KT at h
 simp only [Bool.and_eq_true,decide_eq_true_iff] at h
 exact h.2.2
end Go.Rx
end
set_option maxRecDepth 100000
noncomputable section
namespace Go.Rx
open Go.Proofs
section n
variable {N:Nat} [Jm N]
def jj (N:Nat) (b:qb):Prop:=b.R.length < N∧b.R.length≤4611686018427387904∧∀ k,k < b.R.length→(b.R.getD k zR).F.length < N∧(b.R.getD k zR).F.length≤4611686018427387904
theorem quc {b:qb} (h:jj N b):qd4 N b=some (jm b):=qVq h.1 h.2.1 h.2.2
theorem qCB {l:List UInt8} (h:l.length≤50000):qsf N l=some (VE l):=by
 unfold qsf qCT
 rw [qS,qi (show qmH l.length by unfold qmH; omega),run_bind,qVW (by omega) (by have:=big N; omega),Option.bind_some,zc]
end n
end Go.Rx
end
noncomputable section
namespace Go.Rx
section
variable {α R:Type} {n:α→Option R} {y:Option R}
theorem qA {a:α} (h:n a=y):(Tree.ret a).run n=y:=h
theorem qF {p:Prop} [Decidable p] {t:Tree α} (h:p) (ht:t.run n=y):(Tree.chk p t).run n=y:=(qi h).trans ht
theorem ql {β:Type} {o:Option β} {k:β→Tree α} {x:β} (h:o=some x) (ht:(k x).run n=y):(Tree.bind o k).run n=y:=by subst h; exact ht
theorem w_t {b:Bool} {s t:Tree α} (h:b=true) (hs:s.run n=y):(Tree.cond b s t).run n=y:=by subst h; exact hs
theorem w_f {b:Bool} {s t:Tree α} (h:b=false) (ht:t.run n=y):(Tree.cond b s t).run n=y:=by subst h; exact ht
theorem qIK {β:Type} {o:Option β} {s:Tree α} {k:β→Tree α} (h:o=none) (hs:s.run n=y):(Tree.opt o s k).run n=y:=by subst h; exact hs
theorem qE2 {β:Type} {o:Option β} {s:Tree α} {k:β→Tree α} {x:β} (h:o=some x) (hk:(k x).run n=y):(Tree.opt o s k).run n=y:=by subst h; exact hk
theorem w_l {β γ:Type} {z:β⊕γ} {f:β→Tree α} {g:γ→Tree α} {x:β} (h:z=.inl x) (hk:(f x).run n=y):(Tree.sum z f g).run n=y:=by subst h; exact hk
theorem w_r {β γ:Type} {z:β⊕γ} {f:β→Tree α} {g:γ→Tree α} {x:γ} (h:z=.inr x) (hk:(g x).run n=y):(Tree.sum z f g).run n=y:=by subst h; exact hk
theorem qct {b:Bool} {s t:Tree α} {c:Bool} (h:b=c) (hs:c=true→s.run n=y) (ht:c=false→t.run n=y):(Tree.cond b s t).run n=y:=by
 subst h; cases b
 ·exact ht rfl
 ·exact hs rfl
end
theorem zB {k:Nat} (h:k≤4611686018427387904):qp ((k:Int) + 1):=by unfold qp; omega
theorem qVB {k:Nat} (h:k≤4611686018427387904):qp ((k:Int) - 1):=by unfold qp; omega
end Go.Rx
end
set_option maxRecDepth 100000
noncomputable section
namespace Go.Rx
open Go.Proofs
open Go.Lib (compareBytes)
theorem qLT:∀ l:List UInt8,compareBytes l l=0
 | []=>rfl
 | x::l=>by
  unfold compareBytes
  rw [if_neg (UInt8.lt_irrefl x),if_neg (UInt8.lt_irrefl x)]
  exact qLT l
theorem qKJ:∀ a b c:List UInt8,compareBytes a b < 0→compareBytes b c < 0→compareBytes a c < 0
 | [],[],_,h,_=>by simp [compareBytes] at h
 | [],_::_,[],_,h=>by simp [compareBytes] at h
 | [],_::_,_::_,_,_=>by simp [compareBytes]
 | _::_,[],_,h,_=>by simp [compareBytes] at h
 | _::_,_::_,[],_,h=>by simp [compareBytes] at h
 | x::a,y::b,z::c,h1,h2=>by
  unfold compareBytes at h1 h2 ⊢
  simp only [UInt8.lt_iff_toNat_lt] at h1 h2 ⊢
  by_cases hxy:x.toNat < y.toNat
  ·by_cases hyz:y.toNat < z.toNat
   ·rw [if_pos (by omega)]; decide
   ·rw [if_neg hyz] at h2
    by_cases hzy:z.toNat < y.toNat
    ·rw [if_pos hzy] at h2; simp at h2
    ·rw [if_pos (by omega)]; decide
  ·rw [if_neg hxy] at h1
   by_cases hyx:y.toNat < x.toNat
   ·rw [if_pos hyx] at h1; simp at h1
   ·rw [if_neg hyx] at h1
    by_cases hyz:y.toNat < z.toNat
    ·rw [if_pos (by omega)]; decide
    ·rw [if_neg hyz] at h2
     by_cases hzy:z.toNat < y.toNat
     ·rw [if_pos hzy] at h2; simp at h2
     ·rw [if_neg hzy] at h2
      rw [if_neg (by omega),if_neg (by omega)]
      exact qKJ a b c h1 h2
theorem qPo:∀ a b:List UInt8,(compareBytes a b < 0∧compareBytes b a > 0)∨a=b∨(compareBytes b a < 0∧compareBytes a b > 0)
 | [],[]=>.inr (.inl rfl)
 | [],_::_=>.inl ⟨by simp [compareBytes],by simp [compareBytes]⟩
 | _::_,[]=>.inr (.inr ⟨by simp [compareBytes],by simp [compareBytes]⟩)
 | x::a,y::b=>by
  unfold compareBytes
  by_cases h:x < y
  ·have h':¬ y < x:=fun h'=>by rw [UInt8.lt_iff_toNat_lt] at h h'; omega
   rw [if_pos h,if_neg h',if_pos h]
   exact .inl ⟨by omega,by omega⟩
  ·by_cases h':y < x
   ·rw [if_neg h,if_pos h',if_pos h']
    exact .inr (.inr ⟨by omega,by omega⟩)
   ·rw [if_neg h,if_neg h',if_neg h',if_neg h]
    have e:x=y:=by
     apply UInt8.toNat_inj.1
     rw [UInt8.lt_iff_toNat_lt] at h h'; omega
    subst e
    rcases qPo a b with h1 | h1 | h1
    ·exact .inl h1
    ·exact .inr (.inl (by rw [h1]))
    ·exact .inr (.inr h1)
theorem qS7 {n:Nat} (h:n < 18446744073709551616):IntKind.u64.wrap ((n:Nat):Int)=((n:Nat):Int):=by
 have:IntKind.u64.wrap (n:Int)=(n:Int) % 18446744073709551616:=by simp [IntKind.wrap,IntKind.bits,IntKind.signed]
 rw [this]; omega
def ltB (a b:List UInt8):Bool:=decide (compareBytes a b < 0)
theorem qed (a:List UInt8):ltB a a=false:=by unfold ltB; rw [qLT]; rfl
theorem qQA {a b c:List UInt8} (h1:ltB a b=true) (h2:ltB b c=true):ltB a c=true:=decide_eq_true (qKJ a b c (of_decide_eq_true h1) (of_decide_eq_true h2))
theorem qzi (a b:List UInt8):(ltB a b=true∧ltB b a=false)∨a=b∨(ltB b a=true∧ltB a b=false):=by
 rcases qPo a b with h | h | h
 ·exact .inl ⟨decide_eq_true h.1,decide_eq_false (by omega)⟩
 ·exact .inr (.inl h)
 ·exact .inr (.inr ⟨decide_eq_true h.1,decide_eq_false (by omega)⟩)
theorem qEL:∀ a b:List UInt8,Op.bytesLess a b=ltB a b
 | [],[]=>rfl
 | [],_::_=>rfl
 | _::_,[]=>rfl
 | x::a,y::b=>by
  have ih:=qEL a b
  unfold Op.bytesLess
  rw [ih]
  unfold ltB
  rw [show compareBytes (x::a) (y::b)=if x < y then -1 else if y < x then 1 else compareBytes a b from rfl]
  by_cases h:x < y
  ·rw [if_pos h,decide_eq_true h]; rfl
  ·rw [if_neg h,decide_eq_false h,Bool.false_or]
   by_cases h':y < x
   ·rw [if_pos h']
    have:(x == y)=false:=by
     rw [beq_eq_false_iff_ne]
     intro e; subst e; exact h h'
    rw [this]; rfl
   ·have e : x = y := by
       apply UInt8.toNat_inj.1
       rw [UInt8.lt_iff_toNat_lt] at h h'; omega
    subst e
    rw [if_neg h]
    simp
theorem qy_ (a b:Vector UInt8 16):lbB a b=ltB a.toList b.toList:=by
 unfold lbB
 by_cases h:a=b
 ·subst h; rw [decide_eq_true rfl,qed]; rfl
 ·rw [decide_eq_false h]; rfl
def ltD (a b:Vector UInt8 32):Bool:=ltB a.toList b.toList
theorem eqD (a b:Vector UInt8 32):eqE (.ba 32) a b=decide (a=b):=Bool.eq_iff_iff.2 ((Yb (.ba 32) a b).trans (decide_eq_true_iff (p:=(a:Vector UInt8 32)=b)).symm)
def qcL (a b:qe):Bool:=if a.S=b.S then (if VE a.V=VE b.V then ltB a.V b.V else ltD (VE a.V) (VE b.V)) else slB a.S b.S
def cJ (a b:qe):qe:=if qcL a b=true then b else a
def mxS (a b:qc):qc:=if slB a b=true then b else a
theorem qzF (a b:qc):(slB a b=true∧slB b a=false)∨a=b∨(slB b a=true∧slB a b=false):=by
 obtain ⟨a1,a2⟩:=a
 obtain ⟨b1,b2⟩:=b
 unfold slB
 simp only [decide_eq_true_iff,decide_eq_false_iff_not,Prod.mk.injEq]
 omega
theorem YR (a:qc):slB a a=false:=by
 unfold slB
 exact decide_eq_false (by omega)
theorem qyq {a b c:qc} (h1:slB a b=true) (h2:slB b c=true):slB a c=true:=by
 unfold slB at *
 rw [decide_eq_true_iff] at *
 omega
end Go.Rx
end
set_option maxRecDepth 100000
noncomputable section
namespace Go.Rx
open Go.Proofs
theorem qTn {α:Type} {x:Option α} [Decidable True]:chk True x=x:=if_pos trivial
theorem qJn {n:Nat} [Decidable (((n:Nat):Int) < ((n:Nat):Int))]:decide (((n:Nat):Int) < ((n:Nat):Int))=false:=decide_eq_false (Int.lt_irrefl _)
theorem qPp {l:List zy} (h:l.length≤1000000):Vq l=some ():=by
 unfold Vq
 cases l with
 | nil=>kernel_rfl
 | cons x r=>
  show qgI (x::r)=_
  unfold qgI qdX
  have h2:zU ([]:List zy).length 0 ([]++x::r).length 36:=⟨rfl,by rw [List.nil_append]; unfold zh; omega⟩
  simp only [Tree.run,qi h2,List.isEmpty_cons,qTn]
theorem qQJ {l:List qm} (h:l.length≤1000000):Zx l=some ():=by
 unfold Zx
 cases l with
 | nil=>kernel_rfl
 | cons x r=>
  show qc9 (x::r)=_
  unfold qc9 qbe
  have h2:zU ([]:List qm).length 0 ([]++x::r).length 88:=⟨rfl,by rw [List.nil_append]; unfold zh; omega⟩
  simp only [Tree.run,qi h2,List.isEmpty_cons,qTn]
theorem qPC {α:Type} {l:List α} {k:Nat} {d:α} (h:k < l.length):l.set k (l.getD k d)=l:=by
 rw [List.getD_eq_getElem?_getD,List.getElem?_eq_getElem h]; simp
section n
variable {N:Nat} [Jm N]
theorem qVV {x:qn} (h12:x.F.length≤12) (hB:∀ j,j < x.F.length→(x.F.getD j zE).B.length≤40):qip N x=some x:=by
 unfold qip qjK
 have key:qis N [] x.ID x.qz x.F.length (Vector.replicate 16 0) (qc.mk 0 0) ((x.F.length:Nat):Int) x.F 0=some (x.F,((x.F.length:Nat):Int),false):=by
  refine (jd (σ:=Unit) (B:=KQ N [] x.ID x.qz x.F.length (Vector.replicate 16 0) (qc.mk 0 0) ((x.F.length:Nat):Int)) (g:=some) (at_:=fun k _=>(x.F,(k:Int))) (I:=fun _ _=>True) (f:=fun _ s=>s) (n:=x.F.length)
   (fin:=fun _=>(x.F,((x.F.length:Nat):Int),false)) (fun k s hk _=>⟨?_,trivial⟩) (fun s _=>?_) N 0 () trivial (Nat.zero_le _) (by have:=big N; omega))
  ·unfold KQ
   have c1:(0:Int)≤(k:Int)∧(k:Int) < ((x.F.length:Nat):Int):=by omega
   have h64:qp ((k + 1:Nat):Int):=qzf (by omega)
   have hb:=hB k hk
   simp only [Tree.run,dec_lt hk,cond_true,qi c1,Int.toNat_natCast,qOX (d:=zE) rfl hk,Option.bind_some,qPp (show (x.F.getD k zE).B.length≤1000000 by omega),qT,qi h64,List.nil_append]
   have e:qm.mk (x.F.getD k zE).No (x.F.getD k zE).S (x.F.getD k zE).Len (x.F.getD k zE).D (x.F.getD k zE).B=x.F.getD k zE:=rfl
   rw [e,qPC hk]
  ·unfold KQ
   simp only [Tree.run,qJn,cond_false]
 simp only [Tree.run,qQJ (show x.F.length≤1000000 by omega),Option.bind_some,List.nil_append,List.length_nil,zl,qyU,key,qTn]
 rfl
def qCr (l:List qn) (id:Vector UInt8 16):Option Nat:=Zh (fun k=>decide ((l.getD k zL).ID=id)) l.length 0
def qxq (l:List qm) (no:Int):Option Nat:=Zh (fun k=>decide ((l.getD k zE).No=no)) l.length 0
def qWl:Option Nat→Int
 | some i=>(i:Int)
 | none=>-1
def zJ (m:qg) (id:Vector UInt8 16):qn×Bool:=match qCr m.L id with
 | some i=>(m.L.getD i zL,true)
 | none=>(zL,false)
def qNV (m:qg) (id:Vector UInt8 16) (no:Int):qm×Bool:=match qxq (zJ m id).1.F no with
 | some i=>((zJ m id).1.F.getD i zE,true)
 | none=>(zE,false)
theorem qPM {l:List qn} {id:Vector UInt8 16} (h:l.length≤600):Wg N id l=some (qWl (qCr l id)):=by
 have key:=qdR (B:=v8 N id l ((l.length:Nat):Int)) (g:=some) (p:=fun k=>decide ((l.getD k zL).ID=id)) (n:=l.length) (hit:=fun k=>.inl (k:Int)) (fin:=.inr (((l.length:Nat):Int),false)) (fun k hk=>by
  unfold v8 qhK qe6
  have h64:qp ((k + 1:Nat):Int):=qzf (by omega)
  simp only [Tree.run,dec_lt hk,cond_true,zo (d:=zL) hk,Option.bind_some,qT,qi h64,que]
  cases decide ((l.getD k zL).ID=id)<;>rfl) (by
  unfold v8
  simp only [Tree.run,qJn,cond_false]) N 0 (Nat.zero_le _) (by have:=big N; omega)
 have e:Yh N id l ((l.length:Nat):Int) 0=qQ (v8 N id l ((l.length:Nat):Int)) some N ((0:Nat):Int):=rfl
 unfold Wg YH
 simp only [Tree.run]
 rw [e,key,Nat.sub_zero]
 unfold qCr
 cases Zh (fun k=>decide ((l.getD k zL).ID=id)) l.length 0<;>rfl
theorem qEB {p:Nat→Bool} {n i:Nat} (h:Zh p n 0=some i):i < n∧p i=true:=by
 obtain ⟨h1,_,h2,_⟩:=qqR h
 exact ⟨by omega,h1⟩
section f
variable {m:qg} (hf:qqV m=true)
include hf
theorem qBm (id:Vector UInt8 16):YO N m id=some (zJ m id):=by
 obtain ⟨h14,hF⟩:=qgL.1 hf
 unfold YO qhQ zJ
 simp only [Tree.run,qPM (show m.L.length≤600 by omega),Option.bind_some]
 cases e:qCr m.L id with
 | none=>rfl
 | some i=>
  have hi:=(qEB e).1
  have hx:=hF i hi
  have hn:¬ (((i:Nat):Int) < 0):=by omega
  show (bif decide (((i:Nat):Int) < 0) then _ else _)=_
  rw [decide_eq_false hn]
  show ((qM _ ((i:Nat):Int)).bind _)=_
  simp only [ zo (d:=zL) hi,Option.bind_some,qVV hx.1 hx.2]
theorem qw6 (id:Vector UInt8 16):(zJ m id).1.F.length≤12∧∀ j,j < (zJ m id).1.F.length→((zJ m id).1.F.getD j zE).B.length≤40:=by
 obtain ⟨h14,hF⟩:=qgL.1 hf
 unfold zJ
 cases e:qCr m.L id with
 | none=>exact ⟨Nat.zero_le _,fun j hj=>absurd hj (Nat.not_lt_zero _)⟩
 | some i=>exact hF i (qEB e).1
end f
end n
end Go.Rx
end
set_option maxRecDepth 100000
noncomputable section
namespace Go.Rx
open Go.Proofs
section n
variable {N:Nat} [Jm N]
theorem qMN (r:qa):∃ b,QS N r=some b:=by
 unfold QS qdK
 by_cases h:r.F.length≤12
 ·have d:decide ((12:Int) < ((r.F.length:Nat):Int))=false:=decide_eq_false (by omega)
  have key:qcg N r 0=some (if ve (fun k=>decide ((r.F.getD k zF).C.V.length≤300)) r.F.length then .inr (((r.F.length:Nat):Int),false) else .inl ()):=by
   refine VD (B:=Wc N r) (g:=some) (q:=fun k=>decide ((r.F.getD k zF).C.V.length≤300)) (fun k hk=>?_) ?_ (by have:=big N; omega)
   ·unfold Wc
    have e:decide ((300:Int) < (((r.F.getD k zF).C.V.length:Nat):Int))=!decide ((r.F.getD k zF).C.V.length≤300):=qs7 (c:=300)
    rw [qL,dec_lt hk,cond_true,run_bind,zo (d:=zF) hk,Option.bind_some,qL,zc,e,qS,qi (show qp ((k:Int) + 1) by unfold qp; omega),zc,qT]
    cases decide ((r.F.getD k zF).C.V.length≤300)<;>rfl
   ·unfold Wc
    rw [qL,zi (Nat.lt_irrefl _),cond_false,zc]
  rw [qL,d,cond_false,run_bind,key,Option.bind_some]
  cases ve (fun k=>decide ((r.F.getD k zF).C.V.length≤300)) r.F.length
  ·exact ⟨_,rfl⟩
  ·exact ⟨_,rfl⟩
 ·have d:decide ((12:Int) < ((r.F.length:Nat):Int))=true:=decide_eq_true (by omega)
  exact ⟨false,by rw [qL,d,cond_true,zc]⟩
theorem qVu (b:qb):∃ x,qbs N b=some x:=by
 unfold qbs qdW
 by_cases h:b.R.length≤14
 ·have d:decide ((14:Int) < ((b.R.length:Nat):Int))=false:=decide_eq_false (by omega)
  have key:qce N b 0=some (if ve (fun k=>(QS N (b.R.getD k zR)).getD false) b.R.length then .inr (((b.R.length:Nat):Int),false) else .inl ()):=by
   refine VD (B:=Wh N b) (g:=some) (q:=fun k=>(QS N (b.R.getD k zR)).getD false) (fun k hk=>?_) ?_ (by have:=big N; omega)
   ·obtain ⟨x,e⟩:=qMN (N:=N) (b.R.getD k zR)
    unfold Wh
    rw [qL,dec_lt hk,cond_true,run_bind,zo (d:=zR) hk,Option.bind_some,run_bind,e,Option.bind_some,qL,zc,qS,qi (show qp ((k:Int) + 1) by unfold qp; omega),zc,qT]
    cases x<;>rfl
   ·unfold Wh
    rw [qL,zi (Nat.lt_irrefl _),cond_false,zc]
  rw [qL,d,cond_false,run_bind,key,Option.bind_some]
  cases ve (fun k=>(QS N (b.R.getD k zR)).getD false) b.R.length
  ·exact ⟨_,rfl⟩
  ·exact ⟨_,rfl⟩
 ·have d:decide ((14:Int) < ((b.R.length:Nat):Int))=true:=decide_eq_true (by omega)
  exact ⟨false,by rw [qL,d,cond_true,zc]⟩
end n
theorem qGz:∀ l:List qa,∃ M:Nat,∀ k,k < l.length→(l.getD k zR).F.length≤M
 | []=>⟨0,fun k hk=>by simp at hk⟩
 | r::l=>by
  obtain ⟨M,h⟩:=qGz l
  refine ⟨r.F.length + M,fun k hk=>?_⟩
  cases k with
  | zero=>simp
  | succ k=>
   have:=h k (by simpa using hk)
   simp only [List.getD_cons_succ]; omega
theorem qWN (b:qb) (h1:b.R.length≤4611686018427387904) (h2:∀ k,k < b.R.length→(b.R.getD k zR).F.length≤4611686018427387904):∃ M:Nat,∀ N,M≤N→jj N b:=by
 obtain ⟨M,h⟩:=qGz b.R
 refine ⟨M + b.R.length + 1,fun N hN=>⟨by omega,h1,fun k hk=>⟨by have:=h k hk; omega,h2 k hk⟩⟩⟩
end Go.Rx
end
set_option maxRecDepth 100000
noncomputable section
namespace Go.Rx
open Go.Proofs
def qSx (l:List qd) (no:Int):Option Nat:=Zh (fun k=>decide ((l.getD k zF).No=no)) l.length 0
end Go.Rx
end
set_option maxRecDepth 100000
noncomputable section
namespace Go.Rx
open Go.Proofs
theorem qkA {α:Type} {d:α} {l:List α} {k:Nat} (h:k < l.length):l.drop k=l.getD k d::l.drop (k + 1):=by
 rw [List.drop_eq_getElem_cons h,List.getD_eq_getElem?_getD,List.getElem?_eq_getElem h]; rfl
theorem qC7 {α:Type} {p:α→Bool} {d:α} {l:List α}:∀ {m k:Nat},k + m=l.length→(Zh (fun j=>p (l.getD j d)) m k).map (fun i=>l.getD i d)=(l.drop k).find? p
 | 0,k,h=>by rw [List.drop_of_length_le (by omega)]; rfl
 | m + 1,k,h=>by
  rw [qkA (d:=d) (by omega),List.find?_cons]
  unfold Zh
  cases hp:p (l.getD k d) with
  | true=>rw [if_pos rfl]; rfl
  | false=>rw [if_neg (by simp)]; exact qC7 (by omega)
def cO (l:List qd) (no:Int):Option qe:=(l.find? fun f=>decide (f.No=no)).map fun f=>f.C
theorem qVU {l:List qd} {no:Int}:(qSx l no).map (fun i=>(l.getD i zF).C)=cO l no:=by
 unfold qSx cO
 have:=qC7 (p:=fun f:qd=>decide (f.No=no)) (d:=zF) (l:=l) (m:=l.length) (k:=0) (by omega)
 rw [List.drop_zero] at this
 rw [← this,Option.map_map]; rfl
theorem qEa {no:Int}:cO [] no=none:=rfl
theorem qzD {f:qd} {l:List qd} {no:Int}:cO (f::l) no=if f.No=no then some f.C else cO l no:=by
 unfold cO
 rw [List.find?_cons]
 by_cases h:f.No=no
 ·rw [decide_eq_true h,if_pos h]; rfl
 ·rw [decide_eq_false h,if_neg h]
theorem qsL {l:List qd} {no:Int} {c:qe} (h:cO l no=some c):∃ f,f∈l∧f.No=no∧f.C=c:=by
 unfold cO at h
 obtain ⟨f,h1,h2⟩:=Option.map_eq_some_iff.1 h
 exact ⟨f,List.mem_of_find?_eq_some h1,of_decide_eq_true (List.find?_some (p:=fun f:qd=>decide (f.No=no)) h1),h2⟩
def jC:Option qe→Option qe→Option qe
 | some x,some y=>some (cJ x y)
 | some x,none=>some x
 | none,y=>y
def Y_ (g:Int→Option qe) (f:qd) (no:Int):Option qe:=if f.No=no then jC (g no) (some f.C) else g no
theorem qIw {g:Int→Option qe} {f:qd} {no:Int}:Y_ g f no=if f.No=no then jC (g no) (some f.C) else g no:=rfl
theorem qFL:∀ {l:List qd} {g:Int→Option qe} {no:Int},(l.map fun f=>f.No).Nodup→l.foldl Y_ g no=jC (g no) (cO l no)
 | [],g,no,_=>by rw [qEa]; show g no=_; cases g no<;>rfl
 | f::l,g,no,h=>by
  rw [List.map_cons,List.nodup_cons] at h
  rw [List.foldl_cons,qFL h.2,qzD]
  unfold Y_
  by_cases e:f.No=no
  ·rw [if_pos e,if_pos e]
   have:cO l no=none:=by
    cases hc:cO l no with
    | none=>rfl
    | some c=>
     obtain ⟨x,hx,hx2,_⟩:=qsL hc
     exact (h.1 (List.mem_map.2 ⟨x,hx,by rw [hx2,e]⟩)).elim
   rw [this]
   cases g no<;>rfl
  ·rw [if_neg e,if_neg e]
def qdH (no:Int) (M:List (Int×qe×Nat)):Option qe:=(fnd (β:=qe) (.i .i64) no M).map (·.1)
theorem qIC {q k:Int} {p:qe} {c:Nat} {M:List (Int×qe×Nat)}:qdH q (J2 (β:=qe) (.i .i64) k p c M).2=if q=k then some p else qdH q M:=by
 have:=@qCR (El (.i .i64)) qe (Wp (.i .i64)) k q p c M
 rw [show qdH q (J2 (β:=qe) (.i .i64) k p c M).2=@qB4 (El (.i .i64)) qe (Wp (.i .i64)) q (@qnD (El (.i .i64)) qe (Wp (.i .i64)) k p c M).2 from rfl,this]
 by_cases h:q=k
 ·rw [if_pos h]; exact if_pos h
 ·rw [if_neg h]; exact if_neg h
def qcX (dead:qc) (k:Nat):Option qe→List qd
 | some c=>if slB dead c.S=true then [qd.mk (k:Int) c] else []
 | none=>[]
def Vz (g:Int→Option qe) (dead:qc):Nat→Nat→List qd
 | 0,_=>[]
 | m + 1,k=>qcX dead k (g (k:Int))++Vz g dead m (k + 1)
theorem qm4 {g:Int→Option qe} {dead:qc}:∀ {m k:Nat} {s:List qd},zY (fun k s=>s++qcX dead k (g (k:Int))) m k s=s++Vz g dead m k
 | 0,_,s=>by unfold zY Vz; rw [List.append_nil]
 | m + 1,k,s=>by
  unfold zY Vz
  rw [qm4,List.append_assoc]
theorem qyp {dead:qc} {k:Nat} {c:Option qe}:(qcX dead k c).length≤1:=by
 cases c with
 | none=>exact Nat.zero_le _
 | some c=>
  show (if slB dead c.S=true then [qd.mk (k:Int) c] else []).length≤1
  by_cases h:slB dead c.S=true
  ·rw [if_pos h]; exact Nat.le_refl _
  ·rw [if_neg h]; exact Nat.zero_le _
def rJ (a b:qa):qa:=qa.mk a.ID (mxS a.qz b.qz) (Vz (fun no=>jC (cO a.F no) (cO b.F no)) (mxS a.qz b.qz) 8 0)
theorem qI8 {r:qa} (h:vd r=true):(r.F.map fun f=>f.No).Nodup:=by
 have hlt:∀ (d a:Nat),a + d + 1 < r.F.length→(r.F.getD a zF).No < (r.F.getD (a + d + 1) zF).No:=by
  intro d
  induction d with
  | zero=>
   intro a ha
   have:=(Kr.1 ((qaS.1 h).2.2 (a + 0 + 1) ha)).1
   rw [if_neg (by omega),show a + 0 + 1 - 1=a by omega] at this
   exact this
  | succ d ih=>
   intro a ha
   have h1:=ih a (by omega)
   have:=(Kr.1 ((qaS.1 h).2.2 (a + (d + 1) + 1) ha)).1
   rw [if_neg (by omega),show a + (d + 1) + 1 - 1=a + d + 1 by omega] at this
   omega
 rw [List.nodup_iff_pairwise_ne,List.pairwise_iff_getElem]
 intro i j hi hj hij
 rw [List.length_map] at hi hj
 have:=hlt (j - i - 1) i (by omega)
 rw [show i + (j - i - 1) + 1=j by omega,List.getD_eq_getElem?_getD,List.getD_eq_getElem?_getD,List.getElem?_eq_getElem hi,List.getElem?_eq_getElem hj] at this
 rw [List.getElem_map,List.getElem_map]
 show r.F[i].No≠r.F[j].No
 have:r.F[i].No < r.F[j].No:=this
 omega
theorem qtH {r:qa} (h:vd r=true):∀ k,k < r.F.length→KT (r.F.getD k zF).C=true:=fun j hj=>(Kr.1 ((qaS.1 h).2.2 j hj)).2.2.1
def qmD (g:Int→Option qe):Prop:=∀ no c,g no=some c→c.V.length≤200
theorem qUu (a b:qe):cJ a b=a∨cJ a b=b:=by
 unfold cJ
 split
 ·exact .inr rfl
 ·exact .inl rfl
theorem qMW {g:Int→Option qe} {f:qd} (hg:qmD g) (hf:f.C.V.length≤200):qmD (Y_ g f):=by
 intro no c h
 unfold Y_ at h
 split at h
 ·cases e:g no with
  | none=>rw [e] at h; obtain rfl:=Option.some.inj h; exact hf
  | some x=>
   rw [e] at h
   obtain rfl:=Option.some.inj h
   rcases qUu x f.C with h1 | h1
   ·rw [h1]; exact hg no x e
   ·rw [h1]; exact hf
 ·exact hg no c h
end Go.Rx
end
set_option maxRecDepth 100000
noncomputable section
namespace Go.Rx
open Go.Proofs
theorem Qp (x:UInt32) (n:Nat) (h:n < 32) (h0:0 < n):ze (c32 x) ((n:Nat):Int)=some (c32 (rot x n)):=by
 have e:qpY .u32 (32:Int) ((n:Nat):Int)=((32 - n:Nat):Int):=by
  unfold qpY
  rw [show (32:Int) - ((n:Nat):Int)=((32 - n:Nat):Int) by omega,qdY,Nat.mod_eq_of_lt (by omega)]
 unfold ze qac
 simp only [qS,zc,e]
 rw [qi (show (0:Int)≤((n:Nat):Int) by omega),qi (show (0:Int)≤((32 - n:Nat):Int) by omega),Int.toNat_natCast,Int.toNat_natCast,Nat.min_eq_left (show 32 - n≤32 by omega),Nat.min_eq_left (show n≤32 by omega),qEA x _ (by omega),qt_ x n h,qBz]
 unfold rot
 rw [UInt32.or_comm]
theorem qNs (x y:UInt32):qnB .u32 (c32 x) (c32 y)=c32 (x * y):=by
 unfold qnB
 show IntKind.u32.wrap (((x.toNat:Nat):Int) * ((y.toNat:Nat):Int))=_
 rw [← Int.natCast_mul,qdY,c32,UInt32.toNat_mul]
theorem qUI {a b c d:Nat} (hb:b < 256) (hc:c < 256) (hd:d < 256):(((a <<< 24) ||| (b <<< 16)) ||| (c <<< 8)) ||| d=16777216 * a + 65536 * b + 256 * c + d:=by
 rw [Nat.shiftLeft_eq,Nat.shiftLeft_eq,Nat.shiftLeft_eq]
 have e1:a * 2 ^ 24 ||| b * 2 ^ 16=2 ^ 24 * a + b * 2 ^ 16:=by rw [Nat.mul_comm a,← Nat.two_pow_add_eq_or_of_lt (by omega)]
 have e2:(2 ^ 24 * a + b * 2 ^ 16) ||| c * 2 ^ 8=2 ^ 16 * (256 * a + b) + c * 2 ^ 8:=by
  rw [show 2 ^ 24 * a + b * 2 ^ 16=2 ^ 16 * (256 * a + b) by omega,← Nat.two_pow_add_eq_or_of_lt (by omega)]
 have e3:(2 ^ 16 * (256 * a + b) + c * 2 ^ 8) ||| d=2 ^ 8 * (256 * (256 * a + b) + c) + d:=by
  rw [show 2 ^ 16 * (256 * a + b) + c * 2 ^ 8=2 ^ 8 * (256 * (256 * a + b) + c) by omega,← Nat.two_pow_add_eq_or_of_lt (by omega)]
 rw [e1,e2,e3]; omega
theorem qVo (a b c d : UInt8) : (a.toUInt32 <<< UInt32.ofNat 24) ||| (b.toUInt32 <<< UInt32.ofNat 16) ||| (c.toUInt32 <<< UInt32.ofNat 8) ||| d.toUInt32
    = 16777216 * a.toUInt32 + 65536 * b.toUInt32 + 256 * c.toUInt32 + d.toUInt32:=by
 have ha:=a.toNat_lt; have hb:=b.toNat_lt; have hc:=c.toNat_lt; have hd:=d.toNat_lt
 apply UInt32.toNat_inj.1
 simp only [UInt32.toNat_or,UInt32.toNat_add,UInt32.toNat_mul,UInt32.toNat_shiftLeft,UInt8.toNat_toUInt32]
 show (((a.toNat <<< 24 % 4294967296) ||| (b.toNat <<< 16 % 4294967296)) ||| (c.toNat <<< 8 % 4294967296)) ||| d.toNat=_
 have l1:a.toNat <<< 24 % 4294967296=a.toNat <<< 24:=by rw [Nat.shiftLeft_eq]; exact Nat.mod_eq_of_lt (by omega)
 have l2:b.toNat <<< 16 % 4294967296=b.toNat <<< 16:=by rw [Nat.shiftLeft_eq]; exact Nat.mod_eq_of_lt (by omega)
 have l3:c.toNat <<< 8 % 4294967296=c.toNat <<< 8:=by rw [Nat.shiftLeft_eq]; exact Nat.mod_eq_of_lt (by omega)
 rw [l1,l2,l3,qUI hb hc hd]
 show _=(((16777216 * a.toNat % 4294967296 + 65536 * b.toNat % 4294967296) % 4294967296 + 256 * c.toNat % 4294967296) % 4294967296 + d.toNat) % 4294967296
 omega
abbrev lAt (l:List UInt32) (k:Nat):UInt32:=l.getD k 0
def qOK (b:List UInt8) (k:Nat) (w:List UInt32):UInt32:=
 if k < 16 then (bAt b (4 * k) <<< UInt32.ofNat 24) ||| (bAt b (4 * k + 1) <<< UInt32.ofNat 16) ||| (bAt b (4 * k + 2) <<< UInt32.ofNat 8) ||| bAt b (4 * k + 3)
 else lAt w (k - 16) + (rot (lAt w (k - 15)) 7 ^^^ rot (lAt w (k - 15)) 18 ^^^ (lAt w (k - 15) >>> UInt32.ofNat 3)) + lAt w (k - 7) + (rot (lAt w (k - 2)) 17 ^^^ rot (lAt w (k - 2)) 19 ^^^ (lAt w (k - 2) >>> UInt32.ofNat 10))
def V6 (b:List UInt8) (k:Nat) (w:List UInt32):List UInt32:=w++[qOK b k w]
theorem qEg {l:List UInt32} {k j:Nat} (h:j < k):lAt (l.take k) j=l.getD j 0:=by
 unfold lAt
 simp [List.getD,List.getElem?_take,h]
theorem qSq {b:List UInt8} {k:Nat} {w:Vector UInt32 64} (hk:k < 64):(qle b k w).toList.take (k + 1)=V6 b k (w.toList.take k):=by
 have hl:w.toList.length=64:=by simp
 have key:∀ x:UInt32,(w.setIfInBounds k x).toList.take (k + 1)=w.toList.take k++[x]:=fun x=>by
  rw [Vector.toList_setIfInBounds]
  rw [List.take_add_one]
  congr 1
  ·rw [List.take_set_of_le (Nat.le_refl k)]
  ·rw [List.getElem?_set_self (by omega)]; rfl
 unfold qle V6 qOK
 by_cases h:k < 16
 ·rw [if_pos h,if_pos h,key]
 ·rw [if_neg h,if_neg h,key,qEg (by omega),qEg (by omega),qEg (by omega),qEg (by omega)]
  congr 2
  show wAt w (k - 16) + wAt w (k - 7) + _ + _=wAt w (k - 16) + _ + wAt w (k - 7) + _
  rw [UInt32.add_assoc (wAt w (k - 16)) (wAt w (k - 7)),UInt32.add_comm (wAt w (k - 7)),← UInt32.add_assoc (wAt w (k - 16))]
theorem qJc {b:List UInt8}:∀ (m k:Nat) (w:Vector UInt32 64),k + m≤64→(zY (qle b) m k w).toList.take (k + m)=zY (V6 b) m k (w.toList.take k)
 | 0,_,_,_=>rfl
 | m + 1,k,w,h=>by
  show (zY (qle b) m (k + 1) (qle b k w)).toList.take (k + (m + 1))=zY (V6 b) m (k + 1) (V6 b k (w.toList.take k))
  rw [← qSq (by omega),← qJc m (k + 1) (qle b k w) (by omega),show k + (m + 1)=k + 1 + m by omega]
theorem qDM {σ:Type} {f:Nat→σ→σ}:∀ (m n k:Nat) (s:σ),zY f (m + n) k s=zY f n (k + m) (zY f m k s)
 | 0,n,k,s=>by rw [Nat.zero_add]; rfl
 | m + 1,n,k,s=>by
  rw [show m + 1 + n=(m + n) + 1 by omega]
  show zY f (m + n) (k + 1) (f k s)=zY f n (k + (m + 1)) (zY f m (k + 1) (f k s))
  rw [qDM m n (k + 1),show k + 1 + m=k + (m + 1) by omega]
theorem qSM {b:List UInt8}:(qui b).toList=zY (V6 b) 64 0 []:=by
 have h:=qJc (b:=b) 64 0 (Vector.replicate 64 0) (by omega)
 rw [List.take_zero] at h
 rw [← h,List.take_of_length_le (by simp)]
 rfl
theorem qJm {b:List UInt8}:∀ (m k:Nat) (w:List UInt32),(zY (V6 b) m k w).length=w.length + m
 | 0,_,_=>rfl
 | m + 1,k,w=>by
  show (zY (V6 b) m (k + 1) (V6 b k w)).length=_
  rw [qJm m]; unfold V6; rw [List.length_append]; simp; omega
theorem qL2 {w:List UInt32} {x:UInt32}:w.map c32++[c32 x]=(w++[x]).map c32:=by rw [List.map_append]; rfl
theorem qQZ {w:List UInt32} {k:Nat} (h:k < w.length):jy (w.map c32) (w.map c32).length k=some (c32 (lAt w k)):=by
 rw [qU2 (by rw [List.length_map]; exact h),List.getElem_map]
 simp [lAt,List.getD,List.getElem?_eq_getElem h]
theorem qTx {N : Nat} {b : List UInt8} {w : List UInt32} {k : Nat} (hb : b.length = 64) (hk : k < 16) (hw : w.length = k) :
    (Zf N b (w.map c32,(k:Int))).run some=some (.inl ((V6 b k w).map c32,((k + 1:Nat):Int))):=by
 have g:∀ j < 4,qM b ((4:Int) * (k:Int) + ((j:Nat):Int))=some (b.getD (4 * k + j) 0):=fun j hj=>by
  rw [show (4:Int) * (k:Int) + ((j:Nat):Int)=((4 * k + j:Nat):Int) by omega]; exact zo (by omega)
 have g0:qM b ((4:Int) * (k:Int))=some (b.getD (4 * k) 0):=by have:=g 0 (by omega); simpa using this
 have g1:qM b ((4:Int) * (k:Int) + 1)=some (b.getD (4 * k + 1) 0):=g 1 (by omega)
 have g2:qM b ((4:Int) * (k:Int) + 2)=some (b.getD (4 * k + 2) 0):=g 2 (by omega)
 have g3:qM b ((4:Int) * (k:Int) + 3)=some (b.getD (4 * k + 3) 0):=g 3 (by omega)
 have c0:qp ((4:Int) * (k:Int)):=by unfold qp; omega
 have c1:qp ((4:Int) * (k:Int) + 1):=by unfold qp; omega
 have c2:qp ((4:Int) * (k:Int) + 2):=by unfold qp; omega
 have c3:qp ((4:Int) * (k:Int) + 3):=by unfold qp; omega
 have c4:qp ((k:Int) + 1):=by unfold qp; omega
 have d1:decide ((k:Int) < 16)=true:=decide_eq_true (by omega)
 have c5:∀ x:Int,zU (w.map c32).length (w.map c32).length (w.map c32++[x]).length 4:=fun x=>⟨rfl,by rw [List.length_append,List.length_map]; unfold zh; simp; omega⟩
 have m1:∀ x,qnB .u32 (16777216:Int) (c32 x)=c32 (16777216 * x):=fun x=>qNs 16777216 x
 have m2:∀ x,qnB .u32 (65536:Int) (c32 x)=c32 (65536 * x):=fun x=>qNs 65536 x
 have m3:∀ x,qnB .u32 (256:Int) (c32 x)=c32 (256 * x):=fun x=>qNs 256 x
 unfold Zf V6 qOK
 rw [if_pos hk,qVo,qL,d1,cond_true]
 simp only [run_bind,qS,zc]
 rw [qi c0,g0,Option.bind_some,qi c0,qi c1,g1,Option.bind_some,qi c0,qi c2,g2,Option.bind_some,qi c0,qi c3,g3,Option.bind_some]
 rw [qxu,qxu,qxu,qxu,m1,m2,m3,Yt,Yt,Yt,qi (c5 _),qi c4,qT,qL2]
theorem qSV {N : Nat} {b : List UInt8} {w : List UInt32} {k : Nat} (h1 : ¬ k < 16) (hk : k < 64) (hw : w.length = k) :
    (Za N (w.map c32,(k:Int))).run some=some (.inl ((V6 b k w).map c32,((k + 1:Nat):Int))):=by
 have c4:qp ((k:Int) + 1):=by unfold qp; omega
 have d1:decide ((k:Int) < 64)=true:=decide_eq_true (by omega)
 have e15:(k:Int) - 15=((k - 15:Nat):Int):=by omega
 have e2:(k:Int) - 2=((k - 2:Nat):Int):=by omega
 have e16:(k:Int) - 16=((k - 16:Nat):Int):=by omega
 have e7:(k:Int) - 7=((k - 7:Nat):Int):=by omega
 have i:∀ j:Nat,j < 64→qp ((j:Nat):Int):=fun j h=>by unfold qp; omega
 have p:∀ j:Nat,j < k→(0:Int)≤((j:Nat):Int)∧((j:Nat):Int) < (((w.map c32).length:Nat):Int):=fun j h=>by rw [List.length_map]; omega
 have gg:∀ j:Nat,j < k→jy (w.map c32) (w.map c32).length ((j:Nat):Int).toNat=some (c32 (lAt w j)):=fun j h=>by rw [Int.toNat_natCast]; exact qQZ (by omega)
 have p3:(0:Int)≤3:=by omega
 have p10:(0:Int)≤10:=by omega
 have c5:∀ x:Int,zU (w.map c32).length (w.map c32).length (w.map c32++[x]).length 4:=fun x=>⟨rfl,by rw [List.length_append,List.length_map]; unfold zh; simp; omega⟩
 unfold Za V6 qOK
 rw [if_neg h1,qL,d1,cond_true]
 simp only [run_bind,qS,zc]
 rw [e15,e2,e16,e7]
 rw [qi (i _ (by omega)),qi (p _ (by omega)),gg _ (by omega),Option.bind_some,qi (i _ (by omega)),qi (p _ (by omega)),gg _ (by omega),Option.bind_some]
 show (Option.bind (ze (c32 (lAt w (k - 15))) ((7:Nat):Int)) _)=_
 rw [Qp _ 7 (by omega) (by omega),Option.bind_some]
 show (Option.bind (ze (c32 (lAt w (k - 15))) ((18:Nat):Int)) _)=_
 rw [Qp _ 18 (by omega) (by omega),Option.bind_some,qi p3]
 show (Option.bind (ze (c32 (lAt w (k - 2))) ((17:Nat):Int)) _)=_
 rw [Qp _ 17 (by omega) (by omega),Option.bind_some]
 show (Option.bind (ze (c32 (lAt w (k - 2))) ((19:Nat):Int)) _)=_
 rw [Qp _ 19 (by omega) (by omega),Option.bind_some,qi p10]
 rw [qi (i _ (by omega)),qi (p _ (by omega)),gg _ (by omega),Option.bind_some,qi (i _ (by omega)),qi (p _ (by omega)),gg _ (by omega),Option.bind_some]
 rw [qgr,qgr,qt_ _ 3 (by omega),qt_ _ 10 (by omega),qgr,qgr,Yt,Yt,Yt,qi (c5 _),qi c4,qT,qL2]
theorem qTU {N:Nat} {b:List UInt8} (hN:64 < N) (hb:b.length=64):Y8 N b=some ((qui b).toList.map c32):=by
 have k1:JB N b [] 0=some ((zY (V6 b) 16 0 []).map c32,(16:Int),false):=by
  refine (jd (σ:=List UInt32) (B:=Zf N b) (g:=some) (at_:=fun k s=>(s.map c32,(k:Int))) (I:=fun k s=>s.length=k) (f:=V6 b) (n:=16)
   (fin:=fun s=>(s.map c32,(16:Int),false)) (fun k s hk hs=>⟨qTx hb hk hs,?_⟩) (fun s _=>?_) N 0 [] rfl (Nat.zero_le _) (by omega))
  ·unfold V6; rw [List.length_append,hs]; rfl
  ·unfold Zf
   rfl
 have k2:qat N ((zY (V6 b) 16 0 []).map c32) 16=some ((zY (V6 b) 64 0 []).map c32,(64:Int),false):=by
  rw [show zY (V6 b) 64 0 []=zY (V6 b) 48 16 (zY (V6 b) 16 0 []) from qDM 16 48 0 []]
  refine (jd (σ:=List UInt32) (B:=Za N) (g:=some) (at_:=fun k s=>(s.map c32,(k:Int))) (I:=fun k s=>16≤k∧s.length=k) (f:=V6 b) (n:=64)
   (fin:=fun s=>(s.map c32,(64:Int),false)) (fun k s hk hs=>⟨qSV (by omega) hk hs.2,by omega,?_⟩) (fun s _=>?_) N 16 (zY (V6 b) 16 0 []) ⟨by omega,qJm 16 0 []⟩ (by omega) (by omega))
  ·unfold V6; rw [List.length_append,hs.2]; rfl
  ·unfold Za
   rfl
 unfold Y8 qbi
 generalize zY (V6 b) 16 0 []=q0 at k1 k2
 rw [run_bind,show zV [(([]:List Int).length,0)] (JB N b [] 0)=JB N b [] 0 from (zl rfl).trans (qyU _),k1,Option.bind_some]
 dsimp only
 rw [run_bind,qdE,k2,Option.bind_some]
 rw [qSM]
 generalize List.map c32 (zY (V6 b) 64 0 [])=q
 exact qi rfl
end Go.Rx
end
set_option maxRecDepth 100000
noncomputable section
namespace Go.Rx
open Go.Proofs
theorem qWp (x:Vector UInt32 8):∃ a b c d e f g h,x=#v[a,b,c,d,e,f,g,h]:=by
 obtain ⟨⟨l⟩,hl⟩:=x
 match l,hl with
 | [a,b,c,d,e,f,g,h],_=>exact ⟨a,b,c,d,e,f,g,h,rfl⟩
theorem qWA (e f g:UInt32):(e &&& f) ||| (~~~e &&& g)=(e &&& f) ^^^ (~~~e &&& g):=by
 apply UInt32.toBitVec_inj.1
 apply BitVec.eq_of_getLsbD_eq
 intro i hi
 simp
 cases e.toBitVec.getLsbD i<;>cases f.toBitVec.getLsbD i<;>cases g.toBitVec.getLsbD i<;>simp [hi]
theorem qWh (a b c:UInt32):(a &&& b) ||| (a &&& c) ||| (b &&& c)=(a &&& b) ^^^ (a &&& c) ^^^ (b &&& c):=by
 apply UInt32.toBitVec_inj.1
 apply BitVec.eq_of_getLsbD_eq
 intro i hi
 simp
 cases a.toBitVec.getLsbD i<;>cases b.toBitVec.getLsbD i<;>cases c.toBitVec.getLsbD i<;>simp
def tG (K w e f g h:UInt32):UInt32:=h + (rot e 6 ^^^ rot e 11 ^^^ rot e 25) + ((e &&& f) ||| (~~~e &&& g)) + K + w
def uG (a b c:UInt32):UInt32:=(rot a 2 ^^^ rot a 13 ^^^ rot a 22) + ((a &&& b) ||| (a &&& c) ||| (b &&& c))
theorem qJx {K w : Vector UInt32 64} {i : Nat} {a b c d e f g h : UInt32} : qj1 K w i #v[a, b, c, d, e, f, g, h] =
    #v[tG (wAt K i) (wAt w i) e f g h + uG a b c,a,b,c,d + tG (wAt K i) (wAt w i) e f g h,e,f,g]:=by
 unfold qj1 tW uW tG uG
 rw [qWA,qWh]
 rfl
abbrev L8 (a b c d e f g h:UInt32):List Int:=[c32 a,c32 b,c32 c,c32 d,c32 e,c32 f,c32 g,c32 h]
abbrev m8 (x:Vector UInt32 8):List Int:=x.toList.map c32
theorem qxZ {w:List UInt32} {k:Nat} (h:k < w.length):qM (w.map c32) ((k:Nat):Int)=some (c32 (lAt w k)):=by
 rw [zo (d:=0) (by rw [List.length_map]; exact h)]
 simp [lAt,List.getD,List.getElem?_eq_getElem h]
theorem qV3:qev=some ():=rfl
abbrev kL:List Int:=[1116352408,1899447441,3049323471,3921009573,961987163,1508970993,2453635748,2870763221,3624381080,310598401,607225278,1426881987,1925078388,2162078206,2614888103,3248222580,3835390401,4022224774,264347078,604807628,770255983,1249150122,1555081692,1996064986,2554220882,2821834349,2952996808,3210313671,3336571891,3584528711,113926993,338241895,666307205,773529912,1294757372,1396182291,1695183700,1986661051,2177026350,2456956037,2730485921,2820302411,3259730800,3345764771,3516065817,3600352804,4094571909,275423344,430227734,506948616,659060556,883997877,958139571,1322822218,1537002063,1747873779,1955562222,2024104815,2227730452,2361852424,2428436474,2756734187,3204031479,3329325298]
theorem qUq:kL=qe4.toList.map c32:=rfl
theorem qU6 {N : Nat} {o1 o2 : List Int} {o3 : Vector UInt8 32} {n : Nat} {l : List UInt8} {at_ : Int} {w : Vector UInt32 64} {x : Vector UInt32 8} {k : Nat} (hk : k < 64) :
    (jU N o1 o2 o3 n l at_ (w.toList.map c32) (m8 x,(k:Int))).run some=some (.inl (m8 (qj1 qe4 w k x),((k + 1:Nat):Int))):=by
 obtain ⟨a,b,c,d,e,f,g,h,rfl⟩:=qWp x
 have c4:qp ((k:Int) + 1):=by unfold qp; omega
 have d1:decide ((k:Int) < 64)=true:=decide_eq_true (by omega)
 have gk:qM kL (k:Int)=some (c32 (wAt qe4 k)):=by rw [qUq]; exact qxZ (by simpa using hk)
 have gw:qM (w.toList.map c32) (k:Int)=some (c32 (wAt w k)):=qxZ (by simpa using hk)
 rw [qJx]
 show (jU N o1 o2 o3 n l at_ (w.toList.map c32) (L8 a b c d e f g h,(k:Int))).run some=some (.inl (L8 _ a b c _ e f g,((k + 1:Nat):Int)))
 have g0:qM (L8 a b c d e f g h) 0=some (c32 a):=rfl
 have g1:qM (L8 a b c d e f g h) 1=some (c32 b):=rfl
 have g2:qM (L8 a b c d e f g h) 2=some (c32 c):=rfl
 have g3:qM (L8 a b c d e f g h) 3=some (c32 d):=rfl
 have g4:qM (L8 a b c d e f g h) 4=some (c32 e):=rfl
 have g5:qM (L8 a b c d e f g h) 5=some (c32 f):=rfl
 have g6:qM (L8 a b c d e f g h) 6=some (c32 g):=rfl
 have g7:qM (L8 a b c d e f g h) 7=some (c32 h):=rfl
 have t6:=fun x=>Qp x 6 (by omega) (by omega)
 have t11:=fun x=>Qp x 11 (by omega) (by omega)
 have t25:=fun x=>Qp x 25 (by omega) (by omega)
 have t2:=fun x=>Qp x 2 (by omega) (by omega)
 have t13:=fun x=>Qp x 13 (by omega) (by omega)
 have t22:=fun x=>Qp x 22 (by omega) (by omega)
 unfold jU tG uG
 rw [qL,d1,cond_true,run_bind,g4,Option.bind_some,run_bind,g0,Option.bind_some,run_bind,g7,Option.bind_some,run_bind]
 refine (congrArg (fun o=>Option.bind o _) (t6 e)).trans ?_
 rw [Option.bind_some,run_bind]
 refine (congrArg (fun o=>Option.bind o _) (t11 e)).trans ?_
 rw [Option.bind_some,run_bind]
 refine (congrArg (fun o=>Option.bind o _) (t25 e)).trans ?_
 rw [Option.bind_some,run_bind,g5,Option.bind_some,run_bind,g6,Option.bind_some,run_bind,qV3,Option.bind_some,run_bind,gk,Option.bind_some,run_bind,gw,Option.bind_some,run_bind]
 refine (congrArg (fun o=>Option.bind o _) (t2 a)).trans ?_
 rw [Option.bind_some,run_bind]
 refine (congrArg (fun o=>Option.bind o _) (t13 a)).trans ?_
 rw [Option.bind_some,run_bind]
 refine (congrArg (fun o=>Option.bind o _) (t22 a)).trans ?_
 rw [Option.bind_some,run_bind,g1,Option.bind_some,run_bind,g2,Option.bind_some,run_bind,Option.bind_some,run_bind,Option.bind_some,run_bind,Option.bind_some,run_bind,Option.bind_some,run_bind,g3,Option.bind_some,run_bind,Option.bind_some,run_bind,Option.bind_some,qS,qi c4,zc,qT]
 rw [qgr,qgr,qgr,qgr,qUv,qt2,qt2,qBz,Yt,Yt,Yt,Yt,qt2,qt2,qt2,qBz,qBz,Yt,Yt,Yt]
theorem qVF {N : Nat} {o1 : List Int} {o3 : Vector UInt8 32} {n : Nat} {l : List UInt8} {at_ : Int} {w : Vector UInt32 64} {x : Vector UInt32 8} :
    (Js N o1 (m8 x) o3 n l at_ (w.toList.map c32) ()).run some=some (.inr (.inl (m8 (qj1 qe4 w 0 x),1))):=by
 obtain ⟨a,b,c,d,e,f,g,h,rfl⟩:=qWp x
 have gk:qM kL 0=some (c32 (wAt qe4 0)):=by rw [qUq]; exact qxZ (by simp)
 have gw:qM (w.toList.map c32) 0=some (c32 (wAt w 0)):=qxZ (by simp)
 rw [qJx]
 show (Js N o1 (L8 a b c d e f g h) o3 n l at_ (w.toList.map c32) ()).run some=some (.inr (.inl (L8 _ a b c _ e f g,1)))
 have hl:(((L8 a b c d e f g h).length:Nat):Int)=8:=rfl
 have g0:jy (L8 a b c d e f g h) (L8 a b c d e f g h).length 0=some (c32 a):=rfl
 have g1:jy (L8 a b c d e f g h) (L8 a b c d e f g h).length 1=some (c32 b):=rfl
 have g2:jy (L8 a b c d e f g h) (L8 a b c d e f g h).length 2=some (c32 c):=rfl
 have g3:jy (L8 a b c d e f g h) (L8 a b c d e f g h).length 3=some (c32 d):=rfl
 have g4:jy (L8 a b c d e f g h) (L8 a b c d e f g h).length 4=some (c32 e):=rfl
 have g5:jy (L8 a b c d e f g h) (L8 a b c d e f g h).length 5=some (c32 f):=rfl
 have g6:jy (L8 a b c d e f g h) (L8 a b c d e f g h).length 6=some (c32 g):=rfl
 have g7:jy (L8 a b c d e f g h) (L8 a b c d e f g h).length 7=some (c32 h):=rfl
 have j:∀ m:Int,0≤m∧m < 8→0≤m∧m < (((L8 a b c d e f g h).length:Nat):Int):=fun m h=>h
 have j0:=j 0 (by omega); have j1:=j 1 (by omega); have j2:=j 2 (by omega); have j3:=j 3 (by omega)
 have j4:=j 4 (by omega); have j5:=j 5 (by omega); have j6:=j 6 (by omega); have j7:=j 7 (by omega)
 have t6:=fun x=>Qp x 6 (by omega) (by omega)
 have t11:=fun x=>Qp x 11 (by omega) (by omega)
 have t25:=fun x=>Qp x 25 (by omega) (by omega)
 have t2:=fun x=>Qp x 2 (by omega) (by omega)
 have t13:=fun x=>Qp x 13 (by omega) (by omega)
 have t22:=fun x=>Qp x 22 (by omega) (by omega)
 unfold Js tG uG
 simp only [run_bind,qS,zc]
 rw [qi j4,g4,Option.bind_some,qi j0,g0,Option.bind_some,qi j7,g7,Option.bind_some]
 refine (congrArg (fun o=>Option.bind o _) (t6 e)).trans ?_
 rw [Option.bind_some]
 refine (congrArg (fun o=>Option.bind o _) (t11 e)).trans ?_
 rw [Option.bind_some]
 refine (congrArg (fun o=>Option.bind o _) (t25 e)).trans ?_
 rw [Option.bind_some,qi j5,g5,Option.bind_some,qi j6,g6,Option.bind_some,qV3,Option.bind_some,gk,Option.bind_some,gw,Option.bind_some]
 refine (congrArg (fun o=>Option.bind o _) (t2 a)).trans ?_
 rw [Option.bind_some]
 refine (congrArg (fun o=>Option.bind o _) (t13 a)).trans ?_
 rw [Option.bind_some]
 refine (congrArg (fun o=>Option.bind o _) (t22 a)).trans ?_
 rw [Option.bind_some,qi j1,g1,Option.bind_some,qi j2,g2,Option.bind_some,qi j1,Option.bind_some,qi j2,Option.bind_some,qi j1,Option.bind_some,qi j2,Option.bind_some,qi j3,g3,Option.bind_some,qi j5,Option.bind_some,qi j6,Option.bind_some]
 simp only [qgr,qt2,qUv,qBz,Yt]
theorem qOT {N : Nat} {o1 : List Int} {o3 : Vector UInt8 32} {n : Nat} {l : List UInt8} {at_ : Int} {w : Vector UInt32 64} {x : Vector UInt32 8} (hN : 64 < N) :
    Yx N o1 (m8 x) o3 n l at_ (w.toList.map c32)=some (m8 (zY (qj1 qe4 w) 64 0 x),(64:Int),false):=by
 obtain ⟨N',rfl⟩:∃ N',N=N' + 1:=⟨N - 1,by omega⟩
 have e:Yx (N' + 1) o1 (m8 x) o3 n l at_ (w.toList.map c32)=qQ (Js (N' + 1) o1 (m8 x) o3 n l at_ (w.toList.map c32)) (qaB (N' + 1) (N' + 1) (o1,m8 x,o3,n,l,at_,w.toList.map c32)) (N' + 1) ():=rfl
 rw [e,zu qVF]
 show qQ (jU (N' + 1) o1 (m8 x) o3 n l at_ (w.toList.map c32)) some (N' + 1) (m8 (qj1 qe4 w 0 x),((1:Nat):Int))=_
 refine (jd (σ:=Vector UInt32 8) (B:=jU (N' + 1) o1 (m8 x) o3 n l at_ (w.toList.map c32)) (g:=some) (at_:=fun k s=>(m8 s,(k:Int))) (I:=fun _ _=>True) (f:=qj1 qe4 w) (n:=64)
  (fin:=fun s=>(m8 s,(64:Int),false)) (fun k s hk _=>⟨qU6 hk,trivial⟩) (fun s _=>?_) (N' + 1) 1 (qj1 qe4 w 0 x) trivial (by omega) (by omega)).trans rfl
 unfold jU
 rfl
end Go.Rx
end
set_option maxRecDepth 100000
noncomputable section
namespace Go.Rx
open Go.Proofs
theorem qOB (x:Vector UInt32 8):(m8 x).length=8:=by simp [m8]
theorem qVc {N:Nat} {b:List UInt8} (hb:b.length≤1000000000) (hN:64 < N):VQ N b (b++[128])=some (b++[128]++List.replicate (Zm b.length) 0,false):=by
 have hz:Zm b.length < 64:=Nat.mod_lt _ (by omega)
 have h56:(b.length + 1 + Zm b.length) % 64=56:=by unfold Zm; omega
 have hlen:∀ k,(b++[128]++List.replicate k (0:UInt8)).length=b.length + 1 + k:=fun k=>by simp; omega
 have hne:∀ k,k < Zm b.length→(b.length + 1 + k) % 64≠56:=fun k hk=>by unfold Zm at *; omega
 have e0:VQ N b (b++[128])=qQ (Qw N b) some N (b++[128]++List.replicate 0 (0:UInt8)):=by rw [List.replicate_zero,List.append_nil]; rfl
 rw [e0]
 refine (jd (σ:=Unit) (B:=Qw N b) (g:=some) (at_:=fun k _=>b++[128]++List.replicate k (0:UInt8)) (I:=fun _ _=>True) (f:=fun _ s=>s) (n:=Zm b.length)
  (fin:=fun _=>(b++[128]++List.replicate (Zm b.length) 0,false)) (fun k s hk _=>⟨?_,trivial⟩) (fun s _=>?_) N 0 () trivial (Nat.zero_le _) (by omega))
 ·unfold Qw
  have c1:(64:Int)≠0:=by omega
  have e:decide ((((b++[128]++List.replicate k (0:UInt8)).length:Nat):Int).tmod 64=56)=false:=decide_eq_false (by
   rw [hlen]
   have:=hne k hk
   show ¬ (((b.length + 1 + k) % 64:Nat):Int)=56
   omega)
  have c2:zU (b++[128]++List.replicate k (0:UInt8)).length (b++[128]++List.replicate k (0:UInt8)).length ((b++[128]++List.replicate k (0:UInt8))++[UInt8.ofNat 0]).length 1:=qzx (by rw [List.length_append,hlen]; simp; omega)
  rw [qS,qi c1,qL,e,Bool.not_false,cond_true,qS,qi c2,zc]
  rw [List.replicate_succ',← List.append_assoc]
  rfl
 ·unfold Qw
  have c1:(64:Int)≠0:=by omega
  have e:decide ((((b++[128]++List.replicate (Zm b.length) (0:UInt8)).length:Nat):Int).tmod 64=56)=true:=decide_eq_true (by
   rw [hlen]
   show (((b.length + 1 + Zm b.length) % 64:Nat):Int)=56
   omega)
  rw [qS,qi c1,qL,e,Bool.not_true,cond_false,zc]
def plc (k:Nat):Nat:=if k < 8 then 256 ^ (7 - k) else 0
theorem qzt {n:Nat} (h:n < 18446744073709551616):IntKind.u64.wrap ((n:Nat):Int)=((n:Nat):Int):=by
 have:IntKind.u64.wrap ((n:Nat):Int)=((n:Nat):Int) % 18446744073709551616:=by simp [IntKind.wrap,IntKind.bits,IntKind.signed]
 rw [this]; omega
theorem qH6 (n:Nat):IntKind.u8.wrap ((n:Nat):Int)=((n % 256:Nat):Int):=by
 have:IntKind.u8.wrap ((n:Nat):Int)=((n:Nat):Int) % 256:=by simp [IntKind.wrap,IntKind.bits,IntKind.signed]
 rw [this]; omega
theorem qVp (n j:Nat):Jk ((n:Nat):Int) j=((n / 2 ^ j:Nat):Int):=by
 unfold Jk
 rw [show ((2:Int) ^ j)=((2 ^ j:Nat):Int) by push_cast; rfl,Int.fdiv_eq_ediv_of_nonneg _ (Int.natCast_nonneg _),← Int.natCast_ediv]
theorem qVl {L k:Nat} (hL:L≤1000000000) (hk:k < 8):qCI L k=UInt8.ofNat (8 * L / 256 ^ (7 - k) % 256):=by
 unfold qCI qnB
 rw [qzt (by omega),show ((L:Nat):Int) * 8=((8 * L:Nat):Int) by omega,qzt (by omega),show (min ((8:Int) * ((7:Int) - (k:Int))).toNat 64)=8 * (7 - k) by omega,qVp,qH6,Int.toNat_natCast]
 rw [Nat.pow_mul]
theorem qTu {L k:Nat} (hL:L≤1000000000) (hk:k < 8):UInt8.ofNat (IntKind.u8.wrap ((IntKind.u64.wrap ((((8 * L:Nat):Int)).tdiv ((plc k:Nat):Int))).tmod 256)).toNat=qCI L k:=by
 rw [qVl hL hk,qBA,qzt (Nat.lt_of_le_of_lt (Nat.div_le_self _ _) (by omega))]
 show UInt8.ofNat (IntKind.u8.wrap (((8 * L / plc k % 256:Nat):Int))).toNat=_
 rw [qH6,Int.toNat_natCast,Nat.mod_mod]
 unfold plc
 rw [if_pos hk]
theorem qSs {k:Nat} (hk:k < 8):IntKind.u64.wrap ((((plc k:Nat):Int)).tdiv 256)=((plc (k + 1):Nat):Int):=by
 have:∀ k < 8,IntKind.u64.wrap ((((plc k:Nat):Int)).tdiv 256)=((plc (k + 1):Nat):Int):=by decide
 exact this k hk
theorem qWu {k:Nat} (hk:k < 8):((plc k:Nat):Int)≠0:=by
 have:∀ k < 8,((plc k:Nat):Int)≠0:=by decide
 exact this k hk
theorem qTs {N L:Nat} {l:List UInt8} (hL:L≤1000000000) (hl:l.length≤1500000000) (hN:64 < N):YG N ((8 * L:Nat):Int) l 72057594037927936 0=some (zY (qjG L) 8 0 l,(0:Int),(8:Int),false):=by
 refine (jd (σ:=List UInt8) (B:=JU N ((8 * L:Nat):Int)) (g:=some) (at_:=fun k s=>(s,((plc k:Nat):Int),(k:Int))) (I:=fun k s=>s.length=l.length + k) (f:=qjG L) (n:=8)
  (fin:=fun s=>(s,(0:Int),(8:Int),false)) (fun k s hk hs=>⟨?_,?_⟩) (fun s _=>?_) N 0 l rfl (Nat.zero_le _) (by omega))
 ·have d1:decide ((k:Int) < 8)=true:=decide_eq_true (by omega)
  have p256:(256:Int)≠0:=by omega
  have c4:qp ((k:Int) + 1):=by unfold qp; omega
  have c5:zU s.length s.length (s++[qCI L k]).length 1:=qzx (by rw [List.length_append,hs]; simp; omega)
  unfold JU
  rw [qL,d1,cond_true,qS,qi (qWu hk),qS,qi p256]
  dsimp only
  rw [qS,qi (qsT _),qTu hL hk,qS,qi c5,qS,qi p256,qS,qi c4,zc,qSs hk,qT]
  rfl
 ·unfold qjG; rw [List.length_append,hs]; simp; omega
 ·unfold JU
  rfl
theorem qOu {N:Nat} {b:List UInt8} (hb:b.length≤1000000000) (hN:64 < N):WX N b=some (qlx b):=by
 have c0:qhY b.length 1:=by unfold qhY zh; omega
 have c1:zU b.length b.length (b++[UInt8.ofNat 128]).length 1:=qzx (by rw [List.length_append]; simp; omega)
 have c2:qp (((8:Int)) * ((b.length:Nat):Int)):=by unfold qp; omega
 have e8:IntKind.u64.wrap (((8:Int)) * ((b.length:Nat):Int))=((8 * b.length:Nat):Int):=by
  rw [show (8:Int) * ((b.length:Nat):Int)=((8 * b.length:Nat):Int) by omega,qzt (by omega)]
 have hlen:=qTs (N:=N) (L:=b.length) (l:=b++[128]++List.replicate (Zm b.length) 0) hb (by have:Zm b.length < 64:=Nat.mod_lt _ (by omega); simp; omega) hN
 have e1:b++[UInt8.ofNat 128]=b++[128]:=rfl
 unfold WX Kl
 rw [qS,qi c0,qS,qi c1,run_bind,qdE,e1,qVc hb hN,Option.bind_some]
 dsimp only
 rw [qS,qi c2,e8,run_bind,qdE,hlen,Option.bind_some]
 unfold qlx
 generalize zY (qjG b.length) 8 0 (b++[128]++List.replicate (Zm b.length) 0)=q
 exact qi rfl
theorem qV7 {x:Vector UInt32 8} {k:Nat} {y:UInt32}:(m8 x).set k (c32 y)=m8 (x.setIfInBounds k y):=by
 unfold m8
 rw [Vector.toList_setIfInBounds,List.map_set]
theorem qMi {x:Vector UInt32 8} {k:Nat} (hk:k < 8):jy (m8 x) 8 k=some (c32 (wAt x k)):=by
 have h:=qQZ (w:=x.toList) (k:=k) (by simpa using hk)
 rw [show (List.map c32 x.toList).length=8 from qOB x] at h
 exact h
theorem qUB {x:Vector UInt32 8} {k:Nat} (hk:k < 8):qM (m8 x) ((k:Nat):Int)=some (c32 (wAt x k)):=qxZ (by simpa using hk)
theorem qVw {N : Nat} {o : Vector UInt8 32} {l : List UInt8} {at_ : Int} {x s : Vector UInt32 8} (hN : 64 < N) :
    qbh N o 8 l at_ (m8 x) (m8 s) 0=some (m8 (zY (qBP x) 8 0 s),(8:Int),false):=by
 refine (jd (σ:=Vector UInt32 8) (B:=XD N o 8 l at_ (m8 x)) (g:=some) (at_:=fun k s=>(m8 s,(k:Int))) (I:=fun _ _=>True) (f:=qBP x) (n:=8)
  (fin:=fun s=>(m8 s,(8:Int),false)) (fun k y hk _=>⟨?_,trivial⟩) (fun y _=>?_) N 0 s trivial (Nat.zero_le _) (by omega))
 ·have c4:qp ((k:Int) + 1):=by unfold qp; omega
  have d1:decide ((k:Int) < 8)=true:=decide_eq_true (by omega)
  have pk:(0:Int)≤(k:Int)∧(k:Int) < ((8:Nat):Int):=by omega
  have hv:qkc (m8 y).length 8 (k:Int).toNat:=⟨qOB y,by rw [Int.toNat_natCast]; exact hk⟩
  have gv:jy (m8 y) 8 (k:Int).toNat=some (c32 (wAt y k)):=by rw [Int.toNat_natCast]; exact qMi hk
  unfold XD qBP
  rw [qL,d1,cond_true,qS,qi pk,run_bind,gv,Option.bind_some,run_bind,qUB hk,Option.bind_some,qS,qi pk,qS,qi hv,qS,qi c4,zc,Yt,Int.toNat_natCast,qV7,qT]
 ·unfold XD
  rfl
def chG (l:List UInt8) (k:Nat) (s:Vector UInt32 8):Vector UInt32 8:=quR s qe4 ((l.take (64 * k + 64)).drop (64 * k))
theorem qUs {l:List UInt8}:∀ (m k:Nat) (s:Vector UInt32 8),chF qe4 m s (l.drop (64 * k))=zY (chG l) m k s
 | 0,_,_=>rfl
 | m + 1,k,s=>by
  show chF qe4 m (quR s qe4 ((l.drop (64 * k)).take 64)) ((l.drop (64 * k)).drop 64)=zY (chG l) m (k + 1) (chG l k s)
  rw [← qUs m (k + 1),List.drop_drop,show 64 * k + 64=64 * (k + 1) by omega]
  unfold chG
  rw [List.drop_take,show 64 * k + 64 - 64 * k=64 by omega]
theorem qNC {N m : Nat} {o : Vector UInt8 32} {l : List UInt8} {s : Vector UInt32 8} (hl : l.length = 64 * m) (hb : l.length ≤ 2000000000) (hN : 64 < N) (hm : m < N) :
    qcp N o 8 l (m8 s) 0=some (m8 (chF qe4 m s l),((64 * m:Nat):Int),false):=by
 have e0:chF qe4 m s l=zY (chG l) m 0 s:=by rw [← qUs m 0 s]; rfl
 rw [e0]
 refine (jd (σ:=Vector UInt32 8) (B:=Wl N o 8 l) (g:=some) (at_:=fun k s=>(m8 s,((64 * k:Nat):Int))) (I:=fun _ _=>True) (f:=chG l) (n:=m)
  (fin:=fun s=>(m8 s,((64 * m:Nat):Int),false)) (fun k y hk _=>⟨?_,trivial⟩) (fun y _=>?_) N 0 s trivial (Nat.zero_le _) (by omega))
 ·have d1:decide (((64 * k:Nat):Int) < ((l.length:Nat):Int))=true:=decide_eq_true (by omega)
  have e64:((64 * k:Nat):Int) + 64=((64 * k + 64:Nat):Int):=by omega
  have c1:qp (((64 * k:Nat):Int) + 64):=by unfold qp; omega
  have c2:(0:Int)≤((64 * k:Nat):Int)∧((64 * k:Nat):Int)≤((64 * k:Nat):Int) + 64∧((64 * k:Nat):Int) + 64≤((l.length:Nat):Int):=by omega
  have c3:(m8 y).length=8:=qOB y
  have c4:qhY (m8 y).length 4:=by rw [qOB]; unfold qhY zh; omega
  have et:(l.take (((64 * k:Nat):Int) + 64).toNat).drop ((64 * k:Nat):Int).toNat=(l.take (64 * k + 64)).drop (64 * k):=by
   rw [e64,Int.toNat_natCast,Int.toNat_natCast]
  have hlen:((l.take (64 * k + 64)).drop (64 * k)).length=64:=by rw [List.length_drop,List.length_take]; omega
  unfold Wl chG quR
  rw [show 64 * (k + 1)=64 * k + 64 by omega]
  rw [qL,d1,cond_true,qS,qi c1,qS,qi c2,run_bind,et,qTU hN hlen,Option.bind_some,qS,qi c3,qS,qi c4,run_bind,qdE,qOT hN,Option.bind_some]
  dsimp only
  rw [run_bind,qVw hN,Option.bind_some,qS,qi c1,zc,e64]
 ·have d1:decide (((64 * m:Nat):Int) < ((l.length:Nat):Int))=false:=decide_eq_false (by omega)
  unfold Wl
  rw [qL,d1,cond_false,zc]
theorem qJ7 {N : Nat} {o : List Int} {o2 o3 : Vector UInt8 32} {n3 : Nat} {s : Int} (hN : 64 < N) : ∀ (d n y : Nat), d ≤ 3 → d < n → y < 4294967296 →
    qQ (Xz N o o2 o3 n3 s) some n (((y:Nat):Int),((3 - d:Nat):Int))=some (((y / 256 ^ d:Nat):Int),(3:Int),false)
 | 0,n + 1,y,_,_,_=>by
  refine (zu (x:=(((y:Nat):Int),(3:Int),false)) (by unfold Xz; rfl) n).trans ?_
  rw [Nat.pow_zero,Nat.div_one]
 | d + 1,n + 1,y,hd,hn,hy=>by
  have d1:decide (((3 - (d + 1):Nat):Int) < 3)=true:=decide_eq_true (by omega)
  have p256:(256:Int)≠0:=by omega
  have c1:qp (((3 - (d + 1):Nat):Int) + 1):=by unfold qp; omega
  have e1:((3 - (d + 1):Nat):Int) + 1=((3 - d:Nat):Int):=by omega
  have e2:IntKind.u32.wrap ((((y:Nat):Int)).tdiv 256)=((y / 256:Nat):Int):=by
   show IntKind.u32.wrap (((y / 256:Nat):Int))=_
   rw [qdY,Nat.mod_eq_of_lt (by omega)]
  rw [Zq (v':=(((y / 256:Nat):Int),((3 - d:Nat):Int))) (by
   unfold Xz
   rw [qL,d1,cond_true,qS,qi p256,qS,qi c1,zc,e1,e2]) n]
  rw [qJ7 hN d n (y / 256) (by omega) (by omega) (by omega),Nat.div_div_eq_div_mul,Nat.pow_succ,Nat.mul_comm 256]
theorem qUQ {N:Nat} {o:Vector UInt8 32} {s:Vector UInt32 8} (hN:64 < N):qbx N (m8 s) o 8 (Vector.replicate 32 0) 0=some (qTX s,(32:Int),false):=by
 refine (jd (σ:=Vector UInt8 32) (B:=Xj N (m8 s) o 8) (g:=some) (at_:=fun k s=>(s,(k:Int))) (I:=fun _ _=>True) (f:=qI2 s) (n:=32)
  (fin:=fun s=>(s,(32:Int),false)) (fun k x hk _=>⟨?_,trivial⟩) (fun x _=>?_) N 0 (Vector.replicate 32 0) trivial (Nat.zero_le _) (by omega))
 ·have d1:decide ((k:Int) < 32)=true:=decide_eq_true (by omega)
  have e1:(k:Int).tdiv 4=((k / 4:Nat):Int):=qBA k 4
  have e2:(k:Int).tmod 4=((k % 4:Nat):Int):=qIL k 4
  have h4:(4:Int)≠0:=by omega
  have p256:(256:Int)≠0:=by omega
  have c1:qp (((k / 4:Nat)):Int):=by unfold qp; omega
  have c2:(0:Int)≤((k / 4:Nat):Int)∧((k / 4:Nat):Int) < ((8:Nat):Int):=by omega
  have c7:(0:Int)≤(k:Int)∧(k:Int) < ((32:Nat):Int):=by omega
  have c8:qp ((k:Int) + 1):=by unfold qp; omega
  have c9:(k:Int).toNat < 32:=by rw [Int.toNat_natCast]; exact hk
  have hl:qa_ N (m8 s) o x 8 (k:Int) (c32 (wAt s (k / 4))) ((k % 4:Nat):Int)=some ((((wAt s (k / 4)).toNat / 256 ^ (3 - k % 4):Nat):Int),(3:Int),false):=by
   have:=qJ7 (N:=N) (o:=m8 s) (o2:=o) (o3:=x) (n3:=8) (s:=(k:Int)) hN (3 - k % 4) N (wAt s (k / 4)).toNat (by omega) (by omega) (qJz _)
   rw [show 3 - (3 - k % 4)=k % 4 by omega] at this
   exact this
  have eb:UInt8.ofNat (IntKind.u8.wrap ((((wAt s (k / 4)).toNat / 256 ^ (3 - k % 4):Nat):Int).tmod 256)).toNat=qNa s k:=by
   show UInt8.ofNat (IntKind.u8.wrap ((((wAt s (k / 4)).toNat / 256 ^ (3 - k % 4) % 256:Nat):Int))).toNat=_
   unfold qNa
   rw [qH6,qH6,Int.toNat_natCast,Int.toNat_natCast,Nat.mod_mod,UInt32.toNat_shiftRight,UInt32.toNat_ofNat_of_lt' (show 24 - 8 * (k % 4) < UInt32.size by unfold UInt32.size; omega),Nat.mod_eq_of_lt (show 24 - 8 * (k % 4) < 32 by omega),Nat.shiftRight_eq_div_pow,show 24 - 8 * (k % 4)=8 * (3 - k % 4) by omega,Nat.pow_mul]
  unfold Xj qI2
  rw [qL,d1,cond_true,e1,e2,qS,qi h4,qS,qi c1,qS,qi c2,run_bind,Int.toNat_natCast,qMi (by omega),Option.bind_some,qS,qi h4,run_bind,hl,Option.bind_some]
  dsimp only
  rw [eb,qS,qi p256,qS,qi c7,qS,qi (qsT _),qS,qi c9,qS,qi c8,zc,Int.toNat_natCast,qT]
 ·unfold Xj
  rfl
theorem qUy:m8 qV_=[1779033703,3144134277,1013904242,2773480762,1359893119,2600822924,528734635,1541459225]:=rfl
theorem qVy {N:Nat} {b:List UInt8} (hb:b.length≤1000000000) (hN:b.length + 100 < N):qbj N b=some (VE b):=by
 obtain ⟨m,hm,hmb⟩:=qMg b
 have hL:(qlx b).length=b.length + 1 + Zm b.length + 8:=by unfold qlx; rw [qCN]; simp; omega
 have hz:Zm b.length < 64:=Nat.mod_lt _ (by omega)
 have hd:(qlx b).length / 64=m + 1:=by rw [hm]; omega
 unfold qbj qdP VE
 rw [run_bind,qOu hb (by omega),Option.bind_some,run_bind,← qUy,qNC hm (by omega) (by omega) (by omega),Option.bind_some]
 dsimp only
 rw [run_bind,qUQ (by omega),Option.bind_some,zc,hd]
theorem qKa {N:Nat} {b:List UInt8} (hb:b.length≤1000000000) (hN:b.length + 100 < N):X3 N b=some (VE b):=by
 have c:qmH (b:List UInt8).length:=by unfold qmH; omega
 unfold X3 qe1
 rw [qS,qi c,run_bind,qVy hb hN,Option.bind_some,zc]
end Go.Rx
end
set_option maxRecDepth 100000
noncomputable section
namespace Go.Rx
open Go.Proofs
theorem qst (a:qc):QU a=some (stB a):=by
 have ez:decide (a=zSt)=(decide (a.1=0)&&decide (a.2=0)):=by
  obtain ⟨n,r⟩:=a
  rw [← Bool.decide_and]
  refine decide_eq_decide.2 ⟨fun h=>?_,fun h=>?_⟩
  ·have h1:=congrArg Prod.fst h
   have h2:=congrArg Prod.snd h
   exact ⟨h1,h2⟩
  ·obtain ⟨rfl,rfl⟩:=h
   rfl
 unfold QU qdI stB
 rw [ez]
 show (bif decide (a.1=0) then some (decide (a.2=0)) else bif decide (1≤a.1) then bif decide (a.1≤1099511627776) then bif decide (0≤a.2) then some (decide (a.2 < 8)) else some false else some false else some false)=_
 rw [show decide (1≤a.1)=decide (0 < a.1) from decide_eq_decide.2 (by omega)]
 by_cases h0:a.1=0
 ·rw [h0]; cases decide (a.2=0)<;>rfl
 ·rw [decide_eq_false h0]
  cases decide (0 < a.1)<;>cases decide (a.1≤1099511627776)<;>cases decide (0≤a.2)<;>cases decide (a.2 < 8)<;>rfl
theorem Yg (a b:qc):zN a b=some (slB a b):=by
 unfold zN qcG slB
 show (bif decide (a.1 < b.1) then some true else bif decide (a.1=b.1) then some (decide (a.2 < b.2)) else some false)=_
 by_cases h:a.1 < b.1
 ·rw [decide_eq_true h,decide_eq_true (show a.1 < b.1∨a.1=b.1∧a.2 < b.2 from Or.inl h)]; rfl
 ·rw [decide_eq_false h]
  by_cases h2:a.1=b.1
  ·rw [decide_eq_true h2]
   show some (decide (a.2 < b.2))=_
   exact congrArg some (decide_eq_decide.2 (by omega))
  ·rw [decide_eq_false h2,decide_eq_false (show ¬(a.1 < b.1∨a.1=b.1∧a.2 < b.2) by omega)]; rfl
theorem qVf (c:qe):qaZ c=some (KT c):=by
 have e2:decide (((c.V.length:Nat):Int)≤200)=decide (c.V.length≤200):=decide_eq_decide.2 (by omega)
 unfold qaZ qdp KT
 rw [run_bind,qst,Option.bind_some]
 show (bif stB c.S then bif decide (0 < c.S.1) then some (decide (((c.V.length:Nat):Int)≤200)) else some false else some false)=_
 rw [e2]
 cases hs:stB c.S with
 | false=>cases decide (c.S=zSt)<;>rfl
 | true=>
  have hz:decide (0 < c.S.1)=!decide (c.S=zSt):=by
   unfold stB at hs
   by_cases h:c.S=zSt
   ·rw [decide_eq_true h,h]; rfl
   ·rw [decide_eq_false h] at hs ⊢
    simp only [Bool.false_or,Bool.and_eq_true,decide_eq_true_iff] at hs
    exact decide_eq_true hs.1.1.1
  rw [hz]
  cases decide (c.S=zSt)<;>rfl
end Go.Rx
end
set_option maxRecDepth 100000
noncomputable section
namespace Go.Rx
open Go.Proofs
theorem qth {V W Y : Type} {B : V → Tree (V ⊕ W)} {g : W → Option Y} {at_ : Nat → V} {q : Nat → Bool} {n : Nat} {hit fin : W}
    (h1:∀ k,k < n→(B (at_ k)).run some=some (if q k then .inl (at_ (k + 1)) else .inr hit)) (h2:(B (at_ n)).run some=some (.inr fin)) :
    ∀ (m k:Nat),k + m=n→∀ N,m < N→(∀ j,j < k→q j=true)→qQ B g N (at_ k)=g (if ve q n then fin else hit)
 | 0,k,hk,N + 1,_,hq=>by
  obtain rfl:k=n:=by omega
  rw [zu h2,if_pos (Vg.2 hq)]
 | m + 1,k,hk,N + 1,hN,hq=>by
  have h:=h1 k (by omega)
  cases e:q k with
  | true=>
   rw [e,if_pos rfl] at h
   rw [Zq h]
   exact qth h1 h2 m (k + 1) (by omega) N (by omega) fun j hj=>by
    by_cases ej:j=k
    ·rw [ej]; exact e
    ·exact hq j (by omega)
  | false=>
   rw [e,if_neg (by simp)] at h
   rw [zu h,if_neg (fun ha=>by have:=Vg.1 ha k (by omega); rw [e] at this; cases this)]
 | _,_,_,0,hN,_=>by omega
section
variable {N:Nat} [Jm N]
def qmG (l:List qd) (k:Nat):Int:=if k=0 then -1 else (l.getD (k - 1) zF).No
theorem qWJ {r : qa} (hN : r.F.length < N) (h62 : r.F.length ≤ 4611686018427387904) :
    ∃ z,YA N r (-1) 0=some (if ve (qk_ r.F r.qz) r.F.length then .inr z else .inl ()):=by
 refine ⟨(qmG r.F r.F.length,((r.F.length:Nat):Int),false),?_⟩
 refine (qth (B:=XU N r) (g:=some) (at_:=fun k=>(qmG r.F k,(k:Int))) (q:=qk_ r.F r.qz) (n:=r.F.length) (hit:=.inl ()) (fin:=.inr (qmG r.F r.F.length,((r.F.length:Nat):Int),false)) (fun k hk=>?_) ?_ r.F.length 0 (by omega) N hN (fun j hj=>by omega)).trans ?_
 ·have h64:qp ((k:Int) + 1):=by unfold qp; omega
  have hl:qmG r.F (k + 1)=(r.F.getD k zF).No:=by unfold qmG; rw [if_neg (by omega)]; rfl
  have hq:(if k=0 then decide (0≤(r.F.getD k zF).No) else decide ((r.F.getD (k - 1) zF).No < (r.F.getD k zF).No))=!decide ((r.F.getD k zF).No≤qmG r.F k):=by
   rw [← decide_not]
   unfold qmG
   by_cases h0:k=0
   ·rw [if_pos h0,if_pos h0]; exact decide_eq_decide.2 (by omega)
   ·rw [if_neg h0,if_neg h0]; exact decide_eq_decide.2 (by omega)
  unfold XU qk_
  rw [hq,qL,dec_lt hk,cond_true,run_bind,zo (d:=zF) hk,Option.bind_some,run_bind,qVf,Option.bind_some,run_bind,Yg,Option.bind_some,qL,zc,qL,qL,qL,qS,qi h64,zc,qT,hl]
  show (bif !KT (r.F.getD k zF).C then _ else bif !slB r.qz (r.F.getD k zF).C.S then _ else bif decide ((r.F.getD k zF).No≤qmG r.F k) then _ else bif decide (8≤(r.F.getD k zF).No) then _ else _)=_
  cases KT (r.F.getD k zF).C<;>cases slB r.qz (r.F.getD k zF).C.S<;>cases decide ((r.F.getD k zF).No≤qmG r.F k)<;>cases decide (8≤(r.F.getD k zF).No)<;>rfl
 ·unfold XU
  rw [qL,zi (Nat.lt_irrefl _),cond_false,zc]
 ·rfl
theorem qzn {r:qa} (hN:r.F.length < N) (h62:r.F.length≤4611686018427387904):Jn N r=some (vd r):=by
 have e0:eqE qh r.qz (qc.mk 0 0)=decide (r.qz=zSt):=qaL _ _
 have d0:decide (((r.F.length:Nat):Int)=0)=decide (r.F.length=0):=decide_eq_decide.2 (by omega)
 obtain ⟨z,ez⟩:=qWJ hN h62
 unfold Jn qc7 vd
 rw [run_bind,qst,Option.bind_some,qL,zc,qL,d0,qL,e0,zc,run_bind,ez,Option.bind_some]
 cases stB r.qz<;>cases decide (r.F.length=0)<;>cases decide (r.qz=zSt)<;>cases ve (qk_ r.F r.qz) r.F.length<;>rfl
end
end Go.Rx
end
set_option maxRecDepth 100000
noncomputable section
namespace Go.Rx
open Go.Proofs
theorem qnj {l:List UInt8} {k:Nat} (h:k < l.length):l.drop k=l.getD k 0::l.drop (k + 1):=by
 rw [List.drop_eq_getElem_cons h]
 simp [List.getD,List.getElem?_eq_getElem h]
section
variable {N:Nat} [Jm N]
theorem qJ3 {a b : Vector UInt8 16} : ∀ (m k n : Nat), k + m = 16 → m < n →
    qQ (ZO N a b) some n (k:Int)=some (if a.toList.drop k=b.toList.drop k then .inr ((16:Int),false) else .inl (decide (Go.Lib.compareBytes (a.toList.drop k) (b.toList.drop k) < 0)))
 | 0,k,n + 1,hk,_=>by
  obtain rfl:k=16:=by omega
  rw [zu (x:=.inr ((16:Int),false)) (by unfold ZO; rfl) n,if_pos (by rw [List.drop_of_length_le (by simp),List.drop_of_length_le (by simp)])]
 | m + 1,k,n + 1,hk,hn=>by
  have hk16:k < 16:=by omega
  have d1:decide ((k:Int) < 16)=true:=decide_eq_true (by omega)
  have p1:(0:Int)≤(k:Int)∧(k:Int) < ((16:Nat):Int):=by omega
  have p2:(k:Int).toNat < 16:=by rw [Int.toNat_natCast]; exact hk16
  have h64:qp ((k:Int) + 1):=by unfold qp; omega
  rw [qnj (l:=a.toList) (k:=k) (by simpa using hk16),qnj (l:=b.toList) (k:=k) (by simpa using hk16)]
  by_cases e:a.toList.getD k 0=b.toList.getD k 0
  ·have d2:decide ((((a.toList.getD k 0).toNat:Nat):Int)=(((b.toList.getD k 0).toNat:Nat):Int))=true:=decide_eq_true (by rw [e])
   rw [Zq (v':=((k + 1:Nat):Int)) (by
    unfold ZO
    rw [qL,d1,cond_true,qS,qi p1,qS,qi p2,qS,qi p1,qS,qi p2,qL,Int.toNat_natCast,d2,Bool.not_true,cond_false,qS,qi h64,zc,qT]) n]
   rw [qJ3 m (k + 1) n (by omega) (by omega),e]
   have hc:Go.Lib.compareBytes (b.toList.getD k 0::a.toList.drop (k + 1)) (b.toList.getD k 0::b.toList.drop (k + 1))=Go.Lib.compareBytes (a.toList.drop (k + 1)) (b.toList.drop (k + 1)):=by
    show (if _ < _ then _ else if _ < _ then _ else _)=_
    rw [if_neg (UInt8.lt_irrefl _),if_neg (UInt8.lt_irrefl _)]
   rw [hc]
   by_cases e2:a.toList.drop (k + 1)=b.toList.drop (k + 1)
   ·rw [if_pos e2,if_pos (by rw [e2])]
   ·rw [if_neg e2,if_neg (fun h=>e2 (List.cons.inj h).2)]
  ·have e':(a.toList.getD k 0).toNat≠(b.toList.getD k 0).toNat:=fun h=>e (UInt8.toNat_inj.1 h)
   have d2:decide ((((a.toList.getD k 0).toNat:Nat):Int)=(((b.toList.getD k 0).toNat:Nat):Int))=false:=decide_eq_false (by omega)
   rw [zu (x:=.inl (decide ((((a.toList.getD k 0).toNat:Nat):Int) < (((b.toList.getD k 0).toNat:Nat):Int)))) (by
    unfold ZO
    rw [qL,d1,cond_true,qS,qi p1,qS,qi p2,qS,qi p1,qS,qi p2,qL,Int.toNat_natCast,d2,Bool.not_false,cond_true,qS,qi p1,qS,qi (by exact hk16),qS,qi p1,qS,qi (by exact hk16),zc]) n]
   rw [if_neg (fun h=>e (List.cons.inj h).1)]
   refine congrArg (fun x=>some (Sum.inl x)) (decide_eq_decide.2 ?_)
   show _↔(if a.toList.getD k 0 < b.toList.getD k 0 then (-1:Int) else if b.toList.getD k 0 < a.toList.getD k 0 then 1 else _) < 0
   by_cases h:(a.toList.getD k 0).toNat < (b.toList.getD k 0).toNat
   ·rw [if_pos (UInt8.lt_iff_toNat_lt.2 h)]; omega
   ·rw [if_neg (fun h'=>h (UInt8.lt_iff_toNat_lt.1 h')),if_pos (UInt8.lt_iff_toNat_lt.2 (by omega))]; omega
 | _,_,0,_,hn=>by omega
theorem qBi (a b:Vector UInt8 16):Qq N a b=some (lbB a b):=by
 have e:qbg N a b 0=some (if a.toList.drop 0=b.toList.drop 0 then .inr ((16:Int),false) else .inl (decide (Go.Lib.compareBytes (a.toList.drop 0) (b.toList.drop 0) < 0))):=qJ3 16 0 N (by omega) (by have:=big N; omega)
 rw [List.drop_zero,List.drop_zero] at e
 unfold Qq qcF lbB
 rw [run_bind,e,Option.bind_some]
 by_cases h:a=b
 ·rw [if_pos (by rw [h]),decide_eq_true h]; rfl
 ·rw [if_neg (fun h'=>h (Vector.toList_inj.1 h')),decide_eq_false h]; rfl
theorem qUL {b : qb} (hN : b.R.length < N) (h62 : b.R.length ≤ 4611686018427387904) (hF : ∀ k, k < b.R.length → (b.R.getD k zR).F.length < N ∧ (b.R.getD k zR).F.length ≤ 4611686018427387904) :
    qcB N b 0=some (if ve (qt0 b.R) b.R.length then .inr (((b.R.length:Nat):Int),false) else .inl ()):=by
 refine VD (B:=XZ N b) (g:=some) (q:=qt0 b.R) (fun k hk=>?_) ?_ hN
 ·have h64:qp ((k:Int) + 1):=by unfold qp; omega
  unfold XZ
  rw [qL,dec_lt hk,cond_true,run_bind,zo (d:=zR) hk,Option.bind_some,run_bind,qzn (hF k hk).1 (hF k hk).2,Option.bind_some,qL,zc,qL,qrI,qS,qS,qi h64,zc,qT]
  unfold qt0
  cases vd (b.R.getD k zR) with
  | false=>rfl
  | true=>
   by_cases h0:k=0
   ·rw [decide_eq_true h0]; rfl
   ·have hp:qp ((k:Int) - 1):=by unfold qp; omega
    have hk1:k - 1 < b.R.length:=by omega
    rw [decide_eq_false h0,Bool.not_true,cond_false,Bool.not_false,cond_true,qi hp,run_bind,qjX (Nat.pos_of_ne_zero h0),zo (d:=zR) hk1,Option.bind_some,run_bind,Option.bind_some,run_bind,qBi,Option.bind_some,qL,zc,qS,qi (show qp ((k + 1:Nat):Int) by rw [← qT]; exact h64),zc]
    cases lbB (b.R.getD (k - 1) zR).ID (b.R.getD k zR).ID<;>rfl
 ·unfold XZ
  rw [qL,zi (Nat.lt_irrefl _),cond_false,zc]
theorem qjT {b:qb} (h:jj N b):Jl N b=some (jm b):=by
 have e2:decide (((b.R.length:Nat):Int)≤10)=decide (b.R.length≤10):=decide_eq_decide.2 (by omega)
 unfold Jl qdN jm
 rw [run_bind,qUL h.1 h.2.1 h.2.2,Option.bind_some]
 cases ve (qt0 b.R) b.R.length with
 | false=>rfl
 | true=>show (Tree.run some (Tree.ret (decide (((b.R.length:Nat):Int)≤10))))=_; rw [zc,e2]; rfl
end
end Go.Rx
end
set_option maxRecDepth 100000
noncomputable section
namespace Go.Rx
open Go.Proofs
open Go.Lib (compareBytes)
theorem qJ1 {x y:UInt8} {a b:List UInt8}:ltB (x::a) (y::b)=if x=y then ltB a b else decide (x.toNat < y.toNat):=by
 unfold ltB
 rw [show compareBytes (x::a) (y::b)=if x < y then -1 else if y < x then 1 else compareBytes a b from rfl]
 by_cases h:x=y
 ·subst h
  rw [if_neg (UInt8.lt_irrefl _),if_neg (UInt8.lt_irrefl _),if_pos rfl]
 ·rw [if_neg h]
  by_cases h1:x < y
  ·rw [if_pos h1,decide_eq_true (UInt8.lt_iff_toNat_lt.1 h1)]; rfl
  ·have:¬ x.toNat < y.toNat:=fun e=>h1 (UInt8.lt_iff_toNat_lt.2 e)
   have h2:y < x:=by
    apply UInt8.lt_iff_toNat_lt.2
    have:x.toNat≠y.toNat:=fun e=>h (UInt8.toNat_inj.1 e)
    omega
   rw [if_neg h1,if_pos h2,decide_eq_false this]; rfl
theorem qzk {x y:UInt8}:decide (((x.toNat:Nat):Int)=((y.toNat:Nat):Int))=decide (x=y):=decide_eq_decide.2 ⟨fun h=>UInt8.toNat_inj.1 (by omega),fun h=>by rw [h]⟩
theorem qMA {x y:UInt8}:decide (((x.toNat:Nat):Int) < ((y.toNat:Nat):Int))=decide (x.toNat < y.toNat):=decide_eq_decide.2 (by omega)
section
variable {N:Nat} [Jm N]
theorem qKD {a b : Vector UInt8 32} : ∀ (m k n : Nat), k + m = 32 → m < n →
    ∃ z,qQ (ZS N a b) some n (k:Int)=some z∧(match z with | .inl x=>x | .inr _=>false)=ltB (a.toList.drop k) (b.toList.drop k)
 | 0,k,n + 1,hk,_=>by
  obtain rfl:k=32:=by omega
  refine ⟨.inr ((32:Int),false),?_,?_⟩
  ·rw [zu (x:=.inr ((32:Int),false)) (by unfold ZS; rfl) n]
  ·rw [List.drop_of_length_le (by simp),List.drop_of_length_le (by simp)]; rfl
 | m + 1,k,n + 1,hk,hn=>by
  have hk16:k < 32:=by omega
  have d1:decide ((k:Int) < 32)=true:=decide_eq_true (by omega)
  have p1:(0:Int)≤(k:Int)∧(k:Int) < ((32:Nat):Int):=by omega
  have p2:(k:Int).toNat < 32:=by rw [Int.toNat_natCast]; exact hk16
  rw [qnj (l:=a.toList) (k:=k) (by simpa using hk16),qnj (l:=b.toList) (k:=k) (by simpa using hk16),qJ1]
  by_cases e:a.toList.getD k 0=b.toList.getD k 0
  ·obtain ⟨z,h1,h2⟩:=qKD m (k + 1) n (by omega) (by omega)
   refine ⟨z,?_,by rw [if_pos e,h2]⟩
   rw [Zq (v':=((k + 1:Nat):Int)) (by
    unfold ZS
    exact w_t d1 (qF p1 (qF p2 (qF p1 (qF p2 (w_f (by rw [qzk,Int.toNat_natCast,decide_eq_true e]; rfl) (qF (zB (by omega)) (qA (by rw [qT])))))))) ) n]
   exact h1
  ·refine ⟨.inl (decide ((a.toList.getD k 0).toNat < (b.toList.getD k 0).toNat)),?_,by rw [if_neg e]⟩
   rw [zu (x:=.inl (decide ((a.toList.getD k 0).toNat < (b.toList.getD k 0).toNat))) (by
    unfold ZS
    exact w_t d1 (qF p1 (qF p2 (qF p1 (qF p2 (w_t (by rw [qzk,Int.toNat_natCast,decide_eq_false e]; rfl) (qF p1 (qF p2 (qF p1 (qF p2 (qA (by rw [qMA,Int.toNat_natCast]))))))))))) ) n]
 | _,_,0,_,hn=>by omega
theorem qI5 (a b:Vector UInt8 32):WD N a b=some (ltD a b):=by
 obtain ⟨z,h1,h2⟩:=qKD (N:=N) (a:=a) (b:=b) 32 0 N (by omega) (by have:=big N; omega)
 have e:qaR N a b 0=some z:=h1
 rw [List.drop_zero,List.drop_zero] at h2
 unfold WD qcz ltD
 rw [← h2]
 refine ql e ?_
 cases z<;>rfl
theorem qGL {a b : qe} (hb : b.V.length ≤ 50000) : ∀ (m k n : Nat), k + m = b.V.length → m < n →
    ∃ z,qQ (vN N a b) some n (k:Int)=some z∧(match z with | .inl x=>x | .inr _=>false)=ltB (a.V.drop k) (b.V.drop k)
 | 0,k,n + 1,hk,_=>by
  obtain rfl:k=b.V.length:=by omega
  refine ⟨.inr (((b.V.length:Nat):Int),false),?_,?_⟩
  ·rw [zu (x:=.inr (((b.V.length:Nat):Int),false)) (by unfold vN; exact w_f (zi (Nat.lt_irrefl _)) (qA (by rw [zi (Nat.lt_irrefl _)]))) n]
  ·rw [List.drop_of_length_le (l:=b.V) (Nat.le_refl _)]
   cases a.V.drop b.V.length<;>rfl
 | m + 1,k,n + 1,hk,hn=>by
  have hkb:k < b.V.length:=by omega
  by_cases ha:a.V.length≤k
  ·refine ⟨.inl true,?_,?_⟩
   ·rw [zu (x:=.inl true) (by unfold vN; exact w_t (dec_lt hkb) (w_t (decide_eq_true (by omega)) (qA rfl))) n]
   ·rw [List.drop_of_length_le ha,qnj hkb]; rfl
  ·have hka:k < a.V.length:=by omega
   have d2:decide (((a.V.length:Nat):Int)≤(k:Int))=false:=decide_eq_false (by omega)
   rw [qnj hka,qnj hkb,qJ1]
   by_cases e:a.V.getD k 0=b.V.getD k 0
   ·obtain ⟨z,h1,h2⟩:=qGL hb m (k + 1) n (by omega) (by omega)
    refine ⟨z,?_,by rw [if_pos e,h2]⟩
    rw [Zq (v':=((k + 1:Nat):Int)) (by
     unfold vN
     exact w_t (dec_lt hkb) (w_f d2 (ql (zo (d:=0) hka) (ql (zo (d:=0) hkb) (w_f (by rw [qzk,decide_eq_true e]; rfl) (qF (zB (by omega)) (qA (by rw [qT])))))))) n]
    exact h1
   ·refine ⟨.inl (decide ((a.V.getD k 0).toNat < (b.V.getD k 0).toNat)),?_,by rw [if_neg e]⟩
    rw [zu (x:=.inl (decide ((a.V.getD k 0).toNat < (b.V.getD k 0).toNat))) (by
     unfold vN
     exact w_t (dec_lt hkb) (w_f d2 (ql (zo (d:=0) hka) (ql (zo (d:=0) hkb) (w_t (by rw [qzk,decide_eq_false e]; rfl) (ql (zo (d:=0) hka) (ql (zo (d:=0) hkb) (qA (by rw [qMA]))))))))) n]
 | _,_,0,_,hn=>by omega
theorem qQ_ {a b:qe} (ha:a.V.length≤50000) (hb:b.V.length≤50000):KY N a b=some (qcL a b):=by
 have hN:=big N
 unfold KY qcE qcL
 by_cases h1:a.S=b.S
 ·rw [if_pos h1]
  refine w_f (by rw [qaL]; show (!decide (a.S=b.S))=false; rw [decide_eq_true h1]; rfl) (ql (qKa (by show a.V.length≤_; omega) (by show a.V.length + 100 < N; omega)) (ql (qKa (by show b.V.length≤_; omega) (by show b.V.length + 100 < N; omega)) ?_))
  by_cases h2:VE a.V=VE b.V
  ·rw [if_pos h2]
   obtain ⟨z,g1,g2⟩:=qGL (N:=N) (a:=a) hb b.V.length 0 N (by omega) (by omega)
   rw [List.drop_zero,List.drop_zero] at g2
   rw [← g2]
   refine w_f (by rw [eqD]; show (!decide (VE a.V=VE b.V))=false; rw [decide_eq_true h2]; rfl) (ql (x:=z) g1 ?_)
   cases z<;>rfl
  ·rw [if_neg h2]
   exact w_t (by rw [eqD]; show (!decide (VE a.V=VE b.V))=true; rw [decide_eq_false h2]; rfl) (ql (qI5 _ _) (qA rfl))
 ·rw [if_neg h1]
  exact w_t (by rw [qaL]; show (!decide (a.S=b.S))=true; rw [decide_eq_false h1]; rfl) (ql (Yg _ _) (qA rfl))
theorem qQ7 {a b:qe} (ha:a.V.length≤50000) (hb:b.V.length≤50000):KL N a b=some (cJ a b):=by
 unfold KL qcl cJ
 refine ql (qQ_ ha hb) ?_
 cases qcL a b<;>rfl
theorem qUX (a b:qc):qa2 a b=some (mxS a b):=by
 unfold qa2 qd6 mxS
 refine ql (Yg _ _) ?_
 cases slB a b<;>rfl
abbrev zC:qe:=qe.mk (qc.mk 0 0) []
theorem qIx {r:qa} {no:Int} (h:r.F.length≤600):WI N r no=some (match cO r.F no with | some c=>(c,true) | none=>(zC,false)):=by
 have key:=qdR (B:=ZN N r zC no) (g:=some) (p:=fun k=>decide ((r.F.getD k zF).No=no)) (n:=r.F.length) (hit:=fun k=>.inl (r.F.getD k zF).C) (fin:=.inr (((r.F.length:Nat):Int),false)) (fun k hk=>by
  unfold ZN
  refine w_t (dec_lt hk) (ql (zo (d:=zF) hk) ?_)
  by_cases e:(r.F.getD k zF).No=no
  ·exact w_t (decide_eq_true e) (ql (zo (d:=zF) hk) (qA (by rw [if_pos (decide_eq_true e)])))
  ·exact w_f (decide_eq_false e) (qF (zB (by omega)) (qA (by rw [if_neg (by rw [decide_eq_false e]; simp),qT])))) (by
  unfold ZN
  exact w_f (zi (Nat.lt_irrefl _)) (qA (by rw [zi (Nat.lt_irrefl _)]))) N 0 (Nat.zero_le _) (by have:=big N; omega)
 rw [Nat.sub_zero] at key
 have e:qaO N r zC no 0=qQ (ZN N r zC no) some N ((0:Nat):Int):=rfl
 rw [← qVU]
 unfold qSx
 unfold WI qcA
 refine ql (e.trans key) ?_
 cases Zh (fun k=>decide ((r.F.getD k zF).No=no)) r.F.length 0<;>rfl
theorem qTR {a b:qa} (ha:vd a=true) (hb:vd b=true) (hid:a.ID=b.ID):Vx N a b=some (rJ a b,true):=by
 have hN:=big N
 have h8a:=YS ha
 have h8b:=YS hb
 have sh:∀ {r:qa},vd r=true→∀ no c,cO r.F no=some c→c.V.length≤50000:=fun {r} hr no c hc=>by
  obtain ⟨f,hf,_,rfl⟩:=qsL hc
  obtain ⟨i,hi,rfl⟩:=List.getElem_of_mem hf
  have:=qts (qtH hr i hi)
  rw [List.getD_eq_getElem?_getD,List.getElem?_eq_getElem hi] at this
  have:r.F[i].C.V.length≤200:=this
  omega
 have key:qbk N [] a b (Vector.replicate 16 0) (qc.mk 0 0) a.ID (mxS a.qz b.qz) [] 0=some (zY (fun k s=>s++qcX (mxS a.qz b.qz) k (jC (cO a.F (k:Int)) (cO b.F (k:Int)))) 8 0 [],(8:Int),false):=by
  refine jd (σ:=List qd) (B:=Xp N [] a b (Vector.replicate 16 0) (qc.mk 0 0) a.ID (mxS a.qz b.qz)) (g:=some) (at_:=fun k s=>(s,(k:Int))) (I:=fun k s=>s.length≤k) (f:=fun k s=>s++qcX (mxS a.qz b.qz) k (jC (cO a.F (k:Int)) (cO b.F (k:Int)))) (n:=8)
   (fin:=fun s=>(s,(8:Int),false)) (fun k s hk hs=>⟨?_,?_⟩) (fun s _=>?_) N 0 [] (Nat.le_refl _) (Nat.zero_le _) (by omega)
  ·have d8:decide ((k:Int) < 8)=true:=decide_eq_true (by omega)
   have cav:∀ f:qd,zU s.length s.length (s++[f]).length 40:=fun f=>⟨rfl,by rw [List.length_append]; unfold zh; simp; omega⟩
   have kp:∀ c:qe,qcX (mxS a.qz b.qz) k (some c)=if slB (mxS a.qz b.qz) c.S=true then [qd.mk (k:Int) c] else []:=fun _=>rfl
   unfold Xp
   refine w_t d8 (ql (qIx (by omega)) (ql (qIx (by omega)) ?_))
   dsimp only
   cases ea:cO a.F (k:Int) with
   | none=>
    cases eb:cO b.F (k:Int) with
    | none=>
     refine w_f rfl (w_t rfl (ql (Yg _ _) (w_f rfl (w_f rfl (qF (zB (by omega)) (qA ?_))))))
     rw [qT]
     show _=some (Sum.inl (s++[],_))
     rw [List.append_nil]
    | some c=>
     refine w_f rfl (w_t rfl (ql (Yg _ _) (w_f rfl (w_t rfl ?_))))
     show _=some (Sum.inl (s++qcX (mxS a.qz b.qz) k (some c),_))
     rw [kp]
     cases slB (mxS a.qz b.qz) c.S with
     | false=>exact w_f rfl (qF (zB (by omega)) (qA (by rw [qT,if_neg (by simp),List.append_nil])))
     | true=>exact w_t rfl (qF (cav _) (qF (zB (by omega)) (qA (by rw [qT,if_pos rfl]))))
   | some x=>
    cases eb:cO b.F (k:Int) with
    | none=>
     refine w_t rfl (w_f rfl (w_f rfl (ql (Yg _ _) (w_t rfl ?_))))
     show _=some (Sum.inl (s++qcX (mxS a.qz b.qz) k (some x),_))
     rw [kp]
     cases slB (mxS a.qz b.qz) x.S with
     | false=>exact w_f rfl (qF (zB (by omega)) (qA (by rw [qT,if_neg (by simp),List.append_nil])))
     | true=>exact w_t rfl (qF (cav _) (qF (zB (by omega)) (qA (by rw [qT,if_pos rfl]))))
    | some c=>
     refine w_t rfl (w_t rfl (ql (qQ7 (sh ha _ _ ea) (sh hb _ _ eb)) (w_f rfl (ql (Yg _ _) (w_t rfl ?_)))))
     show _=some (Sum.inl (s++qcX (mxS a.qz b.qz) k (some (cJ x c)),_))
     rw [kp]
     cases slB (mxS a.qz b.qz) (cJ x c).S with
     | false=>exact w_f rfl (qF (zB (by omega)) (qA (by rw [qT,if_neg (by simp),List.append_nil])))
     | true=>exact w_t rfl (qF (cav _) (qF (zB (by omega)) (qA (by rw [qT,if_pos rfl]))))
  ·have:=qyp (dead:=mxS a.qz b.qz) (k:=k) (c:=jC (cO a.F (k:Int)) (cO b.F (k:Int)))
   rw [List.length_append]; omega
  ·unfold Xp
   exact w_f rfl (qA rfl)
 unfold Vx qcu
 refine ql (qzn (by omega) (by omega)) (ql (qzn (by omega) (by omega)) (w_f (by rw [ha]; rfl) (w_f (by rw [hb]; rfl) (w_f (by rw [que]; show (!decide (a.ID=b.ID))=false; rw [decide_eq_true hid]; rfl)
  (ql (qUX _ _) (ql ((zl rfl).trans ((zl rfl).trans key)) (qF rfl (qA ?_))))))))
 rw [qm4 (g:=fun no=>jC (cO a.F no) (cO b.F no)),List.nil_append]; rfl
end
end Go.Rx
end
set_option maxRecDepth 100000
noncomputable section
namespace Go.Rx
open Go.Proofs
open Go.Lib (compareBytes)
theorem qgU {a b c:Vector UInt8 16} (h1:lbB a b=true) (h2:lbB b c=true):lbB a c=true:=by
 rw [qy_] at *; exact qQA h1 h2
theorem qMH (a b:Vector UInt8 16):(lbB a b=true∧lbB b a=false)∨a=b∨(lbB b a=true∧lbB a b=false):=by
 rw [qy_,qy_]
 rcases qzi a.toList b.toList with h | h | h
 ·exact .inl h
 ·exact .inr (.inl (Vector.toList_inj.1 h))
 ·exact .inr (.inr h)
end Go.Rx
end
set_option maxRecDepth 100000
noncomputable section
namespace Go.Rx
open Go.Proofs
theorem qjL {α:Type} {l:List α} {d:α} {P:α→Prop}:(∀ k,k < l.length→P (l.getD k d))↔∀ x∈l,P x:=by
 constructor
 ·intro h x hx
  obtain ⟨i,hi,rfl⟩:=List.getElem_of_mem hx
  have:=h i hi
  rw [List.getD_eq_getElem?_getD,List.getElem?_eq_getElem hi] at this
  exact this
 ·intro h k hk
  rw [List.getD_eq_getElem?_getD,List.getElem?_eq_getElem hk]
  exact h _ (List.getElem_mem hk)
theorem qpb {α:Type} {R:α→α→Prop} (ht:∀ a b c,R a b→R b c→R a c) {d:α} {l:List α}:(∀ k,k + 1 < l.length→R (l.getD k d) (l.getD (k + 1) d))↔l.Pairwise R:=by
 have gd:∀ k (h:k < l.length),l.getD k d=l[k]:=fun k h=>by rw [List.getD_eq_getElem?_getD,List.getElem?_eq_getElem h]; rfl
 rw [List.pairwise_iff_getElem]
 constructor
 ·intro h i j hi hj hij
  have key:∀ m,∀ hm:i + m + 1 < l.length,R l[i] l[i + m + 1]:=by
   intro m
   induction m with
   | zero=>
    intro hm
    have:=h i hm
    rw [gd i hi,gd (i + 1) hm] at this; exact this
   | succ m ih=>
    intro hm
    have h1:=ih (by omega)
    have h2:=h (i + m + 1) hm
    rw [gd (i + m + 1) (by omega),gd (i + m + 1 + 1) hm] at h2
    exact ht _ _ _ h1 h2
  have:=key (j - i - 1) (by omega)
  have e:i + (j - i - 1) + 1=j:=by omega
  simp only [e] at this
  exact this
 ·intro h k hk
  rw [gd k (by omega),gd (k + 1) hk]
  exact h k (k + 1) (by omega) hk (by omega)
abbrev qF4 (l:List qd):Prop:=l.Pairwise fun f g=>f.No < g.No
theorem qo_ {r:qa}:vd r=true↔stB r.qz=true∧(r.F≠[]∨r.qz≠zSt)∧qF4 r.F∧∀ f∈r.F,0≤f.No∧f.No < 8∧KT f.C=true∧slB r.qz f.C.S=true:=by
 have hne:r.F.length≠0↔r.F≠[]:=by
  rw [Ne,Ne,List.length_eq_zero_iff]
 constructor
 ·intro h
  have hr:=qaS.1 h
  refine ⟨hr.1,hr.2.1.imp hne.1 id,(qpb (R:=fun f g:qd=>f.No < g.No) (fun a b c h1 h2=>Int.lt_trans h1 h2) (d:=zF)).1 fun k hk=>?_,(qjL (d:=zF)).1 fun k hk=>?_⟩
  ·have:=(Kr.1 (hr.2.2 (k + 1) hk)).1
   rw [if_neg (by omega)] at this
   exact this
  ·have h1:=Kr.1 (hr.2.2 k hk)
   have h2:=qKv h k hk
   exact ⟨by omega,h1.2.1,h1.2.2.1,h1.2.2.2⟩
 ·rintro ⟨h1,h2,h3,h4⟩
  refine qaS.2 ⟨h1,h2.imp hne.2 id,fun k hk=>Kr.2 ⟨?_,?_⟩⟩
  ·by_cases h0:k=0
   ·rw [if_pos h0]; exact ((qjL (d:=zF)).2 h4 k hk).1
   ·rw [if_neg h0]
    have:=(qpb (R:=fun f g:qd=>f.No < g.No) (fun a b c h1 h2=>Int.lt_trans h1 h2) (d:=zF)).2 h3 (k - 1) (by omega)
    rw [show k - 1 + 1=k by omega] at this
    exact this
  ·have:=(qjL (d:=zF)).2 h4 k hk
   exact this.2
theorem qiQ {g:Int→Option qe} {dead:qc}:∀ {m k:Nat} {f:qd},f∈Vz g dead m k→(k:Int)≤f.No∧f.No < ((k + m:Nat):Int)∧g f.No=some f.C∧slB dead f.C.S=true
 | 0,_,_,h=>absurd h List.not_mem_nil
 | m + 1,k,f,h=>by
  unfold Vz at h
  rcases List.mem_append.1 h with h | h
  ·cases e:g (k:Int) with
   | none=>rw [e] at h; exact absurd h List.not_mem_nil
   | some c=>
    rw [e] at h
    have h:f∈(if slB dead c.S=true then [qd.mk (k:Int) c] else []):=h
    split at h
    ·rename_i hs
     obtain rfl:=List.mem_singleton.1 h
     exact ⟨Int.le_refl _,by show (k:Int) < _; omega,e,hs⟩
    ·exact absurd h List.not_mem_nil
  ·have:=qiQ h
   exact ⟨by omega,by omega,this.2.2⟩
theorem qvi {g:Int→Option qe} {dead:qc}:∀ {m k:Nat},qF4 (Vz g dead m k)
 | 0,_=>List.Pairwise.nil
 | m + 1,k=>by
  unfold Vz
  refine List.pairwise_append.2 ⟨?_,qvi,fun a ha b hb=>?_⟩
  ·have:=qyp (dead:=dead) (k:=k) (c:=g (k:Int))
   match hk:qcX dead k (g (k:Int)),this with
   | [],_=>exact List.Pairwise.nil
   | [x],_=>exact List.pairwise_singleton _ _
  ·have h1:=qiQ hb
   cases e:g (k:Int) with
   | none=>rw [e] at ha; exact absurd ha List.not_mem_nil
   | some c=>
    rw [e] at ha
    have ha:a∈(if slB dead c.S=true then [qd.mk (k:Int) c] else []):=ha
    split at ha
    ·obtain rfl:=List.mem_singleton.1 ha
     show (k:Int) < b.No
     omega
    ·exact absurd ha List.not_mem_nil
theorem qPl {l:List qd} (h:qF4 l) {f:qd} (hf:f∈l):cO l f.No=some f.C:=by
 induction l with
 | nil=>exact absurd hf List.not_mem_nil
 | cons x l ih=>
  rw [qzD]
  have hp:=List.pairwise_cons.1 h
  rcases List.mem_cons.1 hf with rfl | hf
  ·rw [if_pos rfl]
  ·have:=hp.1 f hf
   rw [if_neg (by omega),ih hp.2 hf]
theorem qBY {r:qa} (h:vd r=true) {no:Int} {c:qe} (hc:cO r.F no=some c):0≤no∧no < 8∧KT c=true∧slB r.qz c.S=true:=by
 obtain ⟨f,hf,rfl,rfl⟩:=qsL hc
 exact (qo_.1 h).2.2.2 f hf
theorem qPq {g:Int→Option qe} {dead:qc} {no:Int} (h0:0≤no) (h8:no < 8):cO (Vz g dead 8 0) no=(g no).filter fun c=>slB dead c.S:=by
 have key:∀ (m k:Nat),(k:Int)≤no→no < ((k + m:Nat):Int)→cO (Vz g dead m k) no=(g no).filter fun c=>slB dead c.S:=by
  intro m
  induction m with
  | zero=>intro k h1 h2; omega
  | succ m ih=>
   intro k h1 h2
   unfold Vz
   have app:∀ (a b:List qd),cO (a++b) no=(cO a no).or (cO b no):=by
    intro a b
    unfold cO
    rw [List.find?_append]
    cases List.find? (fun f:qd=>decide (f.No=no)) a<;>rfl
   rw [app]
   by_cases e:no=(k:Int)
   ·subst e
    have hn:cO (Vz g dead m (k + 1)) (k:Int)=none:=by
     cases hc:cO (Vz g dead m (k + 1)) (k:Int) with
     | none=>rfl
     | some c=>
      obtain ⟨f,hf,h3,_⟩:=qsL hc
      have:=(qiQ hf).1
      omega
    rw [hn]
    cases hg:g (k:Int) with
    | none=>rfl
    | some c=>
     show (cO (if slB dead c.S=true then [qd.mk (k:Int) c] else []) (k:Int)).or none=_
     rw [Option.or_none]
     by_cases hs:slB dead c.S=true
     ·rw [if_pos hs,qzD,if_pos (show (qd.mk (k:Int) c).No=(k:Int) from rfl),Option.filter_some,if_pos hs]; rfl
     ·rw [if_neg hs,qEa,Option.filter_some,if_neg hs]
   ·have hn : cO (qcX dead k (g (k : Int))) no = none := by
       cases hg:g (k:Int) with
       | none=>rfl
       | some c=>
        show cO (if slB dead c.S=true then [qd.mk (k:Int) c] else []) no=none
        by_cases hs:slB dead c.S=true
        ·rw [if_pos hs,qzD,if_neg (fun h=>e h.symm),qEa]
        ·rw [if_neg hs,qEa]
    rw [hn,Option.none_or,ih (k + 1) (by omega) (by omega)]
 exact key 8 0 (by omega) (by omega)
theorem qV6 (a b:qc):mxS a b=a∨mxS a b=b:=by
 unfold mxS
 split
 ·exact .inr rfl
 ·exact .inl rfl
theorem qBG {s:qc} (h:stB s=true) (hz:s≠zSt):slB zSt s=true:=by
 unfold stB at h
 rw [decide_eq_false hz] at h
 simp only [Bool.false_or,Bool.and_eq_true,decide_eq_true_iff] at h
 unfold slB
 exact decide_eq_true (.inl h.1.1.1)
theorem qWQ {x y:qe}:slB (cJ x y).S x.S=false∧slB (cJ x y).S y.S=false:=by
 unfold cJ
 by_cases h:qcL x y=true
 ·rw [if_pos h]
  unfold qcL at h
  by_cases e:x.S=y.S
  ·rw [e]; exact ⟨YR _,YR _⟩
  ·rw [if_neg e] at h
   rcases qzF x.S y.S with h1 | h1 | h1
   ·exact ⟨h1.2,YR _⟩
   ·exact (e h1).elim
   ·rw [h] at h1; simp at h1
 ·rw [if_neg h]
  unfold qcL at h
  by_cases e:x.S=y.S
  ·rw [e]; exact ⟨YR _,YR _⟩
  ·rw [if_neg e] at h
   rcases qzF x.S y.S with h1 | h1 | h1
   ·exact (h h1.1).elim
   ·exact (e h1).elim
   ·exact ⟨YR _,h1.2⟩
theorem qV2 {a b c:qc} (h1:slB b a=false) (h2:slB c a=true):slB c b=true:=by
 rcases qzF a b with h | h | h
 ·exact qyq h2 h.1
 ·subst h; exact h2
 ·rw [h1] at h; simp at h
theorem qJC {a b:qa} (ha:vd a=true) (hb:vd b=true) {no:Int} {c:qe} (h:jC (cO a.F no) (cO b.F no)=some c):0≤no∧no < 8∧KT c=true:=by
 cases ea:cO a.F no with
 | none=>
  rw [ea] at h
  cases eb:cO b.F no with
  | none=>rw [eb] at h; cases h
  | some y=>
   rw [eb] at h
   obtain rfl:=Option.some.inj h
   have:=qBY hb eb; exact ⟨this.1,this.2.1,this.2.2.1⟩
 | some x=>
  have hx:=qBY ha ea
  rw [ea] at h
  cases eb:cO b.F no with
  | none=>
   rw [eb] at h
   obtain rfl:=Option.some.inj h
   exact ⟨hx.1,hx.2.1,hx.2.2.1⟩
  | some y=>
   have hy:=qBY hb eb
   rw [eb] at h
   obtain rfl:=Option.some.inj h
   refine ⟨hx.1,hx.2.1,?_⟩
   rcases qUu x y with e | e
   ·rw [e]; exact hx.2.2.1
   ·rw [e]; exact hy.2.2.1
theorem qOa (a b:qa):(rJ a b).F=Vz (fun no=>jC (cO a.F no) (cO b.F no)) (mxS a.qz b.qz) 8 0:=rfl
theorem qWy {a b:qa} (ha:vd a=true) (hb:vd b=true) (no:Int):cO (rJ a b).F no=(jC (cO a.F no) (cO b.F no)).filter fun c=>slB (mxS a.qz b.qz) c.S:=by
 by_cases h:0≤no∧no < 8
 ·rw [qOa,qPq h.1 h.2]
 ·have e1 : jC (cO a.F no) (cO b.F no) = none := by
     cases e:jC (cO a.F no) (cO b.F no) with
     | none=>rfl
     | some c=>have:=qJC ha hb e; exact (h ⟨this.1,this.2.1⟩).elim
  rw [e1]
  cases e:cO (rJ a b).F no with
  | none=>rfl
  | some c=>
   obtain ⟨f,hf,h3,_⟩:=qsL e
   rw [qOa] at hf
   have:=qiQ (m:=8) (k:=0) hf
   exact (h ⟨by omega,by omega⟩).elim
theorem qUm (a b:qa):(rJ a b).ID=a.ID:=rfl
theorem qMP (a b:qa):(rJ a b).qz=mxS a.qz b.qz:=rfl
theorem qTl {a b:qc} (ha:stB a=true) (hb:stB b=true) (h:mxS a b=zSt):a=zSt∧b=zSt:=by
 by_cases e:b=zSt
 ·subst e
  unfold mxS at h
  by_cases hs:slB a zSt=true
  ·exfalso
   by_cases ea:a=zSt
   ·subst ea; rw [YR] at hs; simp at hs
   ·have:=qyq (qBG ha ea) hs
    rw [YR] at this; simp at this
  ·rw [if_neg hs] at h; exact ⟨h,rfl⟩
 ·exfalso
  unfold mxS at h
  by_cases hs:slB a b=true
  ·rw [if_pos hs] at h; exact e h
  ·rw [if_neg hs] at h
   subst h
   exact hs (qBG hb e)
theorem qCm {a b:qa} (ha:vd a=true) (hb:vd b=true):vd (rJ a b)=true:=by
 have hA:=qo_.1 ha
 have hB:=qo_.1 hb
 refine qo_.2 ⟨?_,?_,by rw [qOa]; exact qvi,fun f hf=>?_⟩
 ·rw [qMP]
  rcases qV6 a.qz b.qz with e | e
  ·rw [e]; exact hA.1
  ·rw [e]; exact hB.1
 ·by_cases hz:(rJ a b).qz=zSt
  ·left
   intro hF
   obtain ⟨za,zb⟩:=qTl hA.1 hB.1 hz
   have hne:a.F≠[]:=hA.2.1.resolve_right (fun h=>h za)
   obtain ⟨f,l,e⟩:=List.exists_cons_of_ne_nil hne
   have hf:f∈a.F:=by rw [e]; exact List.mem_cons_self ..
   have hca:=qPl hA.2.2.1 hf
   have hfl:=(hA.2.2.2 f hf).2.2.2
   have hn:cO (rJ a b).F f.No=none:=by rw [hF]; rfl
   rw [qWy ha hb,hca] at hn
   rw [qMP] at hz
   rw [hz] at hn
   rw [za] at hfl
   cases hcb:cO b.F f.No with
   | none=>
    rw [hcb] at hn
    have hn:(some f.C).filter (fun c=>slB zSt c.S)=none:=hn
    rw [Option.filter_some,if_pos hfl] at hn; cases hn
   | some y=>
    rw [hcb] at hn
    have hn:(some (cJ f.C y)).filter (fun c=>slB zSt c.S)=none:=hn
    rw [Option.filter_some,if_pos (qV2 qWQ.1 hfl)] at hn; cases hn
  ·exact .inr hz
 ·rw [qOa] at hf
  have h1:=qiQ (m:=8) (k:=0) hf
  have h2:=qJC ha hb h1.2.2.1
  exact ⟨h2.1,h2.2.1,h2.2.2,h1.2.2.2⟩
def rO (l:List qa) (id:Vector UInt8 16):Option qa:=l.find? fun r=>decide (r.ID=id)
theorem qEZ {id:Vector UInt8 16}:rO [] id=none:=rfl
theorem V5 {r:qa} {l:List qa} {id:Vector UInt8 16}:rO (r::l) id=if r.ID=id then some r else rO l id:=by
 unfold rO
 rw [List.find?_cons]
 by_cases h:r.ID=id
 ·rw [decide_eq_true h,if_pos h]
 ·rw [decide_eq_false h,if_neg h]
theorem Ye {l:List qa} {id:Vector UInt8 16} {r:qa} (h:rO l id=some r):r∈l∧r.ID=id:=
 ⟨List.mem_of_find?_eq_some h,of_decide_eq_true (List.find?_some (p:=fun r:qa=>decide (r.ID=id)) h)⟩
abbrev YP (l:List qa):Prop:=l.Pairwise fun a b=>lbB a.ID b.ID=true
def Ki (l:List qa):Prop:=YP l∧∀ r∈l,vd r=true
theorem XE {b:qb}:jm b=true↔Ki b.R∧b.R.length≤10:=by
 rw [qoM]
 refine and_congr ?_ Iff.rfl
 have ht:∀ a b c:qa,lbB a.ID b.ID=true→lbB b.ID c.ID=true→lbB a.ID c.ID=true:=fun _ _ _ h1 h2=>qgU h1 h2
 constructor
 ·intro h
  refine ⟨(qpb (R:=fun a b:qa=>lbB a.ID b.ID=true) ht (d:=zR)).1 fun k hk=>?_,(qjL (d:=zR)).1 fun k hk=>(h k hk).1⟩
  rcases (h (k + 1) hk).2 with e | e
  ·omega
  ·exact e
 ·rintro ⟨h1,h2⟩ k hk
  refine ⟨(qjL (d:=zR)).2 h2 k hk,?_⟩
  by_cases h0:k=0
  ·exact .inl h0
  ·have:=(qpb (R:=fun a b:qa=>lbB a.ID b.ID=true) ht (d:=zR)).2 h1 (k - 1) (by omega)
   rw [show k - 1 + 1=k by omega] at this
   exact .inr this
theorem qP2 {l:List qa} (h:YP l) {r:qa} (hr:r∈l):rO l r.ID=some r:=by
 induction l with
 | nil=>exact absurd hr List.not_mem_nil
 | cons x l ih=>
  rw [V5]
  have hp:=List.pairwise_cons.1 h
  rcases List.mem_cons.1 hr with rfl | hr
  ·rw [if_pos rfl]
  ·have:=hp.1 r hr
   rw [if_neg (fun e=>by rw [e,Km] at this; cases this),ih hp.2 hr]
theorem qKE:∀ {l l':List qa},YP l→YP l'→(∀ id,rO l id=rO l' id)→l=l'
 | [],[],_,_,_=>rfl
 | [],y::l',_,h',h=>by
  have:=h y.ID
  rw [qEZ,V5,if_pos rfl] at this; cases this
 | x::l,[],hl,_,h=>by
  have:=h x.ID
  rw [qEZ,V5,if_pos rfl] at this; cases this
 | x::l,y::l',hl,hl',h=>by
  have pl:=List.pairwise_cons.1 hl
  have pl':=List.pairwise_cons.1 hl'
  have h1:=h x.ID
  rw [V5,if_pos rfl] at h1
  have h2:=h y.ID
  rw [V5 (r:=y),if_pos rfl] at h2
  have hxy:x=y:=by
   rcases List.mem_cons.1 (Ye h1.symm).1 with e | hf
   ·exact e
   ·rcases List.mem_cons.1 (Ye h2).1 with e | hg
    ·exact e.symm
    ·have a1:=pl'.1 x hf
     have a2:=pl.1 y hg
     have:=qgU a1 a2
     rw [Km] at this; cases this
  subst hxy
  rw [qKE pl.2 pl'.2 fun id=>?_]
  by_cases e:x.ID=id
  ·have n1 : rO l id = none := by
      cases hc:rO l id with
      | none=>rfl
      | some c=>
       have:=pl.1 c (Ye hc).1
       rw [e,(Ye hc).2,Km] at this; cases this
   have n2:rO l' id=none:=by
    cases hc:rO l' id with
    | none=>rfl
    | some c=>
     have:=pl'.1 c (Ye hc).1
     rw [e,(Ye hc).2,Km] at this; cases this
   rw [n1,n2]
  ·have:=h id
   rw [V5,V5,if_neg e,if_neg e] at this; exact this
def jR:Option qa→Option qa→Option qa
 | some x,some y=>some (rJ x y)
 | some x,none=>some x
 | none,y=>y
def qnQ (a b c:List qa):Prop:=YP c∧∀ id,rO c id=jR (rO a id) (rO b id)
theorem qOD {a b c d:List qa} (h:qnQ a b c) (h':qnQ a b d):c=d:=qKE h.1 h'.1 fun id=>(h.2 id).trans (h'.2 id).symm
theorem qPg {a b c:List qa} (ha:Ki a) (hb:Ki b) (h:qnQ a b c):Ki c:=by
 refine ⟨h.1,fun r hr=>?_⟩
 have e:=h.2 r.ID
 rw [qP2 h.1 hr] at e
 cases ea:rO a r.ID with
 | none=>
  rw [ea] at e
  have e:some r=rO b r.ID:=e
  exact hb.2 r (Ye e.symm).1
 | some x=>
  rw [ea] at e
  cases eb:rO b r.ID with
  | none=>
   rw [eb] at e
   obtain rfl:=Option.some.inj e
   exact ha.2 r (Ye ea).1
  | some y=>
   rw [eb] at e
   obtain rfl:=Option.some.inj e
   exact qCm (ha.2 x (Ye ea).1) (hb.2 y (Ye eb).1)
end Go.Rx
end
set_option maxRecDepth 100000
noncomputable section
namespace Go.Rx
open Go.Proofs
open Go.Lib (compareBytes)
section g
variable {α:Type}
theorem qIP {p q:List α} {x:α} {n:Nat} (h:(p++x::q).length=n):jy (p++x::q) n p.length=some x:=by
 unfold jy
 rw [if_pos h,List.getElem?_append_right (Nat.le_refl _),Nat.sub_self]; rfl
theorem qFn {x y:α} {q:List α}:∀ {p:List α},(p++x::q).set p.length y=p++y::q
 | []=>rfl
 | z::p=>by
  show z::(p++x::q).set p.length y=_
  rw [qFn]; rfl
end g
def K3 (rp:List (Vector UInt8 16)) (x:Vector UInt8 16) (q:List (Vector UInt8 16)):List (Vector UInt8 16):=match rp with
 | []=>x::q
 | y::r=>if lbB x y=true then K3 r x (y::q) else (y::r).reverse++x::q
def Q6 (l:List (Vector UInt8 16)):List (Vector UInt8 16):=l.foldl (fun p x=>K3 p.reverse x []) []
theorem qxv {x:Vector UInt8 16}:∀ {rp q:List (Vector UInt8 16)},(K3 rp x q).Perm (x::(rp++q))
 | [],q=>List.Perm.refl _
 | y::r,q=>by
  unfold K3
  split
  ·exact qxv.trans (List.Perm.cons _ List.perm_middle)
  ·exact List.perm_middle.trans (List.Perm.cons _ ((List.reverse_perm _).append_right _))
theorem qGH {x:Vector UInt8 16} {s:List (Vector UInt8 16)}:∀ {rp q:List (Vector UInt8 16)},K3 rp x (q++s)=K3 rp x q++s
 | [],q=>rfl
 | y::r,q=>by
  unfold K3
  split
  ·exact qGH (q:=y::q)
  ·rw [List.append_assoc]; rfl
abbrev qmM (l:List (Vector UInt8 16)):Prop:=l.Pairwise fun a b=>lbB a b=true
theorem qAQ {x:Vector UInt8 16}:∀ {rp q:List (Vector UInt8 16)},qmM (rp.reverse++q)→(∀ y∈q,lbB x y=true)→x∉rp→qmM (K3 rp x q)
 | [],q,h,hq,_=>List.pairwise_cons.2 ⟨hq,h⟩
 | y::r,q,h,hq,hx=>by
  rw [List.mem_cons,not_or] at hx
  unfold K3
  split
  ·rename_i hlt
   refine qAQ (rp:=r) (q:=y::q) ?_ (fun z hz=>?_) hx.2
   ·rw [List.reverse_cons,List.append_assoc] at h; exact h
   ·rcases List.mem_cons.1 hz with rfl | hz
    ·exact hlt
    ·exact hq z hz
  ·rename_i hlt
   have hyx:lbB y x=true:=by
    rcases qMH x y with h1 | h1 | h1
    ·exact (hlt h1.1).elim
    ·exact (hx.1 h1).elim
    ·exact h1.1
   obtain ⟨h1,h2,h3⟩:=List.pairwise_append.1 h
   refine List.pairwise_append.2 ⟨h1,List.pairwise_cons.2 ⟨hq,h2⟩,fun a ha b hb=>?_⟩
   have hay:lbB a x=true:=by
    rw [List.reverse_cons,List.mem_append,List.mem_singleton] at ha
    rcases ha with ha | rfl
    ·rw [List.reverse_cons] at h1
     exact qgU ((List.pairwise_append.1 h1).2.2 a ha y (List.mem_singleton.2 rfl)) hyx
    ·exact hyx
   rcases List.mem_cons.1 hb with rfl | hb
   ·exact hay
   ·exact h3 a ha b hb
theorem qGM:∀ {l p:List (Vector UInt8 16)},qmM p→(p++l).Nodup→qmM (l.foldl (fun p x=>K3 p.reverse x []) p)∧(l.foldl (fun p x=>K3 p.reverse x []) p).Perm (p++l)
 | [],p,h,_=>⟨h,by rw [List.append_nil]; exact List.Perm.refl _⟩
 | x::l,p,h,hn=>by
  have hp:(K3 p.reverse x []).Perm (x::p):=qxv.trans (List.Perm.cons _ (by rw [List.append_nil]; exact List.reverse_perm _))
  have hx:x∉p:=fun hx=>by
   have:=(List.nodup_append.1 hn).2.2 x hx x (List.mem_cons_self ..)
   exact this rfl
  have hs:qmM (K3 p.reverse x []):=qAQ (by rw [List.reverse_reverse,List.append_nil]; exact h) (fun y hy=>absurd hy (List.not_mem_nil)) (by rw [List.mem_reverse]; exact hx)
  have hpl:(K3 p.reverse x []++l).Perm (p++x::l):=(hp.append_right l).trans List.perm_middle.symm
  obtain ⟨h1,h2⟩:=qGM (l:=l) hs (hpl.nodup_iff.2 hn)
  exact ⟨h1,h2.trans hpl⟩
theorem qSA {l:List (Vector UInt8 16)} (h:l.Nodup):qmM (Q6 l)∧(Q6 l).Perm l:=by
 have:=qGM (l:=l) (p:=[]) List.Pairwise.nil (by simpa using h)
 rw [List.nil_append] at this
 exact this
section
variable {N:Nat} [Jm N]
theorem qTV (a b:Vector UInt8 16):∃ n:Int,qnz a b=some n∧decide (n < 0)=lbB a b:=by
 refine ⟨compareBytes a.toList b.toList,rfl,?_⟩
 rw [qy_]; rfl
theorem qMp {s2 s8 : Int} : ∀ (rp : List (Vector UInt8 16)) (x : Vector UInt8 16) (q : List (Vector UInt8 16)) (n m : Nat), (rp.reverse ++ x :: q).length = n → n ≤ 1000 → rp.length < m →
    ∃ j b,qQ (jH N n 0 s2 s8) some m (rp.reverse++x::q,(rp.length:Int))=some (K3 rp x q,j,b)
 | _,_,_,_,0,_,_,hm=>by omega
 | [],x,q,n,m + 1,hn,hs,hm=>by
  refine ⟨((0:Nat):Int),false,?_⟩
  rw [zu (x:=(([]:List (Vector UInt8 16)).reverse++x::q,((0:Nat):Int),false)) (by unfold jH; exact w_f rfl (qA rfl)) m]
  rfl
 | y::r,x,q,n,m + 1,hn,hs,hm=>by
  have hl:(y::r).reverse.length=r.length + 1:=by simp
  have e0:(y::r).reverse++x::q=r.reverse++y::(x::q):=by rw [List.reverse_cons,List.append_assoc]; rfl
  have hrl:r.reverse.length=r.length:=List.length_reverse
  have hnl:r.length + 1 < n:=by rw [← hn,List.length_append,hl,List.length_cons]; omega
  obtain ⟨c,hc,hlt⟩:=qTV x y
  have c0:(0:Int)≤((r.length + 1:Nat):Int)∧((r.length + 1:Nat):Int) < ((n:Nat):Int):=by omega
  have c1:qp (((r.length + 1:Nat):Int) - 1):=by unfold qp; omega
  have c2:(0:Int)≤((r.length + 1:Nat):Int) - 1∧((r.length + 1:Nat):Int) - 1 < ((n:Nat):Int):=by omega
  have g1:jy ((y::r).reverse++x::q) n (((r.length + 1:Nat):Int)).toNat=some x:=by
   have:=qIP (p:=(y::r).reverse) (x:=x) (q:=q) hn
   rw [hl] at this; exact this
  have t1:(((r.length + 1:Nat):Int) - 1).toNat=r.length:=by omega
  have g2:jy ((y::r).reverse++x::q) n (((r.length + 1:Nat):Int) - 1).toNat=some y:=by
   rw [t1,e0]
   have:=qIP (p:=r.reverse) (x:=y) (q:=x::q) (n:=n) (by rw [← e0]; exact hn)
   rw [hrl] at this; exact this
  cases hb:lbB x y with
  | false=>
   refine ⟨((r.length + 1:Nat):Int),decide (c < 0),?_⟩
   rw [zu (x:=((y::r).reverse++x::q,((r.length + 1:Nat):Int),decide (c < 0))) (by
    unfold jH
    exact w_t (decide_eq_true (by show (0:Int) < ((r.length + 1:Nat):Int); omega)) (qF c0 (ql g1 (qF c1 (qF c2 (ql g2 (ql hc (w_f (hlt.trans hb) (qA rfl)))))))) ) m]
   unfold K3
   rw [if_neg (by rw [hb]; simp)]
  | true=>
   obtain ⟨j,b,h⟩:=qMp r x (y::q) n m (by rw [← hn,e0]; simp) hs (by simp at hm; omega)
   refine ⟨j,b,?_⟩
   have s1:((y::r).reverse++x::q).set (((r.length + 1:Nat):Int)).toNat y=(y::r).reverse++y::q:=by
    have:=qFn (p:=(y::r).reverse) (x:=x) (y:=y) (q:=q)
    rw [hl] at this; exact this
   have s2:((y::r).reverse++y::q).set (((r.length + 1:Nat):Int) - 1).toNat x=r.reverse++x::(y::q):=by
    rw [t1,show (y::r).reverse++y::q=r.reverse++y::(y::q) by rw [List.reverse_cons,List.append_assoc]; rfl]
    have:=qFn (p:=r.reverse) (x:=y) (y:=x) (q:=y::q)
    rw [hrl] at this; exact this
   have v1:qkc ((y::r).reverse++x::q).length n (((r.length + 1:Nat):Int)).toNat:=⟨hn,by omega⟩
   have v2:qkc (((y::r).reverse++x::q).set (((r.length + 1:Nat):Int)).toNat y).length n (((r.length + 1:Nat):Int) - 1).toNat:=⟨by rw [List.length_set]; exact hn,by omega⟩
   rw [Zq (v':=(r.reverse++x::(y::q),(r.length:Int))) (by
    unfold jH
    refine w_t (decide_eq_true (by show (0:Int) < ((r.length + 1:Nat):Int); omega)) (qF c0 (ql g1 (qF c1 (qF c2 (ql g2 (ql hc (w_t (hlt.trans hb) (qF c1 (qF c1 (qF c2 (ql g2 (qF c0 (ql g1 (qF c0 (qF v1 (qF c2 (qF v2 (qF c1 (qA ?_)))))))))))))))))))
    show some (Sum.inl ((((y::r).reverse++x::q).set (((r.length + 1:Nat):Int)).toNat y).set (((r.length + 1:Nat):Int) - 1).toNat x,((r.length + 1:Nat):Int) - 1))=_
    rw [s1,s2,show ((r.length + 1:Nat):Int) - 1=(r.length:Int) by omega]) m]
   unfold K3
   rw [if_pos hb]
   exact h
theorem qM_ {l:List (Vector UInt8 16)} (hs:l.length≤1000) (h0:l≠[]):jg N l 0 (l.length:Int)=some (Q6 l):=by
 have hN:=big N
 have hpos:0 < l.length:=List.length_pos_iff.2 h0
 have key:vJ N l.length 0 (l.length:Int) l 1=some (Q6 l,(l.length:Int),false):=by
  have h:=qj4 (B:=zT N l.length 0 (l.length:Int)) (g:=some) (I:=fun v=>∃ k:Nat,1≤k∧k≤l.length∧v=(Q6 (l.take k)++l.drop k,(k:Int))) (Q:=fun y=>y=(Q6 l,(l.length:Int),false)) (fun v=>l.length - v.2.toNat) ?_ N (l,((1:Nat):Int))
   ⟨1,Nat.le_refl _,hpos,by
    cases l with
    | nil=>exact (h0 rfl).elim
    | cons x r=>rfl⟩ (by simp; omega)
  ·obtain ⟨y,e,rfl⟩:=h
   exact e
  rintro v ⟨k,h1,hk,rfl⟩
  have hlen:∀ j,j≤l.length→(Q6 (l.take j)).length=j:=by
   intro j hj
   have:∀ (m p:List (Vector UInt8 16)),(m.foldl (fun p x=>K3 p.reverse x []) p).length=p.length + m.length:=by
    intro m
    induction m with
    | nil=>intro p; rfl
    | cons x m ih=>
     intro p
     rw [List.foldl_cons,ih,qxv.length_eq]
     simp; omega
   unfold Q6
   rw [this]; simp; omega
  by_cases h:k < l.length
  ·left
   have ed:l.drop k=l.getD k (Vector.replicate 16 0)::l.drop (k + 1):=by
    rw [List.drop_eq_getElem_cons h,List.getD_eq_getElem?_getD,List.getElem?_eq_getElem h]; rfl
   have et:Q6 (l.take (k + 1))=K3 (Q6 (l.take k)).reverse (l.getD k (Vector.replicate 16 0)) []:=by
    unfold Q6
    rw [List.take_succ_eq_append_getElem h,List.foldl_append,List.getD_eq_getElem?_getD,List.getElem?_eq_getElem h]; rfl
   have hll:(Q6 (l.take k)).reverse.length=k:=by rw [List.length_reverse,hlen k hk]
   obtain ⟨j,b,e⟩:=qMp (N:=N) (s2:=(l.length:Int)) (s8:=(k:Int)) (Q6 (l.take k)).reverse (l.getD k (Vector.replicate 16 0)) (l.drop (k + 1)) l.length N (by
    rw [List.reverse_reverse,← ed,List.length_append,hlen k hk,List.length_drop]; omega) hs (by omega)
   rw [List.reverse_reverse,← ed,hll] at e
   have er:K3 (Q6 (l.take k)).reverse (l.getD k (Vector.replicate 16 0)) (l.drop (k + 1))=Q6 (l.take (k + 1))++l.drop (k + 1):=by
    rw [et,← qGH]; rfl
   rw [er] at e
   refine ⟨(Q6 (l.take (k + 1))++l.drop (k + 1),((k + 1:Nat):Int)),?_,⟨k + 1,by omega,h,rfl⟩,by simp only [Int.toNat_natCast]; omega⟩
   unfold zT
   exact w_t (dec_lt h) (ql e (qF (zB (by omega)) (qA (by rw [qT]))))
  ·right
   obtain rfl:k=l.length:=by omega
   refine ⟨(Q6 l,(l.length:Int),false),_,?_,rfl,rfl⟩
   unfold zT
   refine w_f (zi (Nat.lt_irrefl _)) (qA ?_)
   dsimp only
   rw [zi (Nat.lt_irrefl _),List.take_of_length_le (Nat.le_refl _),List.drop_of_length_le (Nat.le_refl _),List.append_nil]
 unfold jg vU
 exact qF (by unfold qp; omega) (ql key (qA rfl))
theorem qLa:jg N [] 0 ((([]:List (Vector UInt8 16)).length:Nat):Int)=some []:=by
 have key:vJ N 0 0 ((0:Nat):Int) [] 1=some ([],1,false):=by
  obtain ⟨M,hM⟩:∃ M,N=M + 1:=⟨N - 1,by have:=big N; omega⟩
  show qQ (zT N 0 0 ((0:Nat):Int)) some N ([],1)=_
  have:∀ K,K=M + 1→qQ (zT N 0 0 ((0:Nat):Int)) some K ([],1)=some ([],1,false):=by
   rintro K rfl
   rw [zu (x:=([],1,false)) (by unfold zT; exact w_f rfl (qA rfl))]
  exact this N hM
 unfold jg vU
 exact qF (by unfold qp; omega) (ql key (qA rfl))
theorem qUJ {l:List (Vector UInt8 16)} (h:l.length≤12):Y2 N l=some (Q6 l):=by
 have e1:jg N l 0 ((l.length:Nat):Int)=some (Q6 l):=by
  cases l with
  | nil=>exact qLa
  | cons x r=>exact qM_ (by omega) (by simp)
 have e2:∀ z:Int,J6 N l 0 ((l.length:Nat):Int) z=some (Q6 l):=fun z=>by
  have key:XL N l 0 ((l.length:Nat):Int) z=some (Q6 l):=by
   obtain ⟨M,hM⟩:∃ M,N=M + 1:=⟨N - 1,by have:=big N; omega⟩
   show qQ (QQ N l 0 ((l.length:Nat):Int) z) some N ()=_
   have:∀ K,K=M + 1→qQ (QQ N l 0 ((l.length:Nat):Int) z) some K ()=some (Q6 l):=by
    rintro K rfl
    rw [zu (x:=Q6 l) (by unfold QQ; exact qF (by unfold qp; omega) (w_t (decide_eq_true (by omega)) (ql ((zl rfl).trans e1) (qA rfl))))]
   exact this N hM
  unfold J6 Wz
  exact ql ((zl rfl).trans key) (qA rfl)
 have e3:∃ z,qgu (IntKind.u64.wrap ((l.length:Nat):Int))=some z:=by
  rw [qS7 (by omega)]
  have:∀ k,k≤12→(qgu ((k:Nat):Int)).isSome=true:=by decide +kernel
  exact Option.isSome_iff_exists.1 (this _ h)
 obtain ⟨z,e3⟩:=e3
 unfold Y2 qbB
 exact ql e3 (ql ((zl rfl).trans (e2 z)) (qA rfl))
end
end Go.Rx
end
set_option maxRecDepth 100000
noncomputable section
namespace Go.Rx
open Go.Proofs
open Go.Lib (compareBytes)
section
variable {N:Nat} [Jm N]
theorem quW (a b:Vector UInt8 32):qj3 a b=some (ltD a b):=by
 unfold qj3 qut ltD
 rw [qL,eqD]
 by_cases h:a=b
 ·subst h; rw [decide_eq_true rfl,qed]; rfl
 ·rw [decide_eq_false h]; rfl
end
end Go.Rx
end
set_option maxRecDepth 100000
noncomputable section
namespace Go.Rx
open Go.Proofs
open Go.Lib (compareBytes)
section
variable {N:Nat} [Jm N]
theorem qSD {x y : Bool} {p : Prop} (h : (x = true ∧ y = false) ∨ p ∨ (y = true ∧ x = false)) (hp : p → x = false ∧ y = false) :
    ∃ n:Int,(Tree.cond x (.ret (-1:Int)) (.cond y (.ret 1) (.ret 0))).run some=some n∧(decide (n=0)=true↔p)∧(¬ p→decide (n < 0)=x):=by
 rcases h with ⟨h1,h2⟩ | h1 | ⟨h1,h2⟩
 ·subst h1; subst h2
  exact ⟨-1,rfl,⟨fun h=>by simp at h,fun h=>by have:=(hp h).1; simp at this⟩,fun _=>rfl⟩
 ·obtain ⟨h2,h3⟩:=hp h1
  subst h2; subst h3
  exact ⟨0,rfl,⟨fun _=>h1,fun _=>rfl⟩,fun h=>(h h1).elim⟩
 ·subst h1; subst h2
  exact ⟨1,rfl,⟨fun h=>by simp at h,fun h=>by have:=(hp h).2; simp at this⟩,fun _=>rfl⟩
theorem qOZ (a b:qc):∃ n:Int,qbl N a b=some n∧(decide (n=0)=true↔a=b)∧(a≠b→decide (n < 0)=slB a b):=by
 obtain ⟨n,h1,h2,h3⟩:=qSD (qzF a b) fun h=>by subst h; exact ⟨YR a,YR a⟩
 refine ⟨n,?_,h2,h3⟩
 unfold qbl qdr
 rw [run_bind,W5,Option.bind_some,← h1,qL,qL,run_bind,W5,Option.bind_some]
theorem qO5 (a b:Vector UInt8 32):∃ n:Int,KN a b=some n∧(decide (n=0)=true↔a=b)∧(a≠b→decide (n < 0)=ltD a b):=by
 have ht:(ltD a b=true∧ltD b a=false)∨a=b∨(ltD b a=true∧ltD a b=false):=by
  rcases qzi a.toList b.toList with h | h | h
  ·exact .inl h
  ·exact .inr (.inl (Vector.toList_inj.1 h))
  ·exact .inr (.inr h)
 obtain ⟨n,h1,h2,h3⟩:=qSD ht fun h=>by subst h; exact ⟨qed _,qed _⟩
 refine ⟨n,?_,h2,h3⟩
 unfold KN qcD
 rw [run_bind,quW,Option.bind_some,← h1,qL,qL,run_bind,quW,Option.bind_some]
theorem qVn (a b:List UInt8):∃ n:Int,Kj a b=some n∧(decide (n=0)=true↔a=b)∧(a≠b→decide (n < 0)=ltB a b):=by
 have e:∀ x:List UInt8,qbv x=some ():=fun x=>rfl
 have g:(!(Op.bytesLess a b||decide (a=b)))=ltB b a:=by
  rw [qEL]
  rcases qzi a b with h | h | h
  ·rw [h.1,h.2]; rfl
  ·subst h; rw [decide_eq_true rfl,qed]; rfl
  ·have:a≠b:=fun e=>by subst e; rw [qed] at h; simp at h
   rw [h.1,h.2,decide_eq_false this]; rfl
 obtain ⟨n,h1,h2,h3⟩:=qSD (qzi a b) fun h=>by subst h; exact ⟨qed _,qed _⟩
 refine ⟨n,?_,h2,h3⟩
 unfold Kj qbq
 refine ql (e a) (ql (e b) (w_f (by rw [decide_eq_true rfl]; rfl) (w_f (by rw [decide_eq_true rfl]; rfl) ?_)))
 rw [← h1,qL,qL,qL,qL,qEL a b,← g,qEL a b]
theorem qR3 {a b:qe} (ha:a.V.length≤50000) (hb:b.V.length≤50000):qoS N a b=some (qcL a b):=by
 obtain ⟨n1,e1,z1,l1⟩:=qOZ (N:=N) a.S b.S
 obtain ⟨n2,e2,z2,l2⟩:=qO5 (VE a.V) (VE b.V)
 obtain ⟨n3,e3,z3,l3⟩:=qVn a.V b.V
 have f1:qkd N a b=some n1:=by unfold qkd qlg; exact ql e1 (qA rfl)
 have f2:qj9 N a b=some n2:=by unfold qj9 qk7; exact ql (qCB ha) (ql (qCB hb) (ql e2 (qA rfl)))
 have f3:qka a b=some n3:=by unfold qka qlj; exact ql e3 (qA rfl)
 have key:∃ M,N=M + 1:=⟨N - 1,by have:=big N; omega⟩
 obtain ⟨M,hM⟩:=key
 have z:∀ {n:Int} {p:Prop},(decide (n=0)=true↔p)→p→(!decide (n=0))=false:=fun h hp=>by rw [h.2 hp]; rfl
 have nz:∀ {n:Int} {p:Prop},(decide (n=0)=true↔p)→¬ p→(!decide (n=0))=true:=fun {n} {p} h hp=>by
  cases e:decide (n=0) with
  | false=>rfl
  | true=>exact (hp (h.1 e)).elim
 have hl:qii N a b=some (if a.S=b.S∧VE a.V=VE b.V∧a.V=b.V then .inr () else .inl (qcL a b)):=by
  have s1:qii N a b=qQ (qeg N a b) (qjV N N (a,b)) (M + 1) ():=by rw [← hM]; rfl
  rw [s1]
  by_cases h1:a.S=b.S
  ·rw [zu (x:=.inl ()) (by unfold qeg; exact qF (by omega) (ql f1 (w_f (z z1 h1) (qA rfl))))]
   show qQ (Vw N a b) (WM N N (a,b)) N ()=_
   rw [show qQ (Vw N a b) (WM N N (a,b)) N ()=qQ (Vw N a b) (WM N N (a,b)) (M + 1) () by rw [← hM]]
   by_cases h2:VE a.V=VE b.V
   ·rw [zu (x:=.inl ()) (by unfold Vw; exact qF (by omega) (ql f2 (w_f (z z2 h2) (qA rfl))))]
    show qQ (Vp N a b) (WN N N (a,b)) N ()=_
    rw [show qQ (Vp N a b) (WN N N (a,b)) N ()=qQ (Vp N a b) (WN N N (a,b)) (M + 1) () by rw [← hM]]
    by_cases h3:a.V=b.V
    ·rw [zu (x:=.inl ()) (by unfold Vp; exact qF (by omega) (ql f3 (w_f (z z3 h3) (qA rfl))))]
     show qQ (WJ N a b) some N ()=_
     rw [show qQ (WJ N a b) some N ()=qQ (WJ N a b) some (M + 1) () by rw [← hM]]
     rw [zu (x:=.inr ()) (by unfold WJ; exact qA rfl),if_pos ⟨h1,h2,h3⟩]
    ·rw [zu (x:=.inr (.inl (decide (n3 < 0)))) (by unfold Vp; exact qF (by omega) (ql f3 (w_t (nz z3 h3) (qA rfl)))),if_neg (fun h=>h3 h.2.2)]
     show some (Sum.inl (decide (n3 < 0)))=_
     rw [l3 h3]
     unfold qcL
     rw [if_pos h1,if_pos h2]
   ·rw [zu (x:=.inr (.inl (decide (n2 < 0)))) (by unfold Vw; exact qF (by omega) (ql f2 (w_t (nz z2 h2) (qA rfl)))),if_neg (fun h=>h2 h.2.1)]
    show some (Sum.inl (decide (n2 < 0)))=_
    rw [l2 h2]
    unfold qcL
    rw [if_pos h1,if_neg h2]
  ·rw [zu (x:=.inr (.inl (decide (n1 < 0)))) (by unfold qeg; exact qF (by omega) (ql f1 (w_t (nz z1 h1) (qA rfl)))),if_neg (fun h=>h1 h.1)]
   show some (Sum.inl (decide (n1 < 0)))=_
   rw [l1 h1]
   unfold qcL
   rw [if_neg h1]
 unfold qoS qqW
 refine ql hl ?_
 by_cases h:a.S=b.S∧VE a.V=VE b.V∧a.V=b.V
 ·rw [if_pos h]
  show some false=_
  unfold qcL
  rw [if_pos h.1,if_pos h.2.1,h.2.2,qed]
 ·rw [if_neg h]; rfl
theorem qWz {a b:qe} (ha:a.V.length≤50000) (hb:b.V.length≤50000):qoL N a b=some (cJ a b):=by
 unfold qoL qpG cJ
 refine ql (qR3 ha hb) ?_
 cases qcL a b<;>rfl
theorem qWa (a b:qc):qoV N a b=some (mxS a b):=by
 unfold qoV qrh mxS
 refine ql (W5 _ _) ?_
 cases slB a b<;>rfl
end
end Go.Rx
end
set_option maxRecDepth 100000
noncomputable section
namespace Go.Rx
open Go.Proofs
section
variable {N:Nat} [Jm N]
theorem qUO {l : List qd} (h8 : l.length ≤ 600) (hV : ∀ k, k < l.length → (l.getD k zF).C.V.length ≤ 200) {c : Nat} {M : List (Int × qe × Nat)} {g : Int → Option qe} (hM : ∀ no, qdH no M = g no) (hg : qmD g) :
    ∃ c' M',qcq N l ((l.length:Nat):Int) c M 0=some (c',M',((l.length:Nat):Int),false)∧(∀ no,qdH no M'=l.foldl Y_ g no)∧qmD (l.foldl Y_ g):=by
 have key:∃ y,qQ (Jv N l ((l.length:Nat):Int)) some N (c,M,((0:Nat):Int))=some y∧∃ c' M',y=(c',M',((l.length:Nat):Int),false)∧(∀ no,qdH no M'=l.foldl Y_ g no)∧qmD (l.foldl Y_ g):=by
  refine qj4 (I:=fun v=>∃ (k c':Nat) (M':List (Int×qe×Nat)),k≤l.length∧v=(c',M',(k:Int))∧(∀ no,qdH no M'=(l.take k).foldl Y_ g no)∧qmD ((l.take k).foldl Y_ g)) (fun v=>l.length - v.2.2.toNat) ?_ N _ ⟨0,c,M,Nat.zero_le _,rfl,hM,hg⟩ (by have:=big N; simp; omega)
  rintro v ⟨k,c',M',hk,rfl,hi,hs⟩
  by_cases h:k < l.length
  ·left
   have et:(l.take (k + 1)).foldl Y_ g=Y_ ((l.take k).foldl Y_ g) (l.getD k zF):=by
    rw [List.take_succ_eq_append_getElem h,List.foldl_append,List.getD_eq_getElem?_getD,List.getElem?_eq_getElem h]; rfl
   have hs':qmD ((l.take (k + 1)).foldl Y_ g):=by rw [et]; exact qMW hs (hV k h)
   have hno:=hi (l.getD k zF).No
   unfold qdH at hno
   cases e:fnd (β:=qe) (.i .i64) (l.getD k zF).No M' with
   | none=>
    rw [e] at hno
    refine ⟨((J2 (.i .i64) (qd.No (l.getD k zF)) (qd.C (l.getD k zF)) c' M').1,(J2 (.i .i64) (qd.No (l.getD k zF)) (qd.C (l.getD k zF)) c' M').2,((k + 1:Nat):Int)),?_,⟨k + 1,_,_,h,rfl,?_,hs'⟩,by simp only [Int.toNat_natCast]; omega⟩
    ·unfold Jv
     exact w_t (dec_lt h) (ql (zo (d:=zF) h) (qIK e (qF (zB (by omega)) (qA (by rw [qT])))))
    ·intro no
     rw [qIC,et,qIw]
     by_cases hq:no=(l.getD k zF).No
     ·rw [if_pos hq,if_pos hq.symm,hq,← hno]; rfl
     ·rw [if_neg hq,if_neg (fun e=>hq e.symm),hi no]
   | some x=>
    rw [e] at hno
    have hx:x.1.V.length≤200:=hs _ _ hno.symm
    refine ⟨((J2 (.i .i64) (qd.No (l.getD k zF)) (cJ x.1 (qd.C (l.getD k zF))) c' M').1,(J2 (.i .i64) (qd.No (l.getD k zF)) (cJ x.1 (qd.C (l.getD k zF))) c' M').2,((k + 1:Nat):Int)),?_,⟨k + 1,_,_,h,rfl,?_,hs'⟩,by simp only [Int.toNat_natCast]; omega⟩
    ·unfold Jv
     exact w_t (dec_lt h) (ql (zo (d:=zF) h) (qE2 e (ql (qWz (by omega) (by have:(l.getD k zF).C.V.length≤200:=hV k h; omega)) (qF (zB (by omega)) (qA (by rw [qT]))))))
    ·intro no
     rw [qIC,et,qIw]
     by_cases hq:no=(l.getD k zF).No
     ·rw [if_pos hq,if_pos hq.symm,hq,← hno]; rfl
     ·rw [if_neg hq,if_neg (fun e=>hq e.symm),hi no]
  ·right
   obtain rfl:k=l.length:=by omega
   refine ⟨(c',M',((l.length:Nat):Int),false),_,?_,rfl,c',M',rfl,?_⟩
   ·unfold Jv
    exact w_f (zi (Nat.lt_irrefl _)) (qA (by rw [zi (Nat.lt_irrefl _)]))
   ·rw [List.take_of_length_le (Nat.le_refl _)] at hi hs
    exact ⟨hi,hs⟩
 obtain ⟨y,e,c',M',rfl,h⟩:=key
 exact ⟨c',M',e,h⟩
theorem qML {r : qa} (hr : vd r = true) {c : Nat} {M : List (Int × qe × Nat)} {g : Int → Option qe} (hM : ∀ no, qdH no M = g no) (hg : qmD g) :
    ∃ c' M',Yf N c M r=some (c',M')∧(∀ no,qdH no M'=jC (g no) (cO r.F no))∧qmD (r.F.foldl Y_ g):=by
 have h8:=YS hr
 obtain ⟨c',M',e,h,hs⟩:=qUO (N:=N) (l:=r.F) (by omega) (fun k hk=>qts (Kr.1 ((qaS.1 hr).2.2 k hk)).2.2.1) (c:=c) hM hg
 refine ⟨c',M',?_,fun no=>?_,hs⟩
 ·unfold Yf qdV
  exact ql e (qA rfl)
 ·rw [h,qFL (qI8 hr)]
theorem qO1 {o : List qd} {c : Nat} {M : List (Int × qe × Nat)} {o5 : Vector UInt8 16} {o6 : qc} {o7 : Vector UInt8 16} {o8 dead : qc} :
    X6 N o [] c M o5 o6 o7 o8 dead=some (Vz (fun no=>qdH no M) dead 8 0):=by
 have key:Yo N o c M o5 o6 o7 o8 dead [] 0=some (zY (fun k s=>s++qcX dead k (qdH (k:Int) M)) 8 0 [],(8:Int),false):=by
  refine jd (σ:=List qd) (B:=Jc N o c M o5 o6 o7 o8 dead) (g:=some) (at_:=fun k s=>(s,(k:Int))) (I:=fun k s=>s.length≤k) (f:=fun k s=>s++qcX dead k (qdH (k:Int) M)) (n:=8)
   (fin:=fun s=>(s,(8:Int),false)) (fun k s hk hs=>⟨?_,?_⟩) (fun s _=>?_) N 0 [] (Nat.le_refl _) (Nat.zero_le _) (by have:=big N; omega)
  ·have d8:decide ((k:Int) < 8)=true:=decide_eq_true (by omega)
   unfold Jc
   refine w_t d8 ?_
   unfold qdH
   cases e:fnd (β:=qe) (.i .i64) (k:Int) M with
   | none=>exact qIK rfl (qF (zB (by omega)) (qA (by rw [qT]; show _=some (Sum.inl (s++[],_)); rw [List.append_nil])))
   | some x=>
    refine qE2 rfl (ql (W5 _ _) ?_)
    have hk2:qcX dead k (Option.map (fun x=>x.1) (some x))=if slB dead x.1.S=true then [qd.mk (k:Int) x.1] else []:=rfl
    rw [hk2]
    cases hb:slB dead (qe.S x.1) with
    | false=>
     rw [if_neg (by simp),List.append_nil]
     exact w_f rfl (qF (zB (by omega)) (qA (by rw [qT])))
    | true=>
     rw [if_pos rfl]
     have er:qaV o s c M o5 o6 o7 o8 dead (qd.mk (k:Int) x.1)=some ():=by
      unfold qaV qdO
      exact qF ⟨rfl,by rw [List.length_append]; unfold zh; simp; omega⟩ (qA rfl)
     exact w_t rfl (ql ((zl rfl).trans ((zl rfl).trans er)) (qF (zB (by omega)) (qA (by rw [qT]))))
  ·have:=qyp (dead:=dead) (k:=k) (c:=qdH (k:Int) M)
   rw [List.length_append]; omega
  ·unfold Jc
   exact w_f rfl (qA rfl)
 unfold X6 YE
 refine ql ((zl rfl).trans ((zl rfl).trans key)) (qA ?_)
 rw [qm4 (g:=fun no=>qdH no M),List.nil_append]
theorem qWL {a b:qa} (ha:vd a=true) (hb:vd b=true) (hid:a.ID=b.ID):qti N a b=some (rJ a b,true):=by
 have hN:=big N
 have h8a:=YS ha
 have h8b:=YS hb
 obtain ⟨c1,M1,e1,h1,s1⟩:=qML (N:=N) ha (c:=0) (M:=[]) (g:=fun _=>none) (fun no=>rfl) (fun no c h=>by cases h)
 obtain ⟨c2,M2,e2,h2,_⟩:=qML (N:=N) hb (c:=c1) (M:=M1) (g:=fun no=>cO a.F no) (fun no=>by rw [h1]; rfl) (by
  have:(a.F.foldl Y_ fun _=>none)=fun no=>cO a.F no:=by funext no; rw [qFL (qI8 ha)]; rfl
  rw [← this]; exact s1)
 have ef:=qO1 (N:=N) (o:=[]) (c:=c2) (M:=M2) (o5:=Vector.replicate 16 0) (o6:=qc.mk 0 0) (o7:=a.ID) (o8:=mxS a.qz b.qz) (dead:=mxS a.qz b.qz)
 have eg:(fun no=>qdH no M2)=fun no=>jC (cO a.F no) (cO b.F no):=funext h2
 rw [eg] at ef
 unfold qti quw
 exact ql (qzl (by omega) (by omega)) (w_f (by rw [ha]; rfl) (ql (qzl (by omega) (by omega)) (w_f (by rw [hb]; rfl) (w_f (by rw [que]; show (!decide (a.ID=b.ID))=false; rw [decide_eq_true hid]; rfl)
  (ql e1 (ql e2 (ql (qWa _ _) (ql rfl (ql ((zl rfl).trans ((zl rfl).trans ef)) (qF rfl (qA rfl)))))))))))
end
end Go.Rx
end
set_option maxRecDepth 100000
noncomputable section
namespace Go.Rx
open Go.Proofs
section n
variable {N:Nat} [Jm N]
theorem qQD {l:List qd} (h:l.length≤1000000):ZB l=some ():=by
 unfold ZB
 cases l with
 | nil=>kernel_rfl
 | cons x r=>
  show qdk (x::r)=_
  unfold qdk qa3
  have h2:zU ([]:List qd).length 0 ([]++x::r).length 40:=⟨rfl,by rw [List.nil_append]; unfold zh; omega⟩
  rw [qS,qi (List.isEmpty_cons),qS,qi h2,qS,qi rfl,zc]
end n
end Go.Rx
end
set_option maxRecDepth 100000
noncomputable section
namespace Go.Rx
open Go.Proofs
theorem qBg {α:Type} {d:α} {l:List α} {k:Nat} (h:k < l.length):l.take (k + 1)=l.take k++[l.getD k d]:=by
 rw [List.take_succ_eq_append_getElem h,List.getD_eq_getElem?_getD,List.getElem?_eq_getElem h]; rfl
def qhV (g:Vector UInt8 16→Option qa) (r:qa) (id:Vector UInt8 16):Option qa:=if r.ID=id then jR (g id) (some r) else g id
theorem qjQ {g:Vector UInt8 16→Option qa} {r:qa} {id:Vector UInt8 16}:qhV g r id=if r.ID=id then jR (g id) (some r) else g id:=rfl
theorem qL9 {x:Option qa}:jR x none=x:=by cases x<;>rfl
theorem qr5:∀ {l:List qa} {g:Vector UInt8 16→Option qa} {id:Vector UInt8 16},YP l→l.foldl qhV g id=jR (g id) (rO l id)
 | [],g,id,_=>by rw [qEZ,qL9]; rfl
 | r::l,g,id,h=>by
  have hp:=List.pairwise_cons.1 h
  rw [List.foldl_cons,qr5 hp.2,V5,qjQ]
  by_cases e:r.ID=id
  ·rw [if_pos e,if_pos e]
   have:rO l id=none:=by
    cases hc:rO l id with
    | none=>rfl
    | some x=>
     have:=hp.1 x (Ye hc).1
     rw [e,(Ye hc).2,Km] at this; cases this
   rw [this,qL9]
  ·rw [if_neg e,if_neg e]
def WT (id:Vector UInt8 16) (M:List (Vector UInt8 16×qa×Nat)):Option qa:=(fnd (β:=qa) (.ba 16) id M).map (·.1)
theorem qJJ {q k:Vector UInt8 16} {p:qa} {c:Nat} {M:List (Vector UInt8 16×qa×Nat)}:WT q (J2 (β:=qa) (.ba 16) k p c M).2=if q=k then some p else WT q M:=by
 have:=@qCR (El (.ba 16)) qa (Wp (.ba 16)) k q p c M
 rw [show WT q (J2 (β:=qa) (.ba 16) k p c M).2=@qB4 (El (.ba 16)) qa (Wp (.ba 16)) q (@qnD (El (.ba 16)) qa (Wp (.ba 16)) k p c M).2 from rfl,this]
 by_cases h:q=k
 ·rw [if_pos h]; exact if_pos h
 ·rw [if_neg h]; exact if_neg h
structure qR8 (l:List qa) (nm:List (Vector UInt8 16)) (M:List (Vector UInt8 16×qa×Nat)):Prop where
 nd:nm.Nodup
 val:∀ id,WT id M=l.foldl qhV (fun _=>none) id
 mem:∀ id,id∈nm↔WT id M≠none
 ok:∀ id r,WT id M=some r→vd r=true∧r.ID=id
 len:nm.length≤l.length
def qfa (M:List (Vector UInt8 16×qa×Nat)) (l:List (Vector UInt8 16)):List qa:=l.map fun id=>(WT id M).getD zR
theorem qP1 {M:List (Vector UInt8 16×qa×Nat)} {id:Vector UInt8 16}:∀ {l:List (Vector UInt8 16)},(∀ i∈l,∃ r,WT i M=some r∧r.ID=i)→rO (qfa M l) id=if id∈l then WT id M else none
 | [],_=>by rw [if_neg List.not_mem_nil]; rfl
 | i::l,h=>by
  obtain ⟨r,e,hr⟩:=h i (List.mem_cons_self ..)
  show rO ((WT i M).getD zR::qfa M l) id=_
  rw [e,V5,qP1 fun j hj=>h j (List.mem_cons_of_mem _ hj)]
  by_cases c:i=id
  ·subst c
   rw [if_pos (show (Option.getD (some r) zR).ID=i from hr),if_pos (List.mem_cons_self ..),e]; rfl
  ·rw [if_neg (show ¬ (Option.getD (some r) zR).ID=id from fun h'=>c (hr.symm.trans h'))]
   by_cases m:id∈l
   ·rw [if_pos m,if_pos (List.mem_cons_of_mem _ m)]
   ·rw [if_neg m,if_neg (fun hm=>by rcases List.mem_cons.1 hm with e' | e'; exact c e'.symm; exact m e')]
section
variable {N:Nat} [Jm N]
theorem qGW {α:Type} {l:List (List α)} {k:Nat} (h:k < l.length):(l.take (k + 1)).flatten=(l.take k).flatten++l.getD k []:=by
 rw [qBg (d:=[]) h,List.flatten_append]; simp
theorem qL3 {α:Type} {l:List (List α)} {k:Nat}:(l.take k).flatten.length≤l.flatten.length:=by
 have:(l.take k).flatten++(l.drop k).flatten=l.flatten:=by rw [← List.flatten_append,List.take_append_drop]
 rw [← this,List.length_append]; omega
theorem qNM {l:List (List qa)} (hl:l.length≤1000) (hf:l.flatten.length≤1000):KX N l=some l.flatten:=by
 have hN:=big N
 have k1:qaT N l l ((l.length:Nat):Int) 0 0=some (((l.flatten.length:Nat):Int),((l.length:Nat):Int),false):=by
  refine jd (σ:=Unit) (B:=XI N l l ((l.length:Nat):Int)) (g:=some) (at_:=fun k _=>((((l.take k).flatten.length:Nat):Int),(k:Int))) (I:=fun _ _=>True) (f:=fun _ s=>s) (n:=l.length)
   (fin:=fun _=>(((l.flatten.length:Nat):Int),((l.length:Nat):Int),false)) (fun k s hk _=>⟨?_,trivial⟩) (fun s _=>?_) N 0 () trivial (Nat.zero_le _) (by omega)
  ·have e1:(((l.take k).flatten.length:Nat):Int) + (((l.getD k []).length:Nat):Int)=(((l.take (k + 1)).flatten.length:Nat):Int):=by rw [qGW hk,List.length_append]; omega
   have h2:=qL3 (l:=l) (k:=k + 1)
   unfold XI
   refine w_t (dec_lt hk) (ql (zo (d:=[]) hk) ?_)
   dsimp only
   rw [e1]
   exact qF (by unfold qp; omega) (w_f (decide_eq_false (by omega)) (qF (zB (by omega)) (qA (by rw [qT]))))
  ·unfold XI
   exact w_f (zi (Nat.lt_irrefl _)) (qA (by rw [zi (Nat.lt_irrefl _),List.take_of_length_le (Nat.le_refl _)]))
 have k2:Wo N l ((l.length:Nat):Int) [] 0=some (l.flatten,((l.length:Nat):Int),false):=by
  refine jd (σ:=Unit) (B:=VJ N l ((l.length:Nat):Int)) (g:=some) (at_:=fun k _=>((l.take k).flatten,(k:Int))) (I:=fun _ _=>True) (f:=fun _ s=>s) (n:=l.length)
   (fin:=fun _=>(l.flatten,((l.length:Nat):Int),false)) (fun k s hk _=>⟨?_,trivial⟩) (fun s _=>?_) N 0 () trivial (Nat.zero_le _) (by omega)
  ·have h2:=qL3 (l:=l) (k:=k + 1)
   unfold VJ
   refine w_t (dec_lt hk) (ql (zo (d:=[]) hk) ?_)
   dsimp only
   rw [← qGW hk]
   exact qF ⟨rfl,by unfold zh; omega⟩ (qF (zB (by omega)) (qA (by rw [qT])))
  ·unfold VJ
   exact w_f (zi (Nat.lt_irrefl _)) (qA (by rw [zi (Nat.lt_irrefl _),List.take_of_length_le (Nat.le_refl _)]))
 unfold KX qcx
 refine ql k1 ?_
 by_cases h0:l.flatten.length=0
 ·have kg : X7 ((l.flatten.length : Nat) : Int) = some (.inr ()) := by
     unfold X7 KJ
     exact w_f (decide_eq_false (by omega)) (qF (by unfold qp; omega) (w_f (decide_eq_false (by omega)) (qA rfl)))
  exact ql kg (w_r rfl (ql ((zl rfl).trans k2) (qF rfl (qA rfl))))
 ·have kg : X7 ((l.flatten.length : Nat) : Int) = some (.inl ()) := by
     unfold X7 KJ
     exact w_f (decide_eq_false (by omega)) (qF (by unfold qp; omega) (w_t (decide_eq_true (by omega)) (qF ⟨by omega,by unfold zh; omega⟩ (qA rfl))))
  exact ql kg (w_l rfl (ql ((zl rfl).trans k2) (qF rfl (qA rfl))))
theorem qU5 {r:qa} (h:vd r=true):quS r=some ():=by
 unfold quS qtN
 exact ql (qQD (by have:=YS h; omega)) (qA rfl)
theorem qTF {L : List qa} (hl : L.length ≤ 1000) (hr : ∀ r ∈ L, vd r = true) :
    ∃ nm c M,qmQ N [] L ((L.length:Nat):Int) [] 0 [] 0=some (nm,c,M,((L.length:Nat):Int),false)∧qR8 L nm M:=by
 have hN:=big N
 have key:∃ y,qQ (qah N [] L ((L.length:Nat):Int)) some N ([],0,[],((0:Nat):Int))=some y∧∃ nm c M,y=(nm,c,M,((L.length:Nat):Int),false)∧qR8 L nm M:=by
  refine qj4 (I:=fun v=>∃ (k:Nat) (nm:List (Vector UInt8 16)) (c:Nat) (M:List (Vector UInt8 16×qa×Nat)),k≤L.length∧v=(nm,c,M,(k:Int))∧qR8 (L.take k) nm M) (fun v=>L.length - v.2.2.2.toNat) ?_ N _ ⟨0,[],0,[],Nat.zero_le _,rfl,⟨List.nodup_nil,fun _=>rfl,fun id=>⟨fun h=>absurd h List.not_mem_nil,fun h=>(h rfl).elim⟩,fun _ _ h=>(by cases h),Nat.le_refl _⟩⟩ (by simp; omega)
  rintro v ⟨k,nm,c,M,hk,rfl,hi⟩
  by_cases h:k < L.length
  ·left
   have hmem:L.getD k zR∈L:=by rw [List.getD_eq_getElem?_getD,List.getElem?_eq_getElem h]; exact List.getElem_mem h
   have hrec:=hr _ hmem
   have et:∀ id,(L.take (k + 1)).foldl qhV (fun _=>none) id=qhV ((L.take k).foldl qhV fun _=>none) (L.getD k zR) id:=fun id=>by
    rw [qBg (d:=zR) h,List.foldl_append]; rfl
   have hlk:(L.take k).length=k:=by rw [List.length_take]; omega
   have hlk1:(L.take (k + 1)).length=k + 1:=by rw [List.length_take]; omega
   have hv:=hi.val (L.getD k zR).ID
   have hnl:=hi.len
   cases e:fnd (β:=qa) (.ba 16) (L.getD k zR).ID M with
   | none=>
    have hn:WT (L.getD k zR).ID M=none:=by unfold WT; rw [e]; rfl
    rw [hn] at hv
    refine ⟨(nm++[(L.getD k zR).ID],(J2 (.ba 16) (qa.ID (L.getD k zR)) (L.getD k zR) c M).1,(J2 (.ba 16) (qa.ID (L.getD k zR)) (L.getD k zR) c M).2,((k + 1:Nat):Int)),?_,⟨k + 1,_,_,_,h,rfl,?_⟩,by simp only [Int.toNat_natCast]; omega⟩
    ·unfold qah
     exact w_t (dec_lt h) (ql (zo (d:=zR) h) (qIK e (qF ⟨rfl,by rw [List.length_append]; unfold zh; simp; omega⟩ (ql (qU5 hrec) (qF (zB (by omega)) (qA (by rw [qT]; rfl)))))))
    ·have hpv:∀ id,WT id (J2 (.ba 16) (qa.ID (L.getD k zR)) (L.getD k zR) c M).2=if id=(L.getD k zR).ID then some (L.getD k zR) else WT id M:=fun id=>qJJ
     refine ⟨?_,fun id=>?_,fun id=>?_,fun id r hr'=>?_,?_⟩
     ·refine List.nodup_append.2 ⟨hi.nd,List.nodup_cons.2 ⟨List.not_mem_nil,List.nodup_nil⟩,fun a ha b hb=>?_⟩
      obtain rfl:=List.mem_singleton.1 hb
      intro hab
      rw [hab] at ha
      exact (hi.mem _).1 ha hn
     ·rw [hpv,et,qjQ]
      by_cases q:id=(L.getD k zR).ID
      ·rw [if_pos q,if_pos q.symm,q,← hv]; rfl
      ·rw [if_neg q,if_neg (fun x=>q x.symm),hi.val]
     ·rw [hpv,List.mem_append,List.mem_singleton,hi.mem]
      by_cases q:id=(L.getD k zR).ID
      ·rw [if_pos q]; exact ⟨fun _=>by simp,fun _=>.inr q⟩
      ·rw [if_neg q]; exact ⟨fun x=>x.resolve_right q,fun x=>.inl x⟩
     ·rw [hpv] at hr'
      by_cases q:id=(L.getD k zR).ID
      ·rw [if_pos q] at hr'
       obtain rfl:=Option.some.inj hr'
       exact ⟨hrec,q.symm⟩
      ·rw [if_neg q] at hr'; exact hi.ok id r hr'
     ·rw [hlk1,List.length_append]; simp; omega
   | some x=>
    have hn:WT (L.getD k zR).ID M=some x.1:=by unfold WT; rw [e]; rfl
    rw [hn] at hv
    have hx:=hi.ok _ _ hn
    have ej:=qWL (N:=N) hx.1 hrec hx.2
    refine ⟨(nm,(J2 (.ba 16) (qa.ID (L.getD k zR)) (rJ x.1 (L.getD k zR)) c M).1,(J2 (.ba 16) (qa.ID (L.getD k zR)) (rJ x.1 (L.getD k zR)) c M).2,((k + 1:Nat):Int)),?_,⟨k + 1,_,_,_,h,rfl,?_⟩,by simp only [Int.toNat_natCast]; omega⟩
    ·unfold qah
     exact w_t (dec_lt h) (ql (zo (d:=zR) h) (qE2 e (ql ej (qF (zB (by omega)) (qA (by rw [qT]))))))
    ·have hpv:∀ id,WT id (J2 (.ba 16) (qa.ID (L.getD k zR)) (rJ x.1 (L.getD k zR)) c M).2=if id=(L.getD k zR).ID then some (rJ x.1 (L.getD k zR)) else WT id M:=fun id=>qJJ
     refine ⟨hi.nd,fun id=>?_,fun id=>?_,fun id r hr'=>?_,?_⟩
     ·rw [hpv,et,qjQ]
      by_cases q:id=(L.getD k zR).ID
      ·rw [if_pos q,if_pos q.symm,q,← hv]; rfl
      ·rw [if_neg q,if_neg (fun x=>q x.symm),hi.val]
     ·rw [hpv,hi.mem]
      by_cases q:id=(L.getD k zR).ID
      ·rw [if_pos q,q,hn]; simp
      ·rw [if_neg q]
     ·rw [hpv] at hr'
      by_cases q:id=(L.getD k zR).ID
      ·rw [if_pos q] at hr'
       obtain rfl:=Option.some.inj hr'
       exact ⟨qCm hx.1 hrec,by rw [qUm,hx.2,q]⟩
      ·rw [if_neg q] at hr'; exact hi.ok id r hr'
     ·rw [hlk1]; omega
  ·right
   obtain rfl:k=L.length:=by omega
   rw [List.take_of_length_le (Nat.le_refl _)] at hi
   refine ⟨(nm,c,M,((L.length:Nat):Int),false),_,?_,rfl,nm,c,M,rfl,hi⟩
   unfold qah
   exact w_f (zi (Nat.lt_irrefl _)) (qA (by rw [zi (Nat.lt_irrefl _)]))
 obtain ⟨y,e,nm,c,M,rfl,h⟩:=key
 exact ⟨nm,c,M,e,h⟩
theorem qU0 {nm : List (Vector UInt8 16)} {c n : Nat} {M : List (Vector UInt8 16 × qa × Nat)} (hn : nm.length = n) (hl : n ≤ 1000) (h : ∀ i ∈ nm, ∃ r, WT i M = some r ∧ r.ID = i) :
    qlw N [] nm c M n ((n:Nat):Int) [] 0=some (qfa M nm,((n:Nat):Int),false):=by
 subst hn
 have hN:=big N
 refine jd (σ:=Unit) (B:=qcJ N [] nm c M nm.length ((nm.length:Nat):Int)) (g:=some) (at_:=fun k _=>(qfa M (nm.take k),(k:Int))) (I:=fun _ _=>True) (f:=fun _ s=>s) (n:=nm.length)
  (fin:=fun _=>(qfa M nm,((nm.length:Nat):Int),false)) (fun k s hk _=>⟨?_,trivial⟩) (fun s _=>?_) N 0 () trivial (Nat.zero_le _) (by omega)
 ·have hmem:nm.getD k (Vector.replicate 16 0)∈nm:=by rw [List.getD_eq_getElem?_getD,List.getElem?_eq_getElem hk]; exact List.getElem_mem hk
  obtain ⟨r,hr,_⟩:=h _ hmem
  have hf:∃ x,fnd (β:=qa) (.ba 16) (nm.getD k (Vector.replicate 16 0)) M=some x∧x.1=r:=by
   unfold WT at hr
   cases e:fnd (β:=qa) (.ba 16) (nm.getD k (Vector.replicate 16 0)) M with
   | none=>rw [e] at hr; cases hr
   | some x=>rw [e] at hr; exact ⟨x,rfl,Option.some.inj hr⟩
  obtain ⟨x,ex,hx⟩:=hf
  have eo:qfa M (nm.take (k + 1))=qfa M (nm.take k)++[x.1]:=by
   unfold qfa
   rw [qBg (d:=Vector.replicate 16 0) hk,List.map_append,List.map_cons,hr,hx]; rfl
  have cav:zU (qfa M (nm.take k)).length (qfa M (nm.take k)).length (qfa M (nm.take k)++[x.1]).length 56:=⟨rfl,by
   rw [List.length_append]; unfold qfa; rw [List.length_map,List.length_take]; unfold zh; simp; omega⟩
  unfold qcJ
  exact w_t (dec_lt hk) (qF ⟨by show (0:Int)≤(k:Int); omega,by show (k:Int) < _; omega⟩ (ql (qOX rfl hk) (qE2 ex (qF cav (qF (zB (by omega)) (qA (by rw [qT,eo])))))))
 ·unfold qcJ
  exact w_f (zi (Nat.lt_irrefl _)) (qA (by rw [zi (Nat.lt_irrefl _),List.take_of_length_le (Nat.le_refl _)]))
theorem qju {b:qb} (h:jm b=true):jj N b:=by
 have hN:=big N
 have hb:=qoM.1 h
 exact ⟨by omega,by omega,fun k hk=>by have:=YS (hb.1 k hk).1; exact ⟨by omega,by omega⟩⟩
def quQ (c:List qa):qb×Int:=if c.length≤10 then (qb.mk c,0) else (qb.mk [],4)
theorem qBB {a b:qb} (ha:jm a=true) (hb:jm b=true):∃ c,qnQ a.R b.R c∧Y6 N a b=some (quQ c):=by
 have hA:=XE.1 ha
 have hB:=XE.1 hb
 have hfl:[a.R,b.R].flatten=a.R++b.R:=by simp
 have hll:(a.R++b.R).length≤20:=by rw [List.length_append]; omega
 have ec:=qNM (N:=N) (l:=[a.R,b.R]) (by simp) (by rw [hfl]; omega)
 rw [hfl] at ec
 obtain ⟨nm,c,M,el,hi⟩:=qTF (N:=N) (L:=a.R++b.R) (by omega) (fun r hr=>by
  rcases List.mem_append.1 hr with h | h
  ·exact hA.1.2 r h
  ·exact hB.1.2 r h)
 have hval:∀ id,WT id M=jR (rO a.R id) (rO b.R id):=fun id=>by
  rw [hi.val,List.foldl_append,qr5 hB.1.1,qr5 hA.1.1]; rfl
 obtain ⟨hs,hp⟩:=qSA hi.nd
 have hin:∀ i∈Q6 nm,∃ r,WT i M=some r∧r.ID=i:=fun i h=>by
  have:=(hi.mem i).1 (hp.mem_iff.1 h)
  cases e:WT i M with
  | none=>exact (this e).elim
  | some r=>exact ⟨r,rfl,(hi.ok i r e).2⟩
 have hlen:(qfa M (Q6 nm)).length=nm.length:=by unfold qfa; rw [List.length_map,hp.length_eq]
 refine ⟨qfa M (Q6 nm),⟨?_,fun id=>?_⟩,?_⟩
 ·unfold YP qfa
  rw [List.pairwise_map]
  refine (List.Pairwise.and_mem.1 hs).imp fun {i j} h=>?_
  obtain ⟨r,e1,h1⟩:=hin i h.1
  obtain ⟨s,e2,h2⟩:=hin j h.2.1
  rw [e1,e2]
  show lbB r.ID s.ID=true
  rw [h1,h2]; exact h.2.2
 ·rw [qP1 hin,← hval]
  by_cases m:id∈Q6 nm
  ·rw [if_pos m]
  ·rw [if_neg m]
   cases e:WT id M with
   | none=>rfl
   | some r=>exact (m (hp.mem_iff.2 ((hi.mem id).2 (by rw [e]; simp)))).elim
 ·have hnl:=hi.len
  unfold Y6 qkg
  refine ql (quc (qju ha)) (w_f (by rw [ha]; rfl) (ql (quc (qju hb)) (w_f (by rw [hb]; rfl) (ql ec (ql ((zl rfl).trans ((zl rfl).trans el)) ?_)))))
  unfold quQ
  rw [hlen]
  by_cases h10:nm.length≤10
  ·rw [if_pos h10]
   exact w_f (decide_eq_false (by show ¬ (10:Int) < ((nm.length:Nat):Int); omega)) (ql ((zl rfl).trans (qUJ (by show nm.length≤12; omega))) (ql ((zl rfl).trans ((zl rfl).trans (qU0 hp.length_eq (by show nm.length≤1000; omega) hin))) (qF rfl (qA rfl))))
  ·rw [if_neg h10]
   exact w_t (decide_eq_true (by show (10:Int) < ((nm.length:Nat):Int); omega)) (qF rfl (qA rfl))
theorem qCk {a b:qb} (fa:jj N a) (fb:jj N b) (h:¬ (jm a=true∧jm b=true)):Y6 N a b=some (qb.mk [],1):=by
 unfold Y6 qkg
 refine ql (quc fa) ?_
 cases ha:jm a with
 | false=>exact w_t rfl (qF rfl (qA rfl))
 | true=>
  refine w_f rfl (ql (quc fb) ?_)
  cases hb:jm b with
  | false=>exact w_t rfl (qF rfl (qA rfl))
  | true=>exact (h ⟨ha,hb⟩).elim
end
end Go.Rx
end
set_option maxRecDepth 100000
noncomputable section
namespace Go.Rx
open Go.Proofs
def Xc (r:qa):List qa→List qa
 | []=>[r]
 | x::l=>if lbB r.ID x.ID=true then r::x::l else if x.ID=r.ID then rJ x r::l else x::Xc r l
theorem qyu {r x:qa} {l:List qa}:Xc r (x::l)=if lbB r.ID x.ID=true then r::x::l else if x.ID=r.ID then rJ x r::l else x::Xc r l:=rfl
theorem qCp {r:qa}:∀ {l:List qa} {y:qa},y∈Xc r l→y=r∨y∈l∨∃ x,x∈l∧x.ID=r.ID∧y=rJ x r
 | [],y,h=>.inl (List.mem_singleton.1 h)
 | x::l,y,h=>by
  unfold Xc at h
  split at h
  ·rcases List.mem_cons.1 h with h | h
   ·exact .inl h
   ·exact .inr (.inl h)
  ·split at h
   ·rename_i e
    rcases List.mem_cons.1 h with h | h
    ·exact .inr (.inr ⟨x,List.mem_cons_self ..,e,h⟩)
    ·exact .inr (.inl (List.mem_cons_of_mem _ h))
   ·rcases List.mem_cons.1 h with h | h
    ·exact .inr (.inl (by rw [h]; exact List.mem_cons_self ..))
    ·rcases qCp h with h | h | ⟨z,hz,e⟩
     ·exact .inl h
     ·exact .inr (.inl (List.mem_cons_of_mem _ h))
     ·exact .inr (.inr ⟨z,List.mem_cons_of_mem _ hz,e⟩)
theorem qqO {r:qa}:∀ {l:List qa},YP l→YP (Xc r l)
 | [],_=>List.pairwise_singleton _ _
 | x::l,h=>by
  have hp:=List.pairwise_cons.1 h
  unfold Xc
  split
  ·rename_i e
   refine List.pairwise_cons.2 ⟨fun y hy=>?_,h⟩
   rcases List.mem_cons.1 hy with rfl | hy
   ·exact e
   ·exact qgU e (hp.1 y hy)
  ·split
   ·exact List.pairwise_cons.2 ⟨fun y hy=>hp.1 y hy,hp.2⟩
   ·rename_i e1 e2
    have hxr:lbB x.ID r.ID=true:=by
     rcases qMH r.ID x.ID with h1 | h1 | h1
     ·exact (e1 h1.1).elim
     ·exact (e2 h1.symm).elim
     ·exact h1.1
    refine List.pairwise_cons.2 ⟨fun y hy=>?_,qqO hp.2⟩
    rcases qCp hy with rfl | hy | ⟨z,hz,e,rfl⟩
    ·exact hxr
    ·exact hp.1 y hy
    ·exact hp.1 z hz
theorem qL_ {r:qa} {id:Vector UInt8 16}:∀ {l:List qa},YP l→rO (Xc r l) id=qhV (rO l) r id
 | [],_=>by
  show rO [r] id=_
  rw [V5,qjQ,qEZ]; rfl
 | x::l,h=>by
  have hp:=List.pairwise_cons.1 h
  have nol:lbB r.ID x.ID=true→rO (x::l) r.ID=none:=fun e=>by
   cases hc:rO (x::l) r.ID with
   | none=>rfl
   | some y=>
    have hy:=Ye hc
    rcases List.mem_cons.1 hy.1 with h1 | h1
    ·rw [← hy.2,h1,Km] at e; cases e
    ·have:=qgU e (hp.1 y h1)
     rw [hy.2,Km] at this; cases this
  rw [qjQ]
  unfold Xc
  split
  ·rename_i e
   rw [V5]
   by_cases q:r.ID=id
   ·rw [if_pos q,if_pos q,← q,nol e]; rfl
   ·rw [if_neg q,if_neg q]
  ·rename_i e1
   split
   ·rename_i e2
    rw [V5,V5,qUm]
    by_cases q:r.ID=id
    ·rw [if_pos (e2.trans q),if_pos q,if_pos (e2.trans q)]; rfl
    ·have:¬ x.ID=id:=fun h'=>q (e2.symm.trans h')
     rw [if_neg this,if_neg q,if_neg this]
   ·rename_i e2
    rw [V5,V5,qL_ hp.2,qjQ]
    by_cases q:x.ID=id
    ·have:¬ r.ID=id:=fun h'=>e2 (q.trans h'.symm)
     rw [if_pos q,if_neg this,if_pos q]
    ·rw [if_neg q,if_neg q]
theorem qzv {r:qa} {l:List qa} (hl:Ki l) (hr:vd r=true):Ki (Xc r l):=by
 refine ⟨qqO hl.1,fun y hy=>?_⟩
 rcases qCp hy with rfl | hy | ⟨z,hz,e,rfl⟩
 ·exact hr
 ·exact hl.2 y hy
 ·exact qCm (hl.2 z hz) hr
theorem qBq {r:qa}:∀ {l:List qa},(Xc r l).length≤l.length + 1
 | []=>Nat.le_refl _
 | x::l=>by
  unfold Xc
  split
  ·exact Nat.le_refl _
  ·split
   ·simp
   ·rw [List.length_cons,List.length_cons]
    have:=qBq (r:=r) (l:=l); omega
def qaI (l0 a:List qa):List qa:=a.foldl (fun l r=>Xc r l) l0
theorem qt9:∀ {a l0:List qa},Ki l0→(∀ r∈a,vd r=true)→Ki (qaI l0 a)
 | [],_,h,_=>h
 | r::a,l0,h,ha=>qt9 (a:=a) (qzv h (ha r (List.mem_cons_self ..))) fun x hx=>ha x (List.mem_cons_of_mem _ hx)
theorem qBy {id:Vector UInt8 16}:∀ {a l0:List qa},YP l0→rO (qaI l0 a) id=a.foldl qhV (rO l0) id
 | [],_,_=>rfl
 | r::a,l0,h=>by
  have:rO (Xc r l0)=qhV (rO l0) r:=funext fun i=>qL_ h
  show rO (qaI (Xc r l0) a) id=a.foldl qhV (qhV (rO l0) r) id
  rw [← this]
  exact qBy (qqO h)
theorem qGn {α σ:Type} {d:α} {f:σ→α→σ} {l:List α}:∀ {m k:Nat} {s:σ},k + m=l.length→zY (fun k s=>f s (l.getD k d)) m k s=(l.drop k).foldl f s
 | 0,k,s,h=>by rw [List.drop_of_length_le (by omega)]; rfl
 | m + 1,k,s,h=>by
  rw [qkA (d:=d) (by omega)]
  unfold zY
  rw [qGn (by omega)]; rfl
section
variable {N:Nat} [Jm N]
theorem qrE {r:qa} (h:vd r=true):QY r=some ():=by
 have:=YS h
 unfold QY qdl
 exact qF (by unfold qhY; unfold zh; show (qa.F r).length * 40≤_; have:(qa.F r).length≤8:=this; omega) (qF rfl (qA rfl))
theorem qF8 {b:qb} {r:qa} (hb:Ki b.R) (hl:b.R.length≤100) (hr:vd r=true):vS N b r=some (qb.mk (Xc r b.R)):=by
 have hN:=big N
 have key:∃ y,qQ (vC N [] b r) some N ([],false,((0:Nat):Int))=some y∧∃ o d,y=(o,d,((b.R.length:Nat):Int),false)∧Xc r b.R=(if d=true then o else o++[r])∧o.length≤200:=by
  refine qj4 (I:=fun v=>∃ (k:Nat) (o:List qa) (d:Bool),k≤b.R.length∧v=(o,d,(k:Int))∧o.length≤2 * k∧Xc r b.R=(if d=true then o++b.R.drop k else o++Xc r (b.R.drop k))∧(d=true→∀ x∈b.R.drop k,x.ID≠r.ID)) (fun v=>b.R.length - v.2.2.toNat) ?_ N _ ⟨0,[],false,Nat.zero_le _,rfl,Nat.zero_le _,rfl,fun h=>(by cases h)⟩ (by simp; omega)
  rintro v ⟨k,o,d,hk,rfl,ho,hi,hd⟩
  by_cases h:k < b.R.length
  ·left
   have hdrop:=qkA (d:=zR) h
   have hmem:b.R.getD k zR∈b.R:=by rw [List.getD_eq_getElem?_getD,List.getElem?_eq_getElem h]; exact List.getElem_mem h
   have hrec:=hb.2 _ hmem
   have hsd:YP (b.R.drop k):=hb.1.sublist (List.drop_sublist _ _)
   rw [hdrop] at hsd
   have hp:=List.pairwise_cons.1 hsd
   have g:=zo (d:=zR) h
   have cav:∀ x:qa,zU o.length o.length (o++[x]).length 56:=fun x=>⟨rfl,by rw [List.length_append]; unfold zh; simp; omega⟩
   have cav2:∀ x:qa,zU (o++[r]).length (o++[r]).length (o++[r]++[x]).length 56:=fun x=>⟨rfl,by rw [List.length_append,List.length_append]; unfold zh; simp; omega⟩
   have ns:qp ((k:Int) + 1):=zB (by omega)
   have el:=qBi (N:=N) r.ID (b.R.getD k zR).ID
   have same:∀ d':Bool,d'=true→(d=true∨lbB r.ID (b.R.getD k zR).ID=true)→¬ (b.R.getD k zR).ID=r.ID∧∀ x∈b.R.drop (k + 1),x.ID≠r.ID:=fun d' _ hc=>by
    rcases hc with hc | hc
    ·have:=hd hc
     rw [hdrop] at this
     exact ⟨this _ (List.mem_cons_self ..),fun x hx=>this x (List.mem_cons_of_mem _ hx)⟩
    ·refine ⟨fun e=>(by rw [e,Km] at hc; cases hc),fun x hx e=>?_⟩
     have:=qgU hc (hp.1 x hx)
     rw [e,Km] at this; cases this
   cases hb1:lbB r.ID (b.R.getD k zR).ID with
   | true=>
    obtain ⟨n1,n2⟩:=same true rfl (.inr hb1)
    have q:eqE (.ba 16) (qa.ID (b.R.getD k zR)) (qa.ID r)=false:=by rw [que]; exact decide_eq_false n1
    cases d with
    | false=>
     refine ⟨(o++[r]++[b.R.getD k zR],true,((k + 1:Nat):Int)),?_,⟨k + 1,_,_,h,rfl,by simp; omega,?_,fun _=>n2⟩,by simp only [Int.toNat_natCast]; omega⟩
     ·unfold vC
      exact w_t (dec_lt h) <| ql g <| ql el <| w_t hb1 <| w_t rfl <| ql (qrE hr) <| qF (cav _) <| ql g <| w_f q <| ql g <| ql (qrE hrec) <| qF (cav2 _) <| qF ns <| qA (by rw [qT])
     ·rw [hi,if_neg (by simp),if_pos rfl,hdrop]
      rw [qyu,if_pos hb1]; simp
    | true=>
     refine ⟨(o++[b.R.getD k zR],true,((k + 1:Nat):Int)),?_,⟨k + 1,_,_,h,rfl,by simp; omega,?_,fun _=>n2⟩,by simp only [Int.toNat_natCast]; omega⟩
     ·unfold vC
      exact w_t (dec_lt h) <| ql g <| ql el <| w_t hb1 <| w_f rfl <| ql g <| w_f q <| ql g <| ql (qrE hrec) <| qF (cav _) <| qF ns <| qA (by rw [qT])
     ·rw [hi,if_pos rfl,if_pos rfl,hdrop]; simp
   | false=>
    by_cases e:(b.R.getD k zR).ID=r.ID
    ·have q:eqE (.ba 16) (qa.ID (b.R.getD k zR)) (qa.ID r)=true:=by rw [que]; exact decide_eq_true e
     have hd0:d=false:=by
      cases d with
      | false=>rfl
      | true=>exact ((same true rfl (.inl rfl)).1 e).elim
     subst hd0
     refine ⟨(o++[rJ (b.R.getD k zR) r],true,((k + 1:Nat):Int)),?_,⟨k + 1,_,_,h,rfl,by simp; omega,?_,fun _ x hx e'=>?_⟩,by simp only [Int.toNat_natCast]; omega⟩
     ·unfold vC
      exact w_t (dec_lt h) <| ql g <| ql el <| w_f hb1 <| ql g <| w_t q <| ql g <| ql (qTR hrec hr e) <| qF (cav _) <| qF ns <| qA (by rw [qT])
     ·rw [hi,if_neg (by simp),if_pos rfl,hdrop]
      rw [qyu,if_neg (by rw [hb1]; simp),if_pos e]; simp
     ·have:=hp.1 x hx
      rw [e,e',Km] at this; cases this
    ·have q:eqE (.ba 16) (qa.ID (b.R.getD k zR)) (qa.ID r)=false:=by rw [que]; exact decide_eq_false e
     refine ⟨(o++[b.R.getD k zR],d,((k + 1:Nat):Int)),?_,⟨k + 1,_,_,h,rfl,by simp; omega,?_,fun hd'=>(same true rfl (.inl hd')).2⟩,by simp only [Int.toNat_natCast]; omega⟩
     ·unfold vC
      exact w_t (dec_lt h) <| ql g <| ql el <| w_f hb1 <| ql g <| w_f q <| ql g <| ql (qrE hrec) <| qF (cav _) <| qF ns <| qA (by rw [qT])
     ·rw [hi,hdrop]
      cases d with
      | false=>
       rw [if_neg (by simp),if_neg (by simp)]
       rw [qyu,if_neg (by rw [hb1]; simp),if_neg e,List.append_assoc]; rfl
      | true=>rw [if_pos rfl,if_pos rfl]; simp
  ·right
   obtain rfl:k=b.R.length:=by omega
   rw [List.drop_of_length_le (Nat.le_refl _)] at hi
   refine ⟨(o,d,((b.R.length:Nat):Int),false),_,?_,rfl,o,d,rfl,?_,by omega⟩
   ·unfold vC
    exact w_f (zi (Nat.lt_irrefl _)) (qA (by rw [zi (Nat.lt_irrefl _)]))
   ·rw [hi,List.append_nil]; rfl
 obtain ⟨y,e,o,d,rfl,hi,ho⟩:=key
 unfold vS qdT
 refine ql ((zl rfl).trans ((zl rfl).trans e)) ?_
 rw [hi]
 cases d with
 | false=>exact w_t rfl (ql (qrE hr) (qF ⟨rfl,by rw [List.length_append]; unfold zh; simp; omega⟩ (qF rfl (qA rfl))))
 | true=>exact w_f rfl (qF rfl (qA rfl))
theorem qGd {W Y : Type} {B : qb × Int → Tree ((qb × Int) ⊕ W)} {g : W → Option Y} {R : List qa} {fin : qb × Int × Bool → W}
    (h1:∀ (c:qb) (k:Nat),k < R.length→∀ c',vS N c (R.getD k zR)=some c'→(B (c,(k:Int))).run some=some (.inl (c',((k + 1:Nat):Int))))
    (h2:∀ c,(B (c,((R.length:Nat):Int))).run some=some (.inr (fin (c,((R.length:Nat):Int),false))))
    (hR:∀ r∈R,vd r=true) (hn:R.length≤20) {l:List qa} (hl:Ki l) (hll:l.length≤50) {k:Nat} (hk:k≤R.length) :
    qQ B g N (qb.mk l,(k:Int))=g (fin (qb.mk (qaI l (R.drop k)),((R.length:Nat):Int),false)):=by
 have hN:=big N
 have:=jd (σ:=List qa) (B:=B) (g:=g) (at_:=fun k l=>(qb.mk l,(k:Int))) (I:=fun k l=>Ki l∧l.length≤50 + k) (f:=fun k l=>Xc (R.getD k zR) l) (n:=R.length)
  (fin:=fun l=>fin (qb.mk l,((R.length:Nat):Int),false)) (fun k l hk hi=>by
   have hmem:R.getD k zR∈R:=by rw [List.getD_eq_getElem?_getD,List.getElem?_eq_getElem hk]; exact List.getElem_mem hk
   have hlen:=qBq (r:=R.getD k zR) (l:=l)
   refine ⟨h1 _ k hk _ (qF8 (b:=qb.mk l) hi.1 (by show l.length≤100; omega) (hR _ hmem)),qzv hi.1 (hR _ hmem),by omega⟩) (fun l _=>h2 _) N k l ⟨hl,by omega⟩ hk (by omega)
 rw [this,qGn (f:=fun l r=>Xc r l) (by omega)]
 rfl
theorem qRy {a b:qb} (ha:jm a=true) (hb:jm b=true):zw N a b=some (quQ (qaI (qaI [] a.R) b.R)):=by
 have hN:=big N
 have hA:=XE.1 ha
 have hB:=XE.1 hb
 have hnil:Ki []:=⟨List.Pairwise.nil,fun r hr=>absurd hr List.not_mem_nil⟩
 have hlen:∀ (a l:List qa),(qaI l a).length≤l.length + a.length:=by
  intro a
  induction a with
  | nil=>intro l; exact Nat.le_refl _
  | cons r a ih=>
   intro l
   have h1:=ih (Xc r l)
   have h2:=qBq (r:=r) (l:=l)
   show (qaI (Xc r l) a).length≤_
   rw [List.length_cons]; omega
 have e7:W1 N [] [] a b=some (if a.R=[] then .inl () else .inr (qb.mk (qaI [] a.R),((a.R.length:Nat):Int),false)):=by
  obtain ⟨M,hM⟩:∃ M,N=M + 1:=⟨N - 1,by omega⟩
  have s1:W1 N [] [] a b=qQ (Xq N [] [] a b) (Kt N N ([],[],a,b)) (M + 1) ():=by rw [← hM]; rfl
  rw [s1]
  by_cases h0:a.R=[]
  ·rw [if_pos h0,zu (x:=.inr (.inl ())) (by unfold Xq; exact w_f (decide_eq_false (by show ¬ (0:Int) < ((a.R.length:Nat):Int); rw [h0]; decide)) (qA rfl))]; rfl
  ·have hpos:0 < a.R.length:=List.length_pos_iff.2 h0
   have hmem:a.R.getD 0 zR∈a.R:=by rw [List.getD_eq_getElem?_getD,List.getElem?_eq_getElem hpos]; exact List.getElem_mem hpos
   rw [if_neg h0,zu (x:=.inl (qb.mk (Xc (a.R.getD 0 zR) []),((1:Nat):Int))) (by
    unfold Xq
    exact w_t (decide_eq_true (by show (0:Int) < ((a.R.length:Nat):Int); omega)) (ql (zo (d:=zR) hpos) (qF rfl (ql (qF8 (b:=qb.mk []) hnil (Nat.zero_le _) (hA.1.2 _ hmem)) (qA rfl)))))]
   show qQ (QC N [] [] a b) some N (qb.mk (Xc (a.R.getD 0 zR) []),((1:Nat):Int))=_
   rw [qGd (B:=QC N [] [] a b) (R:=a.R) (fin:=.inr) (fun c k hk c' hc=>by
    unfold QC
    exact w_t (dec_lt hk) (ql (zo (d:=zR) hk) (ql hc (qF (zB (by omega)) (qA (by rw [qT])))))) (fun c=>by
    unfold QC
    exact w_f (zi (Nat.lt_irrefl _)) (qA (by rw [zi (Nat.lt_irrefl _)]))) hA.1.2 (by omega) (qzv hnil (hA.1.2 _ hmem)) (by show (1:Nat)≤50; omega) hpos]
   obtain ⟨x,l,e⟩:=List.exists_cons_of_ne_nil h0
   rw [e]; rfl
 have e11:XT N [] [] b=some (if b.R=[] then .inl () else .inr (qb.mk (qaI [] b.R),((b.R.length:Nat):Int),false)):=by
  obtain ⟨M,hM⟩:∃ M,N=M + 1:=⟨N - 1,by omega⟩
  have s1:XT N [] [] b=qQ (VF N [] [] b) (YF N N ([],[],b)) (M + 1) ():=by rw [← hM]; rfl
  rw [s1]
  by_cases h0:b.R=[]
  ·rw [if_pos h0,zu (x:=.inr (.inl ())) (by unfold VF; exact w_f (decide_eq_false (by show ¬ (0:Int) < ((b.R.length:Nat):Int); rw [h0]; decide)) (qA rfl))]; rfl
  ·have hpos:0 < b.R.length:=List.length_pos_iff.2 h0
   have hmem:b.R.getD 0 zR∈b.R:=by rw [List.getD_eq_getElem?_getD,List.getElem?_eq_getElem hpos]; exact List.getElem_mem hpos
   rw [if_neg h0,zu (x:=.inl (qb.mk (Xc (b.R.getD 0 zR) []),((1:Nat):Int))) (by
    unfold VF
    exact w_t (decide_eq_true (by show (0:Int) < ((b.R.length:Nat):Int); omega)) (ql (zo (d:=zR) hpos) (qF rfl (ql (qF8 (b:=qb.mk []) hnil (Nat.zero_le _) (hB.1.2 _ hmem)) (qA rfl)))))]
   show qQ (vW N [] [] b) some N (qb.mk (Xc (b.R.getD 0 zR) []),((1:Nat):Int))=_
   rw [qGd (B:=vW N [] [] b) (R:=b.R) (fin:=.inr) (fun c k hk c' hc=>by
    unfold vW
    exact w_t (dec_lt hk) (ql (zo (d:=zR) hk) (ql hc (qF (zB (by omega)) (qA (by rw [qT])))))) (fun c=>by
    unfold vW
    exact w_f (zi (Nat.lt_irrefl _)) (qA (by rw [zi (Nat.lt_irrefl _)]))) hB.1.2 (by omega) (qzv hnil (hB.1.2 _ hmem)) (by show (1:Nat)≤50; omega) hpos]
   obtain ⟨x,l,e⟩:=List.exists_cons_of_ne_nil h0
   rw [e]; rfl
 have e12:∀ l:List qa,Ki l→l.length≤50→YJ N [] b (qb.mk l) 0=some (qb.mk (qaI l b.R),((b.R.length:Nat):Int),false):=fun l hl hll=>by
  have := qGd (N := N) (B := JY N [] b) (g := some) (R := b.R) (fin := id) (fun c k hk c' hc => by
      unfold JY
      exact w_t (dec_lt hk) (ql (zo (d:=zR) hk) (ql hc (qF (zB (by omega)) (qA (by rw [qT])))))) (fun c=>by
      unfold JY
      exact w_f (zi (Nat.lt_irrefl _)) (qA (by rw [zi (Nat.lt_irrefl _)]; rfl))) hB.1.2 (by omega) hl hll (Nat.zero_le _)
  rw [List.drop_zero] at this
  exact this
 unfold zw Yu
 refine ql (qjT (qju ha)) (ql (qjT (qju hb)) (w_f (by rw [ha]; rfl) (w_f (by rw [hb]; rfl) (ql ((zl rfl).trans ((zl rfl).trans e7)) ?_))))
 have room:∀ c:List qa,(Tree.cond (decide ((10:Int) < ((c.length:Nat):Int))) (.chk (0=0) (.ret (qb.mk [],(4:Int)))) (.ret (qb.mk c,0))).run some=some (quQ c):=fun c=>by
  unfold quQ
  by_cases h:c.length≤10
  ·rw [if_pos h]; exact w_f (decide_eq_false (by omega)) (qA rfl)
  ·rw [if_neg h]; exact w_t (decide_eq_true (by omega)) (qF rfl (qA rfl))
 by_cases h0:a.R=[]
 ·rw [if_pos h0,h0]
  refine w_l rfl (ql ((zl rfl).trans ((zl rfl).trans e11)) ?_)
  by_cases h1:b.R=[]
  ·rw [if_pos h1,h1]
   exact w_l rfl (w_f rfl (qF rfl (qA rfl)))
  ·rw [if_neg h1]
   exact w_r rfl (room _)
 ·rw [if_neg h0]
  have hfa:=qt9 (a:=a.R) hnil hA.1.2
  have:=hlen a.R []
  exact w_r rfl (ql ((zl rfl).trans (e12 _ hfa (by simp at this; show (qaI [] a.R).length≤50; omega))) (room _))
theorem qSP {a b:qb} (fa:jj N a) (fb:jj N b) (h:¬ (jm a=true∧jm b=true)):zw N a b=some (qb.mk [],1):=by
 unfold zw Yu
 refine ql (qjT fa) (ql (qjT fb) ?_)
 cases ha:jm a with
 | false=>exact w_t rfl (qF rfl (qA rfl))
 | true=>
  refine w_f rfl ?_
  cases hb:jm b with
  | false=>exact w_t rfl (qF rfl (qA rfl))
  | true=>exact (h ⟨ha,hb⟩).elim
theorem qRP {a b:qb} (fa:jj N a) (fb:jj N b):∃ x,Y6 N a b=some x∧zw N a b=some x:=by
 by_cases h:jm a=true∧jm b=true
 ·obtain ⟨c,hc,e⟩:=qBB (N:=N) h.1 h.2
  have hA:=XE.1 h.1
  have hB:=XE.1 h.2
  have hnil:Ki []:=⟨List.Pairwise.nil,fun r hr=>absurd hr List.not_mem_nil⟩
  have hfa:=qt9 (a:=a.R) hnil hA.1.2
  have hfb:=qt9 (a:=b.R) hfa hB.1.2
  have hj:qnQ a.R b.R (qaI (qaI [] a.R) b.R):=⟨hfb.1,fun id=>by
   have e1:rO (qaI [] a.R)=fun id=>rO a.R id:=funext fun i=>by
    rw [qBy List.Pairwise.nil,qr5 hA.1.1]; rfl
   rw [qBy hfa.1,e1,qr5 hB.1.1]⟩
  exact ⟨_,e,by rw [qOD hc hj]; exact qRy h.1 h.2⟩
 ·exact ⟨_,qCk fa fb h,qSP fa fb h⟩
end
end Go.Rx
end
set_option maxRecDepth 100000
noncomputable section
namespace Go.Rx
open Go.Proofs
def exB (c:qe) (x:qn) (no:Int):Bool:=slB x.qz c.S&&(match qxq x.F no with
 | none=>true
 | some i=>if (x.F.getD i zE).S=c.S then ltD (x.F.getD i zE).D (VE c.V) else slB (x.F.getD i zE).S c.S)
def partOf (m:qg) (r:qa):qa:=
 qa.mk r.ID (if slB (zJ m r.ID).1.qz r.qz=true then r.qz else zSt) (r.F.filter fun f=>exB f.C (zJ m r.ID).1 f.No)
def vw (p:qa):Bool:=decide (p.qz=zSt)&&decide (p.F.length=0)
def Xy (m:qg) (r:qa):List qa:=if vw (partOf m r)=true then [] else [partOf m r]
def QX (m:qg) (l:List qa):List qa:=l.flatMap (Xy m)
theorem qGt {m:qg} {r:qa}:(Xy m r).length≤1:=by
 unfold Xy
 split
 ·exact Nat.zero_le _
 ·exact Nat.le_refl _
theorem qtj {m:qg}:∀ {l:List qa},(QX m l).length≤l.length
 | []=>Nat.le_refl _
 | r::l=>by
  unfold QX
  rw [List.flatMap_cons,List.length_append,List.length_cons]
  have h1:=qGt (m:=m) (r:=r)
  have h2:=qtj (m:=m) (l:=l)
  unfold QX at h2
  omega
theorem qBe {α:Type} {p:α→Bool} {d:α} {l:List α} {k:Nat} (h:k < l.length):(l.take (k + 1)).filter p=(l.take k).filter p++(if p (l.getD k d)=true then [l.getD k d] else []):=by
 rw [List.take_succ_eq_append_getElem h,List.filter_append,List.getD_eq_getElem?_getD,List.getElem?_eq_getElem h]
 show _++List.filter p [l[k]]=_++(if p l[k]=true then [l[k]] else [])
 cases hp:p l[k]<;>simp [hp]
theorem qyX {α β:Type} {f:α→List β} {d:α} {l:List α} {k:Nat} (h:k < l.length):(l.take (k + 1)).flatMap f=(l.take k).flatMap f++f (l.getD k d):=by
 rw [List.take_succ_eq_append_getElem h,List.flatMap_append,List.getD_eq_getElem?_getD,List.getElem?_eq_getElem h]
 simp
end Go.Rx
end
set_option maxRecDepth 100000
noncomputable section
namespace Go.Rx
open Go.Proofs
section
variable {N:Nat} [Jm N]
theorem qPf {l:List qm} {no:Int} (h:l.length≤600):VK N no l=some (qWl (qxq l no)):=by
 have key:=qdR (B:=vG N no l ((l.length:Nat):Int)) (g:=some) (p:=fun k=>decide ((l.getD k zE).No=no)) (n:=l.length) (hit:=fun k=>.inl (k:Int)) (fin:=.inr (((l.length:Nat):Int),false)) (fun k hk=>by
  unfold vG
  refine w_t (dec_lt hk) <| ql (zo (d:=zE) hk) <| ql (show qia no (l.getD k zE)=some () from rfl) <| qct (c:=decide ((l.getD k zE).No=no)) rfl (fun h=>qA ?_) fun h=>qF (zB (by omega)) <| qA ?_
  ·rw [h]; rfl
  ·rw [h,qT]; rfl) (by
  unfold vG
  exact w_f (zi (Nat.lt_irrefl _)) (qA (by rw [zi (Nat.lt_irrefl _)]))) N 0 (Nat.zero_le _) (by have:=big N; omega)
 rw [Nat.sub_zero] at key
 have e:Wr N no l ((l.length:Nat):Int) 0=qQ (vG N no l ((l.length:Nat):Int)) some N ((0:Nat):Int):=rfl
 unfold VK WW
 refine ql (e.trans key) ?_
 unfold qxq
 cases Zh (fun k=>decide ((l.getD k zE).No=no)) l.length 0<;>rfl
theorem qO6 {c:qe} {x:qn} {no:Int} (hx:x.F.length≤600) (hc:c.V.length≤50000):YQ N c x no=some (exB c x no):=by
 unfold YQ qhI exB
 refine ql (qPf hx) (ql (W5 _ _) ?_)
 cases slB (qn.qz x) (qe.S c) with
 | false=>rfl
 | true=>
  refine w_f rfl ?_
  show _=some (match qxq x.F no with | none=>true | some i=>if (x.F.getD i zE).S=c.S then ltD (x.F.getD i zE).D (VE c.V) else slB (x.F.getD i zE).S c.S)
  cases e:qxq x.F no with
  | none=>rfl
  | some i=>
   have hi:=(qEB e).1
   have g:=zo (d:=zE) hi
   refine w_f (decide_eq_false (by show ¬ ((i:Nat):Int) < 0; omega)) (ql g ?_)
   show _=some (if (x.F.getD i zE).S=c.S then ltD (x.F.getD i zE).D (VE c.V) else slB (x.F.getD i zE).S c.S)
   by_cases h:(x.F.getD i zE).S=c.S
   ·rw [if_pos h]
    exact w_f (by rw [qaL]; show (!decide ((x.F.getD i zE).S=c.S))=false; rw [decide_eq_true h]; rfl) <| ql g <| ql (qCB hc) <| ql (quW _ _) <| qA rfl
   ·rw [if_neg h]
    exact w_t (by rw [qaL]; show (!decide ((x.F.getD i zE).S=c.S))=true; rw [decide_eq_false h]; rfl) <| ql g <| ql (W5 _ _) <| qA rfl
end
end Go.Rx
end
set_option maxRecDepth 100000
noncomputable section
namespace Go.Rx
open Go.Proofs
section
variable {N:Nat} [Jm N]
section f
variable {m:qg} (hf:qqV m=true)
include hf
theorem qOi {c:qe} {id:Vector UInt8 16} {no:Int} (hc:c.V.length≤50000):qgm N c m id no=some (exB c (zJ m id).1 no):=by
 unfold qgm qh3
 exact ql (qBm hf id) <| ql (qO6 (by have:=(qw6 hf id).1; omega) hc) <| qA rfl
end f
end
end Go.Rx
end
set_option maxRecDepth 100000
noncomputable section
namespace Go.Rx
open Go.Proofs
def jB (N:Nat) (a b:qb):qb×Int:=(Y6 N a b).getD (qb.mk [],0)
def Wj (p:qa):qa:=qa.mk p.ID p.qz []
def Vj (p:qa):qa:=qa.mk p.ID zSt p.F
def Xa (N:Nat) (b:qb) (e:qa):qb×Int:=if vw e=true then (b,0) else jB N b (qb.mk [e])
theorem qJg {N:Nat} {b:qb} {e:qa} (h:vw e=true):Xa N b e=(b,0):=if_pos h
theorem qEy {N:Nat} {b:qb} {e:qa} (h:vw e=false):Xa N b e=jB N b (qb.mk [e]):=if_neg (by rw [h]; simp)
def qFR (N:Nat) (b:qb) (e1 e2:qa):qb×Int:=
 if (Xa N b e1).2=0 then (if (Xa N (Xa N b e1).1 e2).2=0 then ((Xa N (Xa N b e1).1 e2).1,0) else (qb.mk [],(Xa N (Xa N b e1).1 e2).2)) else (qb.mk [],(Xa N b e1).2)
def qSn (b:qb) (p:qa):Bool:=jm b&&(!vw p&&(stB p.qz&&(decide (p.F.length=0)||vd (Vj p))))
def qFX (N:Nat) (b:qb) (p:qa):qb×Int:=if qSn b p=true then qFR N b (Wj p) (Vj p) else (qb.mk [],1)
section
variable {N:Nat} [Jm N]
theorem qUt {a b:qb} (fa:jj N a) (fb:jj N b):Y6 N a b=some (jB N a b):=by
 unfold jB
 by_cases h:jm a=true∧jm b=true
 ·obtain ⟨c,_,e⟩:=qBB (N:=N) h.1 h.2
  rw [e]; rfl
 ·rw [qCk fa fb h]; rfl
theorem qWv {a b:qb} (ha:jm a=true) (hb:jm b=true):∃ c,qnQ a.R b.R c∧jB N a b=quQ c:=by
 obtain ⟨c,hc,e⟩:=qBB (N:=N) ha hb
 exact ⟨c,hc,by unfold jB; rw [e]; rfl⟩
theorem qWD {a b:qb} (fa:jj N a) (fb:jj N b) (h:¬ (jm a=true∧jm b=true)):jB N a b=(qb.mk [],1):=by
 unfold jB
 rw [qCk fa fb h]; rfl
theorem qLX {a b:qb} (fa:jj N a) (fb:jj N b) (h:(jB N a b).2=0):jm a=true∧jm b=true∧qnQ a.R b.R (jB N a b).1.R∧jm (jB N a b).1=true:=by
 by_cases hab:jm a=true∧jm b=true
 ·obtain ⟨c,hc,e⟩:=qWv (N:=N) hab.1 hab.2
  rw [e] at h ⊢
  unfold quQ at h ⊢
  by_cases h10:c.length≤10
  ·rw [if_pos h10] at h ⊢
   exact ⟨hab.1,hab.2,hc,XE.2 ⟨qPg (XE.1 hab.1).1 (XE.1 hab.2).1 hc,h10⟩⟩
  ·rw [if_neg h10] at h; cases h
 ·rw [qWD fa fb hab] at h; cases h
theorem qty {e:qa} (h1:e.F.length < N) (h2:e.F.length≤4611686018427387904):jj N (qb.mk [e]):=by
 have:=big N
 refine ⟨by show 1 < N; omega,by show 1≤4611686018427387904; omega,fun k hk=>?_⟩
 have hk:k < 1:=hk
 obtain rfl:k=0:=by omega
 exact ⟨h1,h2⟩
theorem qxE {b:qb} {e:qa} (fb:jj N b) (h1:e.F.length < N) (h2:e.F.length≤4611686018427387904) (h:(Xa N b e).2=0):jj N (Xa N b e).1:=by
 unfold Xa at *
 split
 ·exact fb
 ·rename_i hn
  rw [if_neg hn] at h
  exact qju (qLX fb (qty h1 h2) h).2.2.2
theorem qGy {b : qb} {e : qa} {s47 : List qa} {k : Nat} (hk : k < s47.length) (hs : s47.length ≤ 10) (he : s47.getD k zR = e) (fb : jj N b) (h1 : e.F.length < N) (h2 : e.F.length ≤ 4611686018427387904) :
    (K5 N [] s47 ((s47.length:Nat):Int) (b,(k:Int))).run some=some (if (Xa N b e).2=0 then .inl ((Xa N b e).1,((k + 1:Nat):Int)) else .inr (.inr (Xa N b e).2)):=by
 unfold K5
 refine w_t (dec_lt hk) <| ql ((zo (d:=zR) hk).trans (by rw [he])) <| ql (by
  have e0:eqE qh (qa.qz e) (qc.mk 0 0)=decide (e.qz=zSt):=qaL _ _
  have e2:decide (((e.F.length:Nat):Int)=0)=decide (e.F.length=0):=decide_eq_decide.2 (by omega)
  show Vl e=some (vw e)
  unfold Vl qc8 vw
  refine qct e0 (fun h=>qA ?_) fun h=>qA ?_
  ·rw [h]; exact congrArg some e2
  ·rw [h]; rfl) ?_
 cases hn:vw e with
 | true=>
  rw [qJg hn]
  exact w_t rfl <| qF (zB (by omega)) <| qA (by rw [qT]; rfl)
 | false=>
  rw [qEy hn]
  refine w_f rfl <| ql (qUt fb (qty h1 h2)) ?_
  by_cases hz:(jB N b (qb.mk [e])).2=0
  ·rw [if_pos hz]
   exact w_f (by rw [decide_eq_true hz]; rfl) <| qF (zB (by omega)) <| qA (by rw [qT])
  ·rw [if_neg hz]
   exact w_t (by rw [decide_eq_false hz]; rfl) <| qA rfl
theorem qUd {b : qb} {e1 e2 : qa} (fb : jj N b) (h1 : e1.F.length < N ∧ e1.F.length ≤ 4611686018427387904) (h2 : e2.F.length < N ∧ e2.F.length ≤ 4611686018427387904) :
    ∃ z,qal N [] [e1,e2] ((([e1,e2]:List qa).length:Nat):Int) b 0=some z∧(match z with | .inl w=>(w.1,(0:Int)) | .inr e=>(qb.mk [],e))=qFR N b e1 e2:=by
 obtain ⟨M,hM⟩:∃ M,N=M + 3:=⟨N - 3,by have:=big N; omega⟩
 have s0:qal N [] [e1,e2] ((([e1,e2]:List qa).length:Nat):Int) b 0=qQ (K5 N [] [e1,e2] ((([e1,e2]:List qa).length:Nat):Int)) some (M + 3) (b,((0:Nat):Int)):=by rw [← hM]; rfl
 rw [s0]
 have r1:=qGy (N:=N) (b:=b) (e:=e1) (s47:=[e1,e2]) (k:=0) (by simp) (by simp) rfl fb h1.1 h1.2
 unfold qFR
 by_cases z1:(Xa N b e1).2=0
 ·rw [if_pos z1] at r1 ⊢
  rw [Zq r1]
  have r2:=qGy (N:=N) (b:=(Xa N b e1).1) (e:=e2) (s47:=[e1,e2]) (k:=1) (by simp) (by simp) rfl (qxE fb h1.1 h1.2 z1) h2.1 h2.2
  by_cases z2:(Xa N (Xa N b e1).1 e2).2=0
  ·rw [if_pos z2] at r2 ⊢
   rw [Zq r2,zu (x:=.inl ((Xa N (Xa N b e1).1 e2).1,((2:Nat):Int),false)) (by
    unfold K5
    exact w_f rfl (qA rfl))]
   exact ⟨_,rfl,rfl⟩
  ·rw [if_neg z2] at r2 ⊢
   rw [zu r2]
   exact ⟨_,rfl,rfl⟩
 ·rw [if_neg z1] at r1 ⊢
  rw [zu r1]
  exact ⟨_,rfl,rfl⟩
theorem qVK {b:qb} {p:qa} (fb:jj N b) (h1:p.F.length < N) (h2:p.F.length≤4611686018427387904):qo8 N b p=some (qFX N b p):=by
 have hN:=big N
 have hn:Vl p=some (vw p):=by
  have e0:eqE qh (qa.qz p) (qc.mk 0 0)=decide (p.qz=zSt):=qaL _ _
  have e2:decide (((p.F.length:Nat):Int)=0)=decide (p.F.length=0):=decide_eq_decide.2 (by omega)
  unfold Vl qc8 vw
  refine qct e0 (fun h=>qA ?_) fun h=>qA ?_
  ·rw [h]; exact congrArg some e2
  ·rw [h]; rfl
 obtain ⟨z,ez,hz⟩:=qUd (N:=N) (b:=b) (e1:=Wj p) (e2:=Vj p) fb ⟨by show 0 < N; omega,Nat.zero_le _⟩ ⟨h1,h2⟩
 have fin:(Tree.bind (zV [(([]:List qa).length,0)] (qal N [] [Wj p,Vj p] ((([Wj p,Vj p]:List qa).length:Nat):Int) b 0)) fun z5=>.sum z5 (fun z6=>.ret (z6.1,(0:Int))) fun z6=>.chk (0=0) (.ret (qb.mk [],z6))).run some=some (qFR N b (Wj p) (Vj p)):=by
  refine ql ((zl rfl).trans ez) ?_
  rw [← hz]
  cases z with
  | inl w=>rfl
  | inr e=>exact w_r rfl <| qF rfl <| qA rfl
 unfold qo8 qpV qFX qSn
 refine ql (quc fb) ?_
 cases hb:jm b with
 | false=>exact w_t rfl <| qF rfl <| qA rfl
 | true=>
  refine w_f rfl <| ql hn ?_
  cases hnp:vw p with
  | true=>exact w_t rfl <| qF rfl <| qA rfl
  | false=>
   refine w_f rfl <| ql (qnq _) ?_
   have hst:stB (qa.qz p)=stB p.qz:=rfl
   rw [hst]
   cases hs:stB p.qz with
   | false=>exact w_t rfl <| qF rfl <| qA rfl
   | true=>
    refine w_f rfl ?_
    by_cases h0:p.F.length=0
    ·rw [decide_eq_true h0]
     exact w_f (decide_eq_false (by show ¬ (0:Int) < ((p.F.length:Nat):Int); omega)) fin
    ·rw [decide_eq_false h0]
     refine w_t (decide_eq_true (by show (0:Int) < ((p.F.length:Nat):Int); omega)) <| ql (qzl (r:=Vj p) h1 h2) ?_
     cases hr:vd (Vj p) with
     | false=>exact w_t rfl <| qF rfl <| qA rfl
     | true=>exact w_f rfl fin
end
end Go.Rx
end
set_option maxRecDepth 100000
noncomputable section
namespace Go.Rx
open Go.Proofs
section
variable {N:Nat} [Jm N]
def qy4 (l:List qm) (dead:qc) (k:Nat):Bool:=
 stB (l.getD k zE).S&&(slB dead (l.getD k zE).S&&((if k=0 then decide (0≤(l.getD k zE).No) else decide ((l.getD (k - 1) zE).No < (l.getD k zE).No))&&(decide ((l.getD k zE).No < 8)&&(decide (0≤(l.getD k zE).Len)&&(decide ((l.getD k zE).Len≤200)&&decide ((((l.getD k zE).B.length:Nat):Int)=blk (l.getD k zE).Len))))))
theorem qup {l:List qm} {dead:qc} {k:Nat}:qy4 l dead k=true↔stB (l.getD k zE).S=true∧slB dead (l.getD k zE).S=true∧(if k=0 then 0≤(l.getD k zE).No else (l.getD (k - 1) zE).No < (l.getD k zE).No)∧(l.getD k zE).No < 8∧0≤(l.getD k zE).Len∧(l.getD k zE).Len≤200∧(((l.getD k zE).B.length:Nat):Int)=blk (l.getD k zE).Len:=by
 unfold qy4
 simp only [Bool.and_eq_true,decide_eq_true_iff]
 refine and_congr Iff.rfl (and_congr Iff.rfl (and_congr ?_ Iff.rfl))
 split<;>exact decide_eq_true_iff
theorem qIJ {l:List qm} {dead:qc} {k:Nat}:qjy l dead k=true↔(0≤(l.getD k zE).No∧(l.getD k zE).No < 8∧0≤(l.getD k zE).Len∧(l.getD k zE).Len≤200∧(((l.getD k zE).B.length:Nat):Int)=blk (l.getD k zE).Len∧stB (l.getD k zE).S=true∧slB dead (l.getD k zE).S=true)∧(k=0∨(l.getD (k - 1) zE).No < (l.getD k zE).No):=by
 unfold qjy qJS
 simp only [Bool.and_eq_true,decide_eq_true_iff,Bool.or_eq_true,Bool.not_eq_true',decide_eq_false_iff_not,Int.not_le]
theorem qIy {l:List qm} {dead:qc} {n:Nat} (h:∀ k,k < n→qy4 l dead k=true):∀ k,k < n→0≤(l.getD k zE).No
 | 0,hk=>by have:=(qup.1 (h 0 hk)).2.2.1; rw [if_pos rfl] at this; exact this
 | k + 1,hk=>by
  have h1:=(qup.1 (h (k + 1) hk)).2.2.1
  rw [if_neg (by omega),show k + 1 - 1=k by omega] at h1
  have:=qIy h k (by omega)
  omega
theorem qSU {l:List qm} {dead:qc} {n:Nat}:ve (qy4 l dead) n=ve (qjy l dead) n:=by
 refine Bool.eq_iff_iff.2 ?_
 rw [Vg,Vg]
 constructor
 ·intro h k hk
  have h1:=qup.1 (h k hk)
  refine qIJ.2 ⟨⟨qIy h k hk,h1.2.2.2.1,h1.2.2.2.2.1,h1.2.2.2.2.2.1,h1.2.2.2.2.2.2,h1.1,h1.2.1⟩,?_⟩
  by_cases h0:k=0
  ·exact .inl h0
  ·have:=h1.2.2.1
   rw [if_neg h0] at this; exact .inr this
 ·intro h k hk
  have h1:=qIJ.1 (h k hk)
  refine qup.2 ⟨h1.1.2.2.2.2.2.1,h1.1.2.2.2.2.2.2,?_,h1.1.2.1,h1.1.2.2.1,h1.1.2.2.2.1,h1.1.2.2.2.2.1⟩
  by_cases h0:k=0
  ·rw [if_pos h0]; exact h1.1.1
  ·rw [if_neg h0]; exact h1.2.resolve_left h0
def quD (l:List qm) (k:Nat):Int:=if k=0 then -1 else (l.getD (k - 1) zE).No
theorem qOb {l:List qm} {dead:qc} {k:Nat}:Y4 (l.getD k zE) (quD l k) dead=some (qy4 l dead k):=by
 have hq:(if k=0 then decide (0≤(l.getD k zE).No) else decide ((l.getD (k - 1) zE).No < (l.getD k zE).No))=!decide ((l.getD k zE).No≤quD l k):=by
  rw [← decide_not]
  unfold quD
  by_cases h0:k=0
  ·rw [if_pos h0,if_pos h0]; exact decide_eq_decide.2 (by omega)
  ·rw [if_neg h0,if_neg h0]; exact decide_eq_decide.2 (by omega)
 unfold qy4
 rw [hq]
 generalize l.getD k zE=e
 unfold Y4 qbp
 refine ql (qst _) (ql (Yg _ _) ?_)
 cases h1:stB e.S with
 | false=>rfl
 | true=>
  refine w_f rfl ?_
  cases h2:slB dead e.S with
  | false=>rfl
  | true=>
   refine w_f rfl (qct (c:=decide (e.No≤quD l k)) rfl (fun h3=>by rw [h3]; rfl) fun h3=>?_)
   rw [h3]
   refine qct (c:=decide ((8:Int)≤e.No)) rfl (fun h4=>?_) fun h4=>?_
   ·rw [decide_eq_false (show ¬ e.No < 8 by have:=of_decide_eq_true h4; omega)]; rfl
   rw [decide_eq_true (show e.No < 8 by have:=of_decide_eq_false h4; omega)]
   refine qct (c:=decide (e.Len < 0)) rfl (fun h5=>?_) fun h5=>?_
   ·rw [decide_eq_false (show ¬ 0≤e.Len by have:=of_decide_eq_true h5; omega)]; rfl
   have g5:0≤e.Len:=by have:=of_decide_eq_false h5; omega
   rw [decide_eq_true g5]
   refine qct (c:=decide (200 < e.Len)) rfl (fun h6=>?_) fun h6=>?_
   ·rw [decide_eq_false (show ¬ e.Len≤200 by have:=of_decide_eq_true h6; omega)]; rfl
   have g6:e.Len≤200:=by have:=of_decide_eq_false h6; omega
   rw [decide_eq_true g6]
   unfold blk
   by_cases h7:e.Len < 24
   ·rw [if_pos h7]
    exact w_t (decide_eq_true h7) (qA rfl)
   ·rw [if_neg h7]
    have e0:e.Len.tdiv 8=e.Len / 8:=Int.tdiv_eq_ediv_of_nonneg g5
    exact w_f (decide_eq_false h7) (qF (by omega) (qF (by unfold qp; omega) (qA rfl)))
theorem qOP {m : qg} {x : qn} {s : Int} (h : x.F.length ≤ 600) :
    ∃ z,jN N m x s (-1) 0=some (if ve (qjy x.F x.qz) x.F.length then .inr z else .inl ()):=by
 refine ⟨(quD x.F x.F.length,((x.F.length:Nat):Int),false),?_⟩
 rw [← qSU]
 refine (qth (B:=Xu N m x s) (g:=some) (at_:=fun k=>(quD x.F k,(k:Int))) (q:=qy4 x.F x.qz) (n:=x.F.length) (hit:=.inl ()) (fin:=.inr (quD x.F x.F.length,((x.F.length:Nat):Int),false)) (fun k hk=>?_) ?_ x.F.length 0 (by omega) N (by have:=big N; omega) (fun j hj=>by omega)).trans ?_
 ·unfold Xu
  refine w_t (dec_lt hk) (ql (zo (d:=zE) hk) (ql qOb ?_))
  cases qy4 x.F x.qz k with
  | false=>rfl
  | true=>
   refine w_f rfl (ql (zo (d:=zE) hk) (qF (zB (by omega)) (qA ?_)))
   rw [qT]; rfl
 ·unfold Xu
  exact w_f (zi (Nat.lt_irrefl _)) (qA (by rw [zi (Nat.lt_irrefl _)]))
 ·split<;>rfl
theorem qSj {m : qg} (h : m.L.length ≤ 600) (hF : ∀ k, k < m.L.length → (m.L.getD k zL).F.length ≤ 600) :
    qcC N m 0=some (if ve (qhR m.L) m.L.length then .inr (((m.L.length:Nat):Int),false) else .inl ()):=by
 refine VD (B:=X9 N m) (g:=some) (q:=qhR m.L) (fun k hk=>?_) ?_ (by have:=big N; omega)
 ·have e0:eqE qh (m.L.getD k zL).qz (qc.mk 0 0)=decide ((m.L.getD k zL).qz=zSt):=qaL _ _
  obtain ⟨z,ez⟩:=qOP (N:=N) (m:=m) (x:=m.L.getD k zL) (s:=(k:Int)) (hF k hk)
  have tail : ∀ c : Bool, (Tree.bind (jN N m (m.L.getD k zL) (k : Int) (-1) 0) fun z3 => Tree.sum z3 (fun _ => .ret (.inr (.inl ()))) fun _ => .chk (qp ((k : Int) + 1)) (.ret (.inl ((k : Int) + 1) : Int ⊕ (Unit ⊕ (Int × Bool))))).run some =
      some (if ve (qjy (m.L.getD k zL).F (m.L.getD k zL).qz) (m.L.getD k zL).F.length then .inl ((k + 1:Nat):Int) else .inr (.inl ())):=fun c=>by
   refine ql ez ?_
   split
   ·exact qF (zB (by omega)) (qA (by rw [qT]))
   ·rfl
  have next : ∀ w : Bool, qhR m.L k = (w && (decide (k = 0) || lbB (m.L.getD (k - 1) zL).ID (m.L.getD k zL).ID)) → qih (m.L.getD k zL) = w → w = ve (qjy (m.L.getD k zL).F (m.L.getD k zL).qz) (m.L.getD k zL).F.length →
      (Tree.cond (decide ((0:Int) < (k:Int))) (.chk (qp ((k:Int) - 1)) (.bind (qM m.L ((k:Int) - 1)) fun e3=>.bind (Qq N (qn.ID e3) (qn.ID (m.L.getD k zL))) fun r4=>.cond (!r4) (.ret (.inr (.inl ())))
       (Tree.bind (jN N m (m.L.getD k zL) (k:Int) (-1) 0) fun z3=>Tree.sum z3 (fun _=>.ret (.inr (.inl ()))) fun _=>.chk (qp ((k:Int) + 1)) (.ret (.inl ((k:Int) + 1):Int⊕(Unit⊕(Int×Bool)))))))
       (Tree.bind (jN N m (m.L.getD k zL) (k:Int) (-1) 0) fun z3=>Tree.sum z3 (fun _=>.ret (.inr (.inl ()))) fun _=>.chk (qp ((k:Int) + 1)) (.ret (.inl ((k:Int) + 1):Int⊕(Unit⊕(Int×Bool)))))).run some =
      some (if qhR m.L k=true then .inl ((k + 1:Nat):Int) else .inr (.inl ())):=fun w hq _ hw=>by
   rw [hq]
   by_cases h0:k=0
   ·rw [decide_eq_true h0,Bool.true_or,Bool.and_true]
    refine w_f (decide_eq_false (by omega)) ((tail true).trans ?_)
    rw [hw]
   ·rw [decide_eq_false h0,Bool.false_or]
    have hk1:k - 1 < m.L.length:=by omega
    refine w_t (decide_eq_true (by omega)) (qF (qVB (by omega)) (ql (by rw [qjX (Nat.pos_of_ne_zero h0)]; exact zo (d:=zL) hk1) (ql (qBi _ _) ?_)))
    cases lbB (m.L.getD (k - 1) zL).ID (m.L.getD k zL).ID with
    | false=>rw [Bool.and_false]; rfl
    | true=>refine w_f rfl ((tail true).trans ?_); rw [Bool.and_true,hw]
  unfold X9
  refine w_t (dec_lt hk) (ql (zo (d:=zL) hk) (ql (qst _) ?_))
  have hl:qih (m.L.getD k zL)=(ve (qjy (m.L.getD k zL).F (m.L.getD k zL).qz) (m.L.getD k zL).F.length&&(stB (m.L.getD k zL).qz&&(decide (0 < (m.L.getD k zL).F.length)||!decide ((m.L.getD k zL).qz=zSt)))):=rfl
  have hq:qhR m.L k=(qih (m.L.getD k zL)&&(decide (k=0)||lbB (m.L.getD (k - 1) zL).ID (m.L.getD k zL).ID)):=rfl
  cases h1:stB (m.L.getD k zL).qz with
  | false=>
   rw [hq,hl,h1,Bool.false_and,Bool.and_false,Bool.false_and]; rfl
  | true=>
   refine w_f rfl ?_
   rw [h1,Bool.true_and] at hl
   by_cases h2:(m.L.getD k zL).F.length=0
   ·refine w_t (decide_eq_true (by omega)) ?_
    rw [decide_eq_false (show ¬ 0 < (m.L.getD k zL).F.length by omega),Bool.false_or] at hl
    cases h3:decide ((m.L.getD k zL).qz=zSt) with
    | true=>
     rw [hq,hl,h3,Bool.not_true,Bool.and_false,Bool.false_and]
     exact w_t (e0.trans h3) rfl
    | false=>
     rw [h3,Bool.not_false,Bool.and_true] at hl
     exact w_f (e0.trans h3) (next _ hq rfl hl)
   ·rw [decide_eq_true (show 0 < (m.L.getD k zL).F.length by omega),Bool.true_or,Bool.and_true] at hl
    exact w_f (decide_eq_false (by omega)) (next _ hq rfl hl)
 ·unfold X9
  exact w_f (zi (Nat.lt_irrefl _)) (qA (by rw [zi (Nat.lt_irrefl _)]))
theorem qIr {m:qg} (h:m.L.length≤600) (hF:∀ k,k < m.L.length→(m.L.getD k zL).F.length≤600):qbf N m=some (qil m):=by
 have e2:decide (((m.L.length:Nat):Int)≤10)=decide (m.L.length≤10):=decide_eq_decide.2 (by omega)
 unfold qbf qdd qil
 refine ql (qSj h hF) ?_
 cases ve (qhR m.L) m.L.length with
 | false=>rfl
 | true=>exact qA (by rw [e2]; rfl)
end
end Go.Rx
end
set_option maxRecDepth 100000
noncomputable section
namespace Go.Rx
open Go.Proofs
theorem qQN {m:qg} (hm:qil m=true) (id:Vector UInt8 16):stB (zJ m id).1.qz=true:=by
 unfold zJ
 cases e:qCr m.L id with
 | none=>rfl
 | some i=>exact (qQz.1 ((qS9.1 hm).1 i (qEB e).1).1).2.1
theorem qUH {x y:qc} (hx:stB x=true) (h:slB x y=true):y≠zSt:=by
 rintro rfl
 by_cases e:x=zSt
 ·subst e; rw [YR] at h; cases h
 ·have:=qyq (qBG hx e) h
  rw [YR] at this; cases this
section
variable {N:Nat} [Jm N]
theorem qx5 {m:qg} (h:m.L.length≤600) (id:Vector UInt8 16):Vr N m id=some (zJ m id):=by
 have key:=qdR (B:=Jb N [] m id (Vector.replicate 16 0) (qc.mk 0 0)) (g:=some) (p:=fun k=>decide ((m.L.getD k zL).ID=id)) (n:=m.L.length) (hit:=fun k=>.inl (m.L.getD k zL)) (fin:=.inr (((m.L.length:Nat):Int),false)) (fun k hk=>by
  unfold Jb
  refine w_t (dec_lt hk) <| ql (zo (d:=zL) hk) <| qct (que _ _) (fun h=>?_) fun h=>?_
  ·exact ql (zo (d:=zL) hk) <| qA (by rw [if_pos h])
  ·exact qF (zB (by omega)) <| qA (by rw [if_neg (by rw [show decide ((m.L.getD k zL).ID=id)=false from h]; simp),qT])) (by
  unfold Jb
  exact w_f (zi (Nat.lt_irrefl _)) (qA (by rw [zi (Nat.lt_irrefl _)]))) N 0 (Nat.zero_le _) (by have:=big N; omega)
 rw [Nat.sub_zero] at key
 have e:qa6 N [] m id (Vector.replicate 16 0) (qc.mk 0 0) 0=qQ (Jb N [] m id (Vector.replicate 16 0) (qc.mk 0 0)) some N ((0:Nat):Int):=rfl
 unfold Vr qcb zJ qCr
 refine ql ((zl rfl).trans (e.trans key)) ?_
 cases Zh (fun k=>decide ((m.L.getD k zL).ID=id)) m.L.length 0 with
 | none=>exact w_r rfl <| qF rfl <| qA rfl
 | some i=>rfl
theorem qQ6 {m:qg} (hf:qqV m=true) (id:Vector UInt8 16) (no:Int):K2 N m id no=some (qNV m id no):=by
 have hl:=(qw6 hf id).1
 have hm:=(qgL.1 hf).1
 have key:=qdR (B:=Z6 N (qc.mk 0 0) (Vector.replicate 32 0) (zJ m id).1 no) (g:=some) (p:=fun k=>decide (((zJ m id).1.F.getD k zE).No=no)) (n:=(zJ m id).1.F.length) (hit:=fun k=>.inl ((zJ m id).1.F.getD k zE)) (fin:=.inr ((((zJ m id).1.F.length:Nat):Int),false)) (fun k hk=>by
  unfold Z6
  refine w_t (dec_lt hk) <| ql (zo (d:=zE) hk) <| qct (c:=decide (((zJ m id).1.F.getD k zE).No=no)) rfl (fun h=>?_) fun h=>?_
  ·exact ql (zo (d:=zE) hk) <| qA (by rw [if_pos h])
  ·exact qF (zB (by omega)) <| qA (by rw [if_neg (by rw [h]; simp),qT])) (by
  unfold Z6
  exact w_f (zi (Nat.lt_irrefl _)) (qA (by rw [zi (Nat.lt_irrefl _)]))) N 0 (Nat.zero_le _) (by have:=big N; omega)
 rw [Nat.sub_zero] at key
 have e:qba N (qc.mk 0 0) (Vector.replicate 32 0) (zJ m id).1 no 0=qQ (Z6 N (qc.mk 0 0) (Vector.replicate 32 0) (zJ m id).1 no) some N ((0:Nat):Int):=rfl
 unfold K2 qcv qNV qxq
 refine ql (qx5 (by omega) id) <| ql (e.trans key) ?_
 cases Zh (fun k=>decide (((zJ m id).1.F.getD k zE).No=no)) (zJ m id).1.F.length 0<;>rfl
section f
variable {m:qg} (hf:qqV m=true)
include hf
theorem qJ8 {c:qe} {id:Vector UInt8 16} {no:Int} (hc:c.V.length≤50000):Vk N c m id no=some (exB c (zJ m id).1 no):=by
 have hN:=big N
 have hm:=(qgL.1 hf).1
 unfold Vk Kv exB
 refine ql (qx5 (by omega) id) <| ql (qQ6 hf id no) <| ql (Yg _ _) ?_
 unfold qNV
 generalize (zJ m id).1=x
 show (Tree.cond (!slB x.qz c.S) _ _).run some=some (slB x.qz c.S&&_)
 cases slB x.qz c.S with
 | false=>rfl
 | true=>
  refine w_f rfl ?_
  cases qxq x.F no with
  | none=>rfl
  | some i=>
   refine w_f rfl ?_
   show _=some (if (x.F.getD i zE).S=c.S then ltD (x.F.getD i zE).D (VE c.V) else slB (x.F.getD i zE).S c.S)
   by_cases h:(x.F.getD i zE).S=c.S
   ·rw [if_pos h]
    exact w_f (by rw [qaL]; show (!decide ((x.F.getD i zE).S=c.S))=false; rw [decide_eq_true h]; rfl) <| ql (qKa (by show c.V.length≤_; omega) (by show c.V.length + 100 < N; omega)) <| ql (qI5 _ _) <| qA rfl
   ·rw [if_neg h]
    exact w_t (by rw [qaL]; show (!decide ((x.F.getD i zE).S=c.S))=true; rw [decide_eq_false h]; rfl) <| ql (Yg _ _) <| qA rfl
theorem qLn {o : List qa} {b : qb} {r : qa} {o6 : Vector UInt8 16} {o7 : qc} {s8 : Int} {s13 : Bool} (hl : r.F.length ≤ 600) (hV : ∀ k, k < r.F.length → (r.F.getD k zF).C.V.length ≤ 200) :
    ZZ N o b m r o6 o7 s8 s13 [] 0=some (r.F.filter fun f=>exB f.C (zJ m r.ID).1 f.No,((r.F.length:Nat):Int),false):=by
 refine jd (σ:=Unit) (B:=Vc N o b m r o6 o7 s8 s13) (g:=some) (at_:=fun k _=>((r.F.take k).filter fun f=>exB f.C (zJ m r.ID).1 f.No,(k:Int))) (I:=fun _ _=>True) (f:=fun _ s=>s) (n:=r.F.length)
  (fin:=fun _=>(r.F.filter fun f=>exB f.C (zJ m r.ID).1 f.No,((r.F.length:Nat):Int),false)) (fun k s hk _=>⟨?_,trivial⟩) (fun s _=>?_) N 0 () trivial (Nat.zero_le _) (by have:=big N; omega)
 ·have hle:((r.F.take k).filter fun f=>exB f.C (zJ m r.ID).1 f.No).length≤600:=Nat.le_trans (List.length_filter_le _ _) (by rw [List.length_take]; omega)
  have hVk:=hV k hk
  have g:=zo (d:=zF) hk
  unfold Vc
  rw [qBe (d:=zF) hk]
  refine w_t (dec_lt hk) <| ql g <| ql g <| ql (qJ8 hf (by show (r.F.getD k zF).C.V.length≤_; omega)) <| qct rfl (fun h=>?_) fun h=>?_
  ·rw [if_pos (show (fun f:qd=>exB f.C (zJ m r.ID).1 f.No) (r.F.getD k zF)=true from h)]
   exact ql g <| qF ⟨rfl,by rw [List.length_append]; unfold zh; simp; omega⟩ <| qF (zB (by omega)) <| qA (by rw [qT])
  ·rw [if_neg (show ¬ (fun f:qd=>exB f.C (zJ m r.ID).1 f.No) (r.F.getD k zF)=true from fun h'=>by rw [show (fun f:qd=>exB f.C (zJ m r.ID).1 f.No) (r.F.getD k zF)=false from h] at h'; cases h'),List.append_nil]
   exact qF (zB (by omega)) <| qA (by rw [qT])
 ·unfold Vc
  exact w_f (zi (Nat.lt_irrefl _)) (qA (by rw [zi (Nat.lt_irrefl _),List.take_of_length_le (Nat.le_refl _)]))
theorem qOH {a:qb} (ha:jm a=true) (hm:qil m=true):QT N a m=some (QX m a.R):=by
 have hN:=big N
 have hA:=qoM.1 ha
 have hfm:=qgL.1 hf
 have key:qau N a m [] 0=some (QX m a.R,((a.R.length:Nat):Int),false):=by
  refine jd (σ:=Unit) (B:=VI N a m) (g:=some) (at_:=fun k _=>(QX m (a.R.take k),(k:Int))) (I:=fun _ _=>True) (f:=fun _ s=>s) (n:=a.R.length)
   (fin:=fun _=>(QX m a.R,((a.R.length:Nat):Int),false)) (fun k s hk _=>⟨?_,trivial⟩) (fun s _=>?_) N 0 () trivial (Nat.zero_le _) (by omega)
  ·have hrk:=(hA.1 k hk).1
   have hl:=qtj (m:=m) (l:=a.R.take k)
   have hlt:(a.R.take k).length≤10:=by rw [List.length_take]; omega
   have eT:QX m (a.R.take (k + 1))=QX m (a.R.take k)++Xy m (a.R.getD k zR):=qyX (d:=zR) hk
   have cav:∀ x:qa,zU (QX m (a.R.take k)).length (QX m (a.R.take k)).length (QX m (a.R.take k)++[x]).length 56:=fun x=>⟨rfl,by rw [List.length_append]; unfold zh; simp; omega⟩
   have e16:∀ (D:qc) (s13:Bool),ZZ N (QX m (a.R.take k)) a m (a.R.getD k zR) (a.R.getD k zR).ID D (k:Int) s13 [] 0=some ((a.R.getD k zR).F.filter fun f=>exB f.C (zJ m (a.R.getD k zR).ID).1 f.No,(((a.R.getD k zR).F.length:Nat):Int),false):=fun D s13=>qLn hf (by have:=YS hrk; omega) fun j hj=>qts (qtH hrk j hj)
   have ns:qp ((k:Int) + 1):=zB (by omega)
   unfold VI
   rw [eT]
   refine w_t (dec_lt hk) <| ql (zo (d:=zR) hk) <| ql (qx5 (by omega) _) <| ql (Yg _ _) ?_
   cases hs:slB (zJ m (a.R.getD k zR).ID).1.qz (a.R.getD k zR).qz with
   | true=>
    have hp:partOf m (a.R.getD k zR)=qa.mk (a.R.getD k zR).ID (a.R.getD k zR).qz ((a.R.getD k zR).F.filter fun f=>exB f.C (zJ m (a.R.getD k zR).ID).1 f.No):=by unfold partOf; rw [if_pos hs]
    have hz:=qUH (qQN hm _) hs
    have hn:vw (partOf m (a.R.getD k zR))=false:=by
     rw [hp]
     show (decide ((a.R.getD k zR).qz=zSt)&&_)=false
     rw [decide_eq_false hz]; rfl
    rw [show Xy m (a.R.getD k zR)=[partOf m (a.R.getD k zR)] from if_neg (by rw [hn]; simp),hp]
    exact w_t rfl <| ql ((zl rfl).trans ((zl rfl).trans (e16 _ _))) <| w_t rfl <| qF rfl <| qF (cav _) <| qF ns <| qA (by rw [qT])
   | false=>
    have hp:partOf m (a.R.getD k zR)=qa.mk (a.R.getD k zR).ID zSt ((a.R.getD k zR).F.filter fun f=>exB f.C (zJ m (a.R.getD k zR).ID).1 f.No):=by unfold partOf; rw [if_neg (by rw [hs]; simp)]
    refine w_f rfl <| ql ((zl rfl).trans ((zl rfl).trans (e16 _ _))) <| w_f rfl ?_
    by_cases hl0:((a.R.getD k zR).F.filter fun f=>exB f.C (zJ m (a.R.getD k zR).ID).1 f.No).length=0
    ·have hn : vw (partOf m (a.R.getD k zR)) = true := by
        rw [hp]
        show (decide ((zSt:qc)=zSt)&&decide (((a.R.getD k zR).F.filter fun f=>exB f.C (zJ m (a.R.getD k zR).ID).1 f.No).length=0))=true
        rw [decide_eq_true hl0,decide_eq_true rfl]; rfl
     rw [show Xy m (a.R.getD k zR)=[] from if_pos hn,List.append_nil]
     exact w_f (decide_eq_false (by show ¬ (0:Int) < ((((a.R.getD k zR).F.filter fun f=>exB f.C (zJ m (a.R.getD k zR).ID).1 f.No).length:Nat):Int); omega)) <| qF ns <| qA (by rw [qT])
    ·have hn : vw (partOf m (a.R.getD k zR)) = false := by
        rw [hp]
        show (_&&decide (((a.R.getD k zR).F.filter fun f=>exB f.C (zJ m (a.R.getD k zR).ID).1 f.No).length=0))=false
        rw [decide_eq_false hl0,Bool.and_false]
     rw [show Xy m (a.R.getD k zR)=[partOf m (a.R.getD k zR)] from if_neg (by rw [hn]; simp),hp]
     exact w_t (decide_eq_true (by show (0:Int) < ((((a.R.getD k zR).F.filter fun f=>exB f.C (zJ m (a.R.getD k zR).ID).1 f.No).length:Nat):Int); omega)) <| qF rfl <| qF (cav _) <| qF ns <| qA (by rw [qT]; rfl)
  ·unfold VI
   exact w_f (zi (Nat.lt_irrefl _)) (qA (by rw [zi (Nat.lt_irrefl _),List.take_of_length_le (Nat.le_refl _)]))
 unfold QT WU
 exact ql (qjT (qju ha)) <| ql (qIr (by omega) (fun k hk=>by have:=(hfm.2 k hk).1; omega)) <| w_f (by rw [ha]; rfl) <| w_f (by rw [hm]; rfl) <| ql ((zl rfl).trans key) <| qF rfl <| qA rfl
theorem qM7 {a:qb} (fa:jj N a) (h:¬ (jm a=true∧qil m=true)):QT N a m=some []:=by
 have hfm:=qgL.1 hf
 unfold QT WU
 refine ql (qjT fa) <| ql (qIr (by omega) (fun k hk=>by have:=(hfm.2 k hk).1; omega)) ?_
 cases ha:jm a with
 | false=>rfl
 | true=>
  cases hm:qil m with
  | false=>rfl
  | true=>exact (h ⟨ha,hm⟩).elim
end f
theorem qDY {a b:qb} (fa:jj N a) (fb:jj N b):zw N a b=some (jB N a b):=by
 obtain ⟨x,e1,e2⟩:=qRP (N:=N) fa fb
 rw [e2]
 have:=qUt (N:=N) fa fb
 rw [e1] at this
 exact this
theorem qDd {p:qa}:vw (Wj p)=decide (p.qz=zSt):=by
 unfold vw Wj
 show (decide (p.qz=zSt)&&true)=_
 rw [Bool.and_true]
theorem quf {p:qa}:vw (Vj p)=decide (p.F.length=0):=by
 unfold vw Vj
 show (true&&decide (p.F.length=0))=_
 rw [Bool.true_and]
theorem qSa {b:qb} {p:qa} (fb:jj N b) (h1:p.F.length < N) (h2:p.F.length≤4611686018427387904):qaX N b p=some (qFX N b p):=by
 have hN:=big N
 have e0:∀ t:qa,eqE qh (qa.qz t) (qc.mk 0 0)=decide (t.qz=zSt):=fun t=>qaL _ _
 have fh:jj N (qb.mk [Wj p]):=qty (e:=Wj p) (by show 0 < N; omega) (Nat.zero_le _)
 have fl:jj N (qb.mk [Vj p]):=qty (e:=Vj p) h1 h2
 have dnot:∀ {n:Int},n=0→(!decide (n=0))=false:=fun h=>by rw [decide_eq_true h]; rfl
 have dnot':∀ {n:Int},¬ n=0→(!decide (n=0))=true:=fun h=>by rw [decide_eq_false h]; rfl
 have lz:(p.F.length=0→decide ((0:Int) < ((p.F.length:Nat):Int))=false)∧(p.F.length≠0→decide ((0:Int) < ((p.F.length:Nat):Int))=true):=⟨fun h=>decide_eq_false (by omega),fun h=>decide_eq_true (by omega)⟩
 unfold qaX qdc
 refine ql (qjT fb) <| ql (qst _) <| ql (qzn (r:=Vj p) h1 h2) ?_
 unfold qFX qSn
 cases hb:jm b with
 | false=>rfl
 | true=>
  refine w_f rfl ?_
  have hst:stB (qa.qz p)=stB p.qz:=rfl
  rw [hst]
  cases hs:stB p.qz with
  | false=>
   rw [Bool.false_and,Bool.and_false,Bool.and_false]
   exact w_t rfl <| qF rfl <| qA rfl
  | true=>
   refine w_f rfl ?_
   rw [Bool.true_and,Bool.true_and]
   unfold qFR
   by_cases hz:p.qz=zSt
   ·have ez:eqE qh (qa.qz p) (qc.mk 0 0)=true:=(e0 p).trans (decide_eq_true hz)
    have eh:Xa N b (Wj p)=(b,0):=qJg (by rw [qDd,decide_eq_true hz])
    rw [eh]
    refine w_t ez ?_
    by_cases h0:p.F.length=0
    ·have hn:vw p=true:=by unfold vw; rw [decide_eq_true hz,decide_eq_true h0]; rfl
     rw [hn]
     exact w_t (decide_eq_true (by show ((p.F.length:Nat):Int)=0; omega)) <| qF rfl <| qA rfl
    ·have hn:vw p=false:=by unfold vw; rw [decide_eq_false h0,Bool.and_false]
     have el:Xa N b (Vj p)=jB N b (qb.mk [Vj p]):=qEy (by rw [quf,decide_eq_false h0])
     rw [hn,decide_eq_false h0,Bool.false_or]
     refine w_f (decide_eq_false (by show ¬ ((p.F.length:Nat):Int)=0; omega)) <| w_t (lz.2 h0) ?_
     cases hr:vd (Vj p) with
     | false=>exact w_t rfl <| qF rfl <| qA rfl
     | true=>
      refine w_f rfl <| w_f (by rw [ez]; rfl) <| w_t (lz.2 h0) <| ql (qDY fb fl) ?_
      rw [if_pos (show (b,(0:Int)).2=0 from rfl),el]
      by_cases q:(jB N b (qb.mk [Vj p])).2=0
      ·rw [if_pos q]; exact w_f (dnot q) <| qA rfl
      ·rw [if_neg q]; exact w_t (dnot' q) <| qF rfl <| qA rfl
   ·have ez:eqE qh (qa.qz p) (qc.mk 0 0)=false:=(e0 p).trans (decide_eq_false hz)
    have hn:vw p=false:=by unfold vw; rw [decide_eq_false hz,Bool.false_and]
    have eh:Xa N b (Wj p)=jB N b (qb.mk [Wj p]):=qEy (by rw [qDd,decide_eq_false hz])
    rw [eh,hn]
    refine w_f ez ?_
    by_cases h0:p.F.length=0
    ·rw [decide_eq_true h0,Bool.true_or]
     refine w_f (lz.1 h0) <| w_t (by rw [ez]; rfl) <| ql (qDY fb fh) ?_
     by_cases q:(jB N b (qb.mk [Wj p])).2=0
     ·have el:Xa N (jB N b (qb.mk [Wj p])).1 (Vj p)=((jB N b (qb.mk [Wj p])).1,0):=qJg (by rw [quf,decide_eq_true h0])
      rw [if_pos q,el]
      exact w_t (decide_eq_true q) <| w_f (lz.1 h0) <| w_f (dnot q) <| qA rfl
     ·rw [if_neg q]
      exact w_f (decide_eq_false q) <| w_t (dnot' q) <| qF rfl <| qA rfl
    ·rw [decide_eq_false h0,Bool.false_or]
     refine w_t (lz.2 h0) ?_
     cases hr:vd (Vj p) with
     | false=>exact w_t rfl <| qF rfl <| qA rfl
     | true=>
      refine w_f rfl <| w_t (by rw [ez]; rfl) <| ql (qDY fb fh) ?_
      by_cases q:(jB N b (qb.mk [Wj p])).2=0
      ·have fj:=qju (N:=N) (qLX fb fh q).2.2.2
       have el:Xa N (jB N b (qb.mk [Wj p])).1 (Vj p)=jB N (jB N b (qb.mk [Wj p])).1 (qb.mk [Vj p]):=qEy (by rw [quf,decide_eq_false h0])
       rw [if_pos q,el]
       refine w_t (decide_eq_true q) <| w_t (lz.2 h0) <| ql (qDY fj fl) ?_
       by_cases q2:(jB N (jB N b (qb.mk [Wj p])).1 (qb.mk [Vj p])).2=0
       ·rw [if_pos q2]; exact w_f (dnot q2) <| qA rfl
       ·rw [if_neg q2]; exact w_t (dnot' q2) <| qF rfl <| qA rfl
      ·rw [if_neg q]
       exact w_f (decide_eq_false q) <| w_t (dnot' q) <| qF rfl <| qA rfl
theorem qNY {r:qa} (hN:r.F.length < N) (h62:r.F.length≤4611686018427387904):KK N r r=some true:=by
 have es:∀ f:qd,eqE qB f f=true:=fun f=>(Yb qB f f).2 rfl
 have key:qaQ N r r 0=some (.inr (((r.F.length:Nat):Int),false)):=by
  have:=VD (B:=Xd N r r) (g:=some) (q:=fun _=>true) (n:=r.F.length) (hit:=()) (fun k hk=>by
   unfold Xd
   exact w_t (dec_lt hk) <| ql (zo (d:=zF) hk) <| ql (zo (d:=zF) hk) <| w_f (by rw [es]; rfl) <| qF (zB (by omega)) <| qA (by rw [qT]; rfl)) (by
   unfold Xd
   exact w_f (zi (Nat.lt_irrefl _)) (qA (by rw [zi (Nat.lt_irrefl _)]))) hN
  rw [show ve (fun _=>true) r.F.length=true from Vg.2 fun _ _=>rfl] at this
  exact this
 unfold KK qb_
 exact w_f (by rw [que,decide_eq_true rfl]; rfl) <| w_f (by rw [qaL,decide_eq_true rfl]; rfl) <| w_f (by rw [decide_eq_true rfl]; rfl) <| ql key <| w_r rfl <| qA rfl
theorem qDn {b:qb} (fb:jj N b):WL N b b=some true:=by
 have key:qa9 N b b 0=some (.inr (((b.R.length:Nat):Int),false)):=by
  have:=VD (B:=Xt N b b) (g:=some) (q:=fun _=>true) (n:=b.R.length) (hit:=()) (fun k hk=>by
   unfold Xt
   exact w_t (dec_lt hk) <| ql (zo (d:=zR) hk) <| ql (zo (d:=zR) hk) <| ql (qNY (fb.2.2 k hk).1 (fb.2.2 k hk).2) <| w_f rfl <| qF (zB (by have:=fb.2.1; omega)) <| qA (by rw [qT]; rfl)) (by
   unfold Xt
   exact w_f (zi (Nat.lt_irrefl _)) (qA (by rw [zi (Nat.lt_irrefl _)]))) fb.1
  rw [show ve (fun _=>true) b.R.length=true from Vg.2 fun _ _=>rfl] at this
  exact this
 unfold WL qcs
 exact w_f (by rw [decide_eq_true rfl]; rfl) <| ql key <| w_r rfl <| qA rfl
theorem qPi {b:qb} {p:qa} (fb:jj N b) (h1:p.F.length < N) (h2:p.F.length≤4611686018427387904):jj N (qFX N b p).1:=by
 have hN:=big N
 have fe:jj N (qb.mk []):=⟨by show 0 < N; omega,Nat.zero_le _,fun k hk=>absurd hk (Nat.not_lt_zero _)⟩
 unfold qFX qFR
 split
 ·split
  ·rename_i q
   have f1:=qxE (e:=Wj p) fb (by show 0 < N; omega) (Nat.zero_le _) q
   split
   ·rename_i q2
    exact qxE (e:=Vj p) f1 h1 h2 q2
   ·exact fe
  ·exact fe
 ·exact fe
theorem qNN {a:qb} {m:qg} (ha:jm a=true):jj N (qb.mk (QX m a.R)):=by
 have hN:=big N
 have hA:=XE.1 ha
 have h10:(QX m a.R).length≤10:=Nat.le_trans qtj hA.2
 refine ⟨by show (QX m a.R).length < N; omega,by show (QX m a.R).length≤_; omega,(qjL (d:=zR) (l:=QX m a.R) (P:=fun x:qa=>x.F.length < N∧x.F.length≤4611686018427387904)).2 fun x hx=>?_⟩
 obtain ⟨r,hr,hx⟩:=List.mem_flatMap.1 hx
 have hf:=YS (hA.1.2 r hr)
 have:x.F.length≤8:=by
  unfold Xy at hx
  split at hx
  ·exact absurd hx List.not_mem_nil
  ·obtain rfl:=List.mem_singleton.1 hx
   exact Nat.le_trans (List.length_filter_le _ _) hf
 exact ⟨by omega,by omega⟩
end
end Go.Rx
end
set_option maxRecDepth 100000
noncomputable section
namespace Go.Rx
open Go.Proofs
section
variable {N:Nat} [Jm N]
theorem qMu (p:qa):Vl p=some (vw p):=by
 have e:eqE qh (qa.qz p) (qc.mk 0 0)=decide (p.qz=zSt):=qaL _ _
 have e2:decide (((p.F.length:Nat):Int)=0)=decide (p.F.length=0):=decide_eq_decide.2 (by omega)
 unfold Vl qc8 vw
 refine qct e (fun h=>qA ?_) fun h=>qA ?_
 ·rw [h]; exact congrArg some e2
 ·rw [h]; rfl
theorem qMs {b : qb} {m : qg} {x : qn} {o5 : Vector UInt8 16} {o6 : qc} {s12 : List qa} {s13 s14 : Int} {l : List qd} (hx : x.F.length ≤ 600) (hl : l.length ≤ 600) (hV : ∀ k, k < l.length → (l.getD k zF).C.V.length ≤ 200) :
    Y5 N b m x o5 o6 s12 s13 s14 l ((l.length:Nat):Int) [] 0=some (l.filter fun f=>exB f.C x f.No,((l.length:Nat):Int),false):=by
 refine jd (σ:=Unit) (B:=KO N b m x o5 o6 s12 s13 s14 l ((l.length:Nat):Int)) (g:=some) (at_:=fun k _=>((l.take k).filter fun f=>exB f.C x f.No,(k:Int))) (I:=fun _ _=>True) (f:=fun _ s=>s) (n:=l.length)
  (fin:=fun _=>(l.filter fun f=>exB f.C x f.No,((l.length:Nat):Int),false)) (fun k s hk _=>⟨?_,trivial⟩) (fun s _=>?_) N 0 () trivial (Nat.zero_le _) (by have:=big N; omega)
 ·have hle:((l.take k).filter fun f=>exB f.C x f.No).length≤600:=Nat.le_trans (List.length_filter_le _ _) (by rw [List.length_take]; omega)
  have hVk:=hV k hk
  unfold KO
  rw [qBe (d:=zF) hk]
  refine w_t (dec_lt hk) <| ql (zo (d:=zF) hk) <| ql (qO6 hx (by show (l.getD k zF).C.V.length≤_; omega)) <| qct rfl (fun h=>?_) fun h=>?_
  ·rw [if_pos (show (fun f:qd=>exB f.C x f.No) (l.getD k zF)=true from h)]
   exact qF ⟨rfl,by rw [List.length_append]; unfold zh; simp; omega⟩ <| qF (zB (by omega)) <| qA (by rw [qT])
  ·rw [if_neg (show ¬ (fun f:qd=>exB f.C x f.No) (l.getD k zF)=true from fun h'=>by rw [show (fun f:qd=>exB f.C x f.No) (l.getD k zF)=false from h] at h'; cases h'),List.append_nil]
   exact qF (zB (by omega)) <| qA (by rw [qT])
 ·unfold KO
  exact w_f (zi (Nat.lt_irrefl _)) (qA (by rw [zi (Nat.lt_irrefl _),List.take_of_length_le (Nat.le_refl _)]))
theorem qGY {o2 : List qa} {b : qb} {m : qg} {x : qn} {o5 : Vector UInt8 16} {o6 : qc} {s12 : List qa} {s13 s14 : Int} {l : List qd} (hx : x.F.length ≤ 600) (hl : l.length ≤ 600) (hV : ∀ k, k < l.length → (l.getD k zF).C.V.length ≤ 200) :
    K1 N o2 b m x o5 o6 s12 s13 s14 l ((l.length:Nat):Int) [] 0=some (l.filter fun f=>exB f.C x f.No,((l.length:Nat):Int),false):=qMs (b:=b) (m:=m) (o5:=o5) (o6:=o6) (s12:=s12) (s13:=s13) (s14:=s14) hx hl hV
section f
variable {m:qg} (hf:qqV m=true)
include hf
theorem qRU {a:qb} (ha:jm a=true) (hm:qil m=true):Kw N a m=some (QX m a.R):=by
 have hN:=big N
 have hA:=qoM.1 ha
 have hfm:=qgL.1 hf
 have fits:jj N a:=⟨by omega,by omega,fun k hk=>by have:=YS (hA.1 k hk).1; exact ⟨by omega,by omega⟩⟩
 have hpart:∀ k,k < a.R.length→∀ D,(qa.mk (a.R.getD k zR).ID D ((a.R.getD k zR).F.filter fun f=>exB f.C (zJ m (a.R.getD k zR).ID).1 f.No))=partOf m (a.R.getD k zR)∨D≠(if slB (zJ m (a.R.getD k zR).ID).1.qz (a.R.getD k zR).qz=true then (a.R.getD k zR).qz else zSt):=fun k hk D=>by
  by_cases h:D=(if slB (zJ m (a.R.getD k zR).ID).1.qz (a.R.getD k zR).qz=true then (a.R.getD k zR).qz else zSt)
  ·left; rw [h]; rfl
  ·exact .inr h
 have hrec:∀ k,k < a.R.length→(a.R.getD k zR).F.length≤600∧∀ j,j < (a.R.getD k zR).F.length→((a.R.getD k zR).F.getD j zF).C.V.length≤200:=fun k hk=>⟨by have:=YS (hA.1 k hk).1; omega,fun j hj=>qts (qtH (hA.1 k hk).1 j hj)⟩
 have hlx:∀ id,(zJ m id).1.F.length≤600:=fun id=>by have:=(qw6 hf id).1; omega
 have s1:∀ (s:List qa) (k:Nat),s.length≤k→k≤a.R.length→qQ (J9 N a m a.R ((a.R.length:Nat):Int)) some N (s,(k:Int))=some (.inr (s++(a.R.drop k).flatMap (Xy m),((a.R.length:Nat):Int),false)):=fun s k hs hk=>by
  have:=jd (σ:=List qa) (B:=J9 N a m a.R ((a.R.length:Nat):Int)) (g:=some) (at_:=fun k s=>(s,(k:Int))) (I:=fun k s=>s.length≤k) (f:=fun k s=>s++Xy m (a.R.getD k zR)) (n:=a.R.length)
   (fin:=fun s=>.inr (s,((a.R.length:Nat):Int),false)) (fun k s hk hs=>⟨?_,?_⟩) (fun s _=>?_) N k s hs hk (by omega)
  ·rw [this]
   have key:∀ (m' k:Nat) (s:List qa),k + m'=a.R.length→zY (fun k s=>s++Xy m (a.R.getD k zR)) m' k s=s++(a.R.drop k).flatMap (Xy m):=by
    intro m'
    induction m' with
    | zero=>intro k s h; rw [List.drop_of_length_le (by omega)]; show s=s++[]; rw [List.append_nil]
    | succ m' ih=>
     intro k s h
     rw [qkA (d:=zR) (show k < a.R.length by omega),List.flatMap_cons]
     unfold zY
     rw [ih (k + 1) _ (by omega),List.append_assoc]
   rw [key _ k s (by omega)]
  ·have hr:=hrec k hk
   have keep:∀ D,D=(if slB (zJ m (a.R.getD k zR).ID).1.qz (a.R.getD k zR).qz=true then (a.R.getD k zR).qz else zSt)→Jp s a m (qa.mk (a.R.getD k zR).ID D ((a.R.getD k zR).F.filter fun f=>exB f.C (zJ m (a.R.getD k zR).ID).1 f.No))=some (s++Xy m (a.R.getD k zR)):=fun D hD=>by
    rw [(hpart k hk D).resolve_right (fun h=>h hD)]
    unfold Jp YI Xy
    refine ql (qMu _) ?_
    cases vw (partOf m (a.R.getD k zR)) with
    | true=>exact w_f rfl <| qA (by rw [if_pos rfl,List.append_nil])
    | false=>exact w_t rfl <| qF ⟨rfl,by rw [List.length_append]; unfold zh; simp; omega⟩ <| qA (by rw [if_neg (by simp)])
   unfold J9
   refine w_t (dec_lt hk) <| ql (zo (d:=zR) hk) <| ql (qBm hf _) <| ql (W5 _ _) <| qct rfl (fun h=>?_) fun h=>?_
   ·exact ql ((zl rfl).trans ((zl rfl).trans (qGY (hlx _) hr.1 hr.2))) <| qF rfl <| ql ((zl rfl).trans (keep _ (by rw [if_pos (show slB (zJ m (a.R.getD k zR).ID).1.qz (a.R.getD k zR).qz=true from h)]))) <| qF (zB (by omega)) <| qA (by rw [qT])
   ·exact ql ((zl rfl).trans ((zl rfl).trans (qGY (hlx _) hr.1 hr.2))) <| qF rfl <| ql ((zl rfl).trans (keep _ (by rw [if_neg (show ¬ slB (zJ m (a.R.getD k zR).ID).1.qz (a.R.getD k zR).qz=true from fun h'=>by rw [show slB (zJ m (a.R.getD k zR).ID).1.qz (a.R.getD k zR).qz=false from h] at h'; cases h')]; rfl))) <| qF (zB (by omega)) <| qA (by rw [qT])
  ·rw [List.length_append]
   have:=qGt (m:=m) (r:=a.R.getD k zR)
   omega
  ·unfold J9
   exact w_f (zi (Nat.lt_irrefl _)) (qA (by rw [zi (Nat.lt_irrefl _)]))
 have l1:∃ z,qhM N a m a.R ((a.R.length:Nat):Int) 0=some z∧(match z with | .inl _=>[] | .inr w=>w.1)=QX m a.R:=by
  refine qj4 (B:=WG N a m a.R ((a.R.length:Nat):Int)) (g:=qe_ N N (a,m,a.R,((a.R.length:Nat):Int))) (I:=fun v=>∃ k:Nat,k≤a.R.length∧v=(k:Int)∧(a.R.take k).flatMap (Xy m)=[]) (Q:=fun z=>(match z with | .inl _=>[] | .inr w=>w.1)=QX m a.R) (fun v=>a.R.length - v.toNat) ?_ N ((0:Nat):Int) ⟨0,Nat.zero_le _,rfl,rfl⟩ (by simp; omega)
  rintro v ⟨k,hk,rfl,h0⟩
  by_cases h:k < a.R.length
  ·have hr:=hrec k h
   have hall:QX m a.R=(a.R.take k).flatMap (Xy m)++(Xy m (a.R.getD k zR)++(a.R.drop (k + 1)).flatMap (Xy m)):=by
    have:a.R=a.R.take k++(a.R.getD k zR::a.R.drop (k + 1)):=by rw [← qkA (d:=zR) h,List.take_append_drop]
    unfold QX
    conv=>lhs; rw [this]
    rw [List.flatMap_append,List.flatMap_cons]
   have roundS:∀ D,D=(if slB (zJ m (a.R.getD k zR).ID).1.qz (a.R.getD k zR).qz=true then (a.R.getD k zR).qz else zSt)→Zw a m (qa.mk (a.R.getD k zR).ID D ((a.R.getD k zR).F.filter fun f=>exB f.C (zJ m (a.R.getD k zR).ID).1 f.No))=some (if vw (partOf m (a.R.getD k zR))=true then .inr () else .inl ()):=fun D hD=>by
    rw [(hpart k h D).resolve_right (fun h=>h hD)]
    unfold Zw qap
    refine ql (qMu _) ?_
    cases vw (partOf m (a.R.getD k zR)) with
    | true=>rfl
    | false=>exact w_t rfl <| qF (by unfold qhY; unfold zh; decide) <| qA rfl
   have both : ∀ D, D = (if slB (zJ m (a.R.getD k zR).ID).1.qz (a.R.getD k zR).qz = true then (a.R.getD k zR).qz else zSt) →
       (Tree.bind (zV [(([]:List qd).length,0)] (Y5 N a m (zJ m (a.R.getD k zR).ID).1 (a.R.getD k zR).ID D a.R ((a.R.length:Nat):Int) (k:Int) (a.R.getD k zR).F (((a.R.getD k zR).F.length:Nat):Int) [] 0)) fun z4=>Tree.chk (z4.1.length=z4.1.length) <|
        .bind (Zw a m (qa.mk (a.R.getD k zR).ID D z4.1)) fun r5=>.sum r5 (fun _=>.chk (qp ((k:Int) + 1)) (.ret (.inr (.inl ([qa.mk (a.R.getD k zR).ID D z4.1],(k:Int) + 1))))) fun _=>.chk (qp ((k:Int) + 1)) (.ret (.inl ((k:Int) + 1):Int⊕KM))).run some =
       some (if vw (partOf m (a.R.getD k zR))=true then .inl ((k + 1:Nat):Int) else .inr (.inl ([partOf m (a.R.getD k zR)],((k + 1:Nat):Int)))):=fun D hD=>by
    refine ql ((zl rfl).trans (qMs (hlx _) hr.1 hr.2)) <| qF rfl <| ql (roundS D hD) ?_
    cases hn:vw (partOf m (a.R.getD k zR)) with
    | true=>exact w_r rfl <| qF (zB (by omega)) <| qA (by rw [qT]; rfl)
    | false=>
     refine w_l rfl <| qF (zB (by omega)) <| qA ?_
     rw [qT,← (hpart k h D).resolve_right (fun h=>h hD)]; rfl
   have step:(WG N a m a.R ((a.R.length:Nat):Int) (k:Int)).run some=some (if vw (partOf m (a.R.getD k zR))=true then .inl ((k + 1:Nat):Int) else .inr (.inl ([partOf m (a.R.getD k zR)],((k + 1:Nat):Int)))):=by
    unfold WG
    refine w_t (dec_lt h) <| ql (zo (d:=zR) h) <| ql (qBm hf _) <| ql (W5 _ _) <| qct rfl (fun h=>?_) fun h=>?_
    ·exact both _ (by rw [if_pos (show slB (zJ m (a.R.getD k zR).ID).1.qz (a.R.getD k zR).qz=true from h)])
    ·exact both _ (by rw [if_neg (show ¬ slB (zJ m (a.R.getD k zR).ID).1.qz (a.R.getD k zR).qz=true from fun h'=>by rw [show slB (zJ m (a.R.getD k zR).ID).1.qz (a.R.getD k zR).qz=false from h] at h'; cases h')]; rfl)
   cases hn:vw (partOf m (a.R.getD k zR)) with
   | true=>
    left
    rw [hn,if_pos rfl] at step
    exact ⟨_,step,⟨k + 1,h,rfl,by rw [qyX (d:=zR) h,h0]; unfold Xy; rw [if_pos hn]; rfl⟩,by simp only [Int.toNat_natCast]; omega⟩
   | false=>
    right
    rw [hn,if_neg (by simp)] at step
    refine ⟨_,_,step,s1 _ (k + 1) (by show (1:Nat)≤k + 1; omega) h,?_⟩
    show [partOf m (a.R.getD k zR)]++(a.R.drop (k + 1)).flatMap (Xy m)=_
    rw [hall,h0]
    unfold Xy
    rw [if_neg (by rw [hn]; simp)]; rfl
  ·right
   obtain rfl:k=a.R.length:=by omega
   rw [List.take_of_length_le (Nat.le_refl _)] at h0
   refine ⟨.inr (.inl (((a.R.length:Nat):Int),false)),_,?_,rfl,h0.symm⟩
   unfold WG
   exact w_f (zi (Nat.lt_irrefl _)) (qA (by rw [zi (Nat.lt_irrefl _)]))
 obtain ⟨z,ez,hz⟩:=l1
 unfold Kw qgd
 refine ql (quc fits) <| w_f (by rw [ha]; rfl) <| ql (qQ4 (by omega) (fun k hk=>by have:=(hfm.2 k hk).1; omega)) <| w_f (by rw [hm]; rfl) <| ql (show qs_ a m=some () from rfl) ?_
 rw [← hz]
 cases z with
 | inl w=>
  have e1:qay N a m=some (.inl ()):=by
   unfold qay qes
   exact ql ez <| w_l rfl <| qA rfl
  exact ql e1 <| w_l rfl <| qA rfl
 | inr w=>
  have e1:qay N a m=some (.inr w.1):=by
   unfold qay qes
   exact ql ez <| w_r rfl <| qA rfl
  exact ql e1 <| w_r rfl <| qF rfl <| qA rfl
theorem qRL {a:qb} (fa:jj N a) (h:¬ (jm a=true∧qil m=true)):Kw N a m=some []:=by
 have hfm:=qgL.1 hf
 unfold Kw qgd
 refine ql (quc fa) ?_
 cases ha:jm a with
 | false=>exact w_t rfl <| qA rfl
 | true=>
  refine w_f rfl <| ql (qQ4 (by omega) (fun k hk=>by have:=(hfm.2 k hk).1; omega)) ?_
  cases hm:qil m with
  | false=>exact w_t rfl <| qA rfl
  | true=>exact (h ⟨ha,hm⟩).elim
end f
end
end Go.Rx
end
set_option maxRecDepth 100000
noncomputable section
namespace Go.Rx
open Go.Proofs
section
variable {N:Nat} [Jm N]
theorem qUz {m : qg} {i : Nat} (hi : i < m.L.length) (h12 : (m.L.getD i zL).F.length ≤ 12) :
    qcm N m (i:Int) 0=some (if ve (fun k=>decide (((m.L.getD i zL).F.getD k zE).B.length≤40)) (m.L.getD i zL).F.length then .inr ((((m.L.getD i zL).F.length:Nat):Int),false) else .inl ()):=by
 refine VD (B:=Wm N m (i:Int)) (g:=some) (q:=fun k=>decide (((m.L.getD i zL).F.getD k zE).B.length≤40)) (fun k hk=>?_) ?_ (by have:=big N; omega)
 ·unfold Wm
  refine ql (zo (d:=zL) hi) (w_t (dec_lt hk) (ql (zo (d:=zL) hi) (ql (zo (d:=zE) hk) (qct (qs7 (c:=40)) (fun h=>?_) fun h=>qF (zB (by omega)) (qA ?_)))))
  ·rw [if_neg (by rw [Bool.not_eq_true'] at h; rw [h]; simp)]; rfl
  ·rw [Bool.not_eq_false'] at h; rw [if_pos h,qT]
 ·unfold Wm
  exact ql (zo (d:=zL) hi) (w_f (zi (Nat.lt_irrefl _)) (qA (by rw [zi (Nat.lt_irrefl _)])))
theorem qUC {m : qg} (h14 : m.L.length ≤ 14) :
    qcc N m 0=some (if ve (fun k=>qFO (m.L.getD k zL)) m.L.length then .inr (((m.L.length:Nat):Int),false) else .inl ()):=by
 refine VD (B:=Wb N m) (g:=some) (q:=fun k=>qFO (m.L.getD k zL)) (fun k hk=>?_) ?_ (by have:=big N; omega)
 ·unfold Wb qFO
  refine w_t (dec_lt hk) (ql (zo (d:=zL) hk) (qct (qs7 (c:=12)) (fun h=>?_) fun h=>?_))
  ·rw [Bool.not_eq_true'] at h; rw [h]; rfl
  ·rw [Bool.not_eq_false'] at h
   refine ql (qUz hk (of_decide_eq_true h)) ?_
   rw [h,Bool.true_and]
   cases ve (fun j=>decide (((m.L.getD k zL).F.getD j zE).B.length≤40)) (m.L.getD k zL).F.length with
   | false=>rfl
   | true=>exact qF (zB (by omega)) (qA (by rw [qT]; rfl))
 ·unfold Wb
  exact w_f (zi (Nat.lt_irrefl _)) (qA (by rw [zi (Nat.lt_irrefl _)]))
theorem qVj (m:qg):qbo N m=some (qqV m):=by
 unfold qbo qc6 qqV
 refine qct (qs7 (c:=14)) (fun h=>?_) fun h=>?_
 ·rw [Bool.not_eq_true'] at h; rw [h]; rfl
 ·rw [Bool.not_eq_false'] at h
  refine ql (qUC (of_decide_eq_true h)) ?_
  rw [h,Bool.true_and]
  cases ve (fun k=>qFO (m.L.getD k zL)) m.L.length<;>rfl
end
end Go.Rx
end
set_option maxRecDepth 100000
noncomputable section
namespace Go.Rx
open Go.Proofs
section
variable {N:Nat} [Jm N]
theorem qHG {a:qb} (fa:jj N a) (m:qg) (p:qa) (h1:p.F.length < N) (h2:p.F.length≤4611686018427387904) (c:qe) (id:Vector UInt8 16) (no:Int):vR N a m p c id no=some true:=by
 obtain ⟨x,ex⟩:=qVu (N:=N) a
 obtain ⟨y,ey⟩:=qMN (N:=N) p
 have fe:jj N (qb.mk []):=⟨by have:=big N; show 0 < N; omega,Nat.zero_le _,fun k hk=>absurd hk (Nat.not_lt_zero _)⟩
 unfold vR WS
 refine ql (show qOd=some true from rfl) <| ql ex <| ql (qVj m) <| ql ey <| w_f rfl ?_
 cases x with
 | false=>rfl
 | true=>
  refine w_f rfl ?_
  cases hf:qqV m with
  | false=>rfl
  | true=>
   refine w_f rfl ?_
   cases y with
   | false=>rfl
   | true=>
    refine w_f rfl <| qct (c:=decide ((300:Int) < ((c.V.length:Nat):Int))) rfl (fun _=>rfl) fun h300=>?_
    have hV:c.V.length≤300:=by have:=of_decide_eq_false h300; omega
    have key:∃ l,Kw N a m=some l∧QT N a m=some l∧jj N (qb.mk l):=by
     by_cases h:jm a=true∧qil m=true
     ·exact ⟨_,qRU hf h.1 h.2,qOH hf h.1 h.2,qNN h.1⟩
     ·exact ⟨_,qRL hf fa h,qM7 hf fa h,fe⟩
    obtain ⟨l,e1,e2,fl⟩:=key
    have e3:KZ N l l=some true:=by
     unfold KZ qcj
     exact ql (qDn fl) <| qA rfl
    refine ql (qVK fa h1 h2) <| ql (qSa fa h1 h2) <| ql e1 <| ql e2 <| ql e3 <| ql (qDn (qPi fa h1 h2)) <| ql (qJ8 hf (by omega)) <| w_t rfl <| w_t rfl <| w_t (decide_eq_true rfl) <| ql (qOi hf (by omega)) <| qA ?_
    exact congrArg some ((Yb .b _ _).2 rfl)
end
theorem qOt (a:qb) (m:qg) (p:qa) (c:qe) (id:Vector UInt8 16) (no:Int) (h1:a.R.length≤4611686018427387904) (h2:∀ k,k < a.R.length→(a.R.getD k zR).F.length≤4611686018427387904) (h3:p.F.length≤4611686018427387904):∃ N:Nat,vR N a m p c id no=some true:=by
 obtain ⟨M,hM⟩:=qWN a h1 h2
 have:Jm (100000 + M + p.F.length):=Jm.of (by omega)
 exact ⟨_,qHG (hM (100000 + M + p.F.length) (by omega)) m p (by omega) h3 c id no⟩
end Go.Rx
end
