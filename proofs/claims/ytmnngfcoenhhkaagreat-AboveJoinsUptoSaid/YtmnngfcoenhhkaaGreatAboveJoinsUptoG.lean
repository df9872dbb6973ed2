/- A part of the proof of AboveJoinsUpto: the law returns true for every input of its bounded bulk, and its arguments read as before. No condition beyond that bound. -/
import Derived.Test.YtmnngfcoenhhkaaGreatAboveJoinsUptoF
set_option linter.unusedSimpArgs false
set_option linter.unusedVariables false
set_option linter.unusedSectionVars false
set_option maxRecDepth 100000
noncomputable section
namespace Go.Rx
open Go.Proofs
theorem qQp:∀ n < 32,0 < n→qiF .u64 (IntKind.u64.wrap (0 - ((n:Nat):Int))) 31=((32 - n:Nat):Int):=by decide +kernel
theorem qPs:∀ n < 32,0 < n→qQ5 .u64 (32:Int) ((32 - n:Nat):Int)=((n:Nat):Int):=by decide +kernel
theorem qiO (x:UInt32) (n:Nat) (h:n < 32) (h0:0 < n):jh (c32 x) ((n:Nat):Int)=some (c32 (rot x n)):=by
 unfold jh qkM Wp Xg
 have h64:qt (0 - ((n:Nat):Int)):=by unfold qt; omega
 simp only [run_bind,qS,qP,qg h64,qQp n h h0,qPs n h h0]
 rw [qg (show (0:Int)≤((32 - n:Nat):Int) by omega),qg (show (0:Int)≤((n:Nat):Int) by omega),Int.toNat_natCast,Int.toNat_natCast,Nat.min_eq_left (show 32 - n≤32 by omega),Nat.min_eq_left (show n≤32 by omega),qB6 x _ (by omega),qB3 x n h,qQA]
 rfl
abbrev wAt {n:Nat} (v:Vector UInt32 n) (k:Nat):UInt32:=v.toList.getD k 0
abbrev bAt (l:List UInt8) (k:Nat):UInt32:=(l.getD k 0).toUInt32
def qyP (b:List UInt8) (k:Nat) (w:Vector UInt32 64):Vector UInt32 64:=
 if k < 16 then w.setIfInBounds k ((bAt b (4 * k) <<< UInt32.ofNat 24) ||| (bAt b (4 * k + 1) <<< UInt32.ofNat 16) ||| (bAt b (4 * k + 2) <<< UInt32.ofNat 8) ||| bAt b (4 * k + 3))
 else w.setIfInBounds k (wAt w (k - 16) + wAt w (k - 7) + (rot (wAt w (k - 15)) 7 ^^^ rot (wAt w (k - 15)) 18 ^^^ (wAt w (k - 15) >>> UInt32.ofNat 3)) + (rot (wAt w (k - 2)) 17 ^^^ rot (wAt w (k - 2)) 19 ^^^ (wAt w (k - 2) >>> UInt32.ofNat 10)))
def quP (b:List UInt8):Vector UInt32 64:=ZH (qyP b) 64 0 (Vector.replicate 64 0)
theorem qQ1 (c:UInt8):IntKind.u32.wrap ((c.toNat:Nat):Int)=c32 c.toUInt32:=by
 rw [qoj,Nat.mod_eq_of_lt (by have:=c.toNat_lt; omega),c32,UInt8.toNat_toUInt32]
theorem qQJ {N:Nat} {o:Vector UInt32 64} {b:List UInt8} {w:Vector UInt32 64} {k:Nat} (hb:b.length=64) (hk:k < 16):(QM N o b (w,(k:Int))).run some=some (.inl (qyP b k w,((k + 1:Nat):Int))):=by
 have g:∀ j < 4,zk b ((4:Int) * (k:Int) + ((j:Nat):Int))=some (b.getD (4 * k + j) 0):=fun j hj=>by
  rw [show (4:Int) * (k:Int) + ((j:Nat):Int)=((4 * k + j:Nat):Int) by omega]; exact zY (by omega)
 have g0:zk b ((4:Int) * (k:Int))=some (b.getD (4 * k) 0):=by have:=g 0 (by omega); simpa using this
 have g1:zk b ((4:Int) * (k:Int) + 1)=some (b.getD (4 * k + 1) 0):=g 1 (by omega)
 have g2:zk b ((4:Int) * (k:Int) + 2)=some (b.getD (4 * k + 2) 0):=g 2 (by omega)
 have g3:zk b ((4:Int) * (k:Int) + 3)=some (b.getD (4 * k + 3) 0):=g 3 (by omega)
 have c0:qt ((4:Int) * (k:Int)):=by unfold qt; omega
 have c1:qt ((4:Int) * (k:Int) + 1):=by unfold qt; omega
 have c2:qt ((4:Int) * (k:Int) + 2):=by unfold qt; omega
 have c3:qt ((4:Int) * (k:Int) + 3):=by unfold qt; omega
 have c4:qt ((k:Int) + 1):=by unfold qt; omega
 have d1:decide ((k:Int) < 64)=true:=decide_eq_true (by omega)
 have d2:decide ((k:Int) < 16)=true:=decide_eq_true (by omega)
 have p8:(0:Int)≤8:=by omega
 have p16:(0:Int)≤16:=by omega
 have p24:(0:Int)≤24:=by omega
 have pk:(0:Int)≤(k:Int)∧(k:Int) < ((64:Nat):Int):=by omega
 have pk2:k < 64:=by omega
 unfold QM qyP
 rw [if_pos hk]
 simp only [qF,run_bind,qS,qP,d1,d2,cond_true,qg c0,qg c1,qg c2,qg c3,g0,g1,g2,g3,Option.bind_some,qg p8,qg p16,qg p24,qQ1,qB6 _ 24 (by omega),qB6 _ 16 (by omega),qB6 _ 8 (by omega),qQA,qg (qBV _),qg pk,UInt32.ofNat_toNat,Int.toNat_natCast,qg pk2,qg c4]
 rw [zd]
theorem qQU {N:Nat} {o:Vector UInt32 64} {b:List UInt8} {w:Vector UInt32 64} {k:Nat} (h1:¬ k < 16) (hk:k < 64):(QM N o b (w,(k:Int))).run some=some (.inl (qyP b k w,((k + 1:Nat):Int))):=by
 have c4:qt ((k:Int) + 1):=by unfold qt; omega
 have d1:decide ((k:Int) < 64)=true:=decide_eq_true (by omega)
 have d2:decide ((k:Int) < 16)=false:=decide_eq_false (by omega)
 have e15:(k:Int) - 15=((k - 15:Nat):Int):=by omega
 have e2:(k:Int) - 2=((k - 2:Nat):Int):=by omega
 have e16:(k:Int) - 16=((k - 16:Nat):Int):=by omega
 have e7:(k:Int) - 7=((k - 7:Nat):Int):=by omega
 have i15:qt (((k - 15:Nat)):Int):=by unfold qt; omega
 have i2:qt (((k - 2:Nat)):Int):=by unfold qt; omega
 have i16:qt (((k - 16:Nat)):Int):=by unfold qt; omega
 have i7:qt (((k - 7:Nat)):Int):=by unfold qt; omega
 have p15:(0:Int)≤((k - 15:Nat):Int)∧((k - 15:Nat):Int) < ((64:Nat):Int):=by omega
 have p2:(0:Int)≤((k - 2:Nat):Int)∧((k - 2:Nat):Int) < ((64:Nat):Int):=by omega
 have p16:(0:Int)≤((k - 16:Nat):Int)∧((k - 16:Nat):Int) < ((64:Nat):Int):=by omega
 have p7:(0:Int)≤((k - 7:Nat):Int)∧((k - 7:Nat):Int) < ((64:Nat):Int):=by omega
 have q15:k - 15 < 64:=by omega
 have q2:k - 2 < 64:=by omega
 have q16:k - 16 < 64:=by omega
 have q7:k - 7 < 64:=by omega
 have p3:(0:Int)≤3:=by omega
 have p10:(0:Int)≤10:=by omega
 have pk:(0:Int)≤(k:Int)∧(k:Int) < ((64:Nat):Int):=by omega
 have r7:=fun x=>qiO x 7 (by omega) (by omega)
 have r18:=fun x=>qiO x 18 (by omega) (by omega)
 have r17:=fun x=>qiO x 17 (by omega) (by omega)
 have r19:=fun x=>qiO x 19 (by omega) (by omega)
 unfold QM qyP
 rw [if_neg h1]
 simp only [qF,run_bind,qS,qP,d1,d2,cond_true,cond_false]
 rw [e15,e2,e16,e7]
 rw [qg i15,qg p15,Int.toNat_natCast,qg q15,qg i2,qg p2,Int.toNat_natCast,qg q2,qg i16,qg p16,Int.toNat_natCast,qg q16,qg i7,qg p7,Int.toNat_natCast,qg q7]
 show (Option.bind (jh (c32 (wAt w (k - 15))) ((7:Nat):Int)) _)=_
 rw [r7,Option.bind_some]
 show (Option.bind (jh (c32 (wAt w (k - 15))) ((18:Nat):Int)) _)=_
 rw [r18,Option.bind_some,qg p3]
 show (Option.bind (jh (c32 (wAt w (k - 2))) ((17:Nat):Int)) _)=_
 rw [r17,Option.bind_some]
 show (Option.bind (jh (c32 (wAt w (k - 2))) ((19:Nat):Int)) _)=_
 rw [r19,Option.bind_some,qg p10,qg pk]
 simp only [qHU,qIj,qB3 _ 3 (by omega),qB3 _ 10 (by omega),qg (qBV _),Int.toNat_natCast,UInt32.ofNat_toNat,qg hk,qg c4]
 rw [zd]
theorem qMW {N:Nat} {b:List UInt8} (hN:64 < N) (hb:b.length=64):qez N b=some (quP b):=by
 have key:qdw N (Vector.replicate 64 0) b (Vector.replicate 64 0) 0=some (quP b,(64:Int),false):=by
  refine (jY (σ:=Vector UInt32 64) (B:=QM N (Vector.replicate 64 0) b) (g:=some) (at_:=fun k s=>(s,(k:Int))) (I:=fun _ _=>True) (f:=qyP b) (n:=64)
   (fin:=fun s=>(s,(64:Int),false)) (fun k s hk _=>⟨?_,trivial⟩) (fun s _=>?_) N 0 (Vector.replicate 64 0) trivial (Nat.zero_le _) (by omega))
  ·by_cases h:k < 16
   ·exact qQJ hb h
   ·exact qQU h hk
  ·unfold QM
   rfl
 unfold qez qfd
 rw [run_bind,key,Option.bind_some,qP]
def tW (K w:Vector UInt32 64) (i:Nat) (x:Vector UInt32 8):UInt32:=wAt x 7 + (rot (wAt x 4) 6 ^^^ rot (wAt x 4) 11 ^^^ rot (wAt x 4) 25) + ((wAt x 4 &&& wAt x 5) ^^^ (~~~(wAt x 4) &&& wAt x 6)) + wAt K i + wAt w i
def uW (x:Vector UInt32 8):UInt32:=(rot (wAt x 0) 2 ^^^ rot (wAt x 0) 13 ^^^ rot (wAt x 0) 22) + ((wAt x 0 &&& wAt x 1) ^^^ (wAt x 0 &&& wAt x 2) ^^^ (wAt x 1 &&& wAt x 2))
def qEt (K w:Vector UInt32 64) (i:Nat) (x:Vector UInt32 8):Vector UInt32 8:=
 ((Kf x 1 7).setIfInBounds 0 (tW K w i x + uW x)).setIfInBounds 4 (wAt ((Kf x 1 7).setIfInBounds 0 (tW K w i x + uW x)) 4 + tW K w i x)
def qHm (x:Vector UInt32 8) (k:Nat) (s:Vector UInt32 8):Vector UInt32 8:=s.setIfInBounds k (wAt s k + wAt x k)
def qB0 (s:Vector UInt32 8) (K:Vector UInt32 64) (b:List UInt8):Vector UInt32 8:=ZH (qHm (ZH (qEt K (quP b)) 64 0 s)) 8 0 s
theorem qQl {N:Nat} {s:Vector UInt32 8} {K w:Vector UInt32 64} {x:Vector UInt32 8} {k:Nat} (hk:k < 64):(Jn N s K w (x,(k:Int))).run some=some (.inl (qEt K w k x,((k + 1:Nat):Int))):=by
 have c4:qt ((k:Int) + 1):=by unfold qt; omega
 have d1:decide ((k:Int) < 64)=true:=decide_eq_true (by omega)
 have pk:(0:Int)≤(k:Int)∧(k:Int) < ((64:Nat):Int):=by omega
 have hj:∀ j < 8,(0:Int)≤((j:Nat):Int)∧((j:Nat):Int) < ((8:Nat):Int):=fun j hj=>by omega
 have j0:(0:Int)≤(0:Int)∧(0:Int) < ((8:Nat):Int):=hj 0 (by omega)
 have j1:(0:Int)≤(1:Int)∧(1:Int) < ((8:Nat):Int):=hj 1 (by omega)
 have j2:(0:Int)≤(2:Int)∧(2:Int) < ((8:Nat):Int):=hj 2 (by omega)
 have j4:(0:Int)≤(4:Int)∧(4:Int) < ((8:Nat):Int):=hj 4 (by omega)
 have j5:(0:Int)≤(5:Int)∧(5:Int) < ((8:Nat):Int):=hj 5 (by omega)
 have j6:(0:Int)≤(6:Int)∧(6:Int) < ((8:Nat):Int):=hj 6 (by omega)
 have j7:(0:Int)≤(7:Int)∧(7:Int) < ((8:Nat):Int):=hj 7 (by omega)
 have n0:0 < 8:=by omega
 have n1:1 < 8:=by omega
 have n2:2 < 8:=by omega
 have n4:4 < 8:=by omega
 have n5:5 < 8:=by omega
 have n6:6 < 8:=by omega
 have n7:7 < 8:=by omega
 have r:=fun x n h h0=>qiO x n h h0
 unfold Jn qEt tW uW
 rw [qF,d1,cond_true]
 simp only [run_bind,qS,qP]
 rw [qg j0,qg n0,qg j4,qg n4,qg j7,qg n7]
 show (Option.bind (jh (c32 (wAt x 4)) ((6:Nat):Int)) _)=_
 rw [r _ 6 (by omega) (by omega),Option.bind_some]
 show (Option.bind (jh (c32 (wAt x 4)) ((11:Nat):Int)) _)=_
 rw [r _ 11 (by omega) (by omega),Option.bind_some]
 show (Option.bind (jh (c32 (wAt x 4)) ((25:Nat):Int)) _)=_
 rw [r _ 25 (by omega) (by omega),Option.bind_some,qg j5,qg n5,qg j6,qg n6,qg pk,Int.toNat_natCast,qg hk]
 rw [qg pk,qg hk]
 show (Option.bind (jh (c32 (wAt x 0)) ((2:Nat):Int)) _)=_
 rw [r _ 2 (by omega) (by omega),Option.bind_some]
 show (Option.bind (jh (c32 (wAt x 0)) ((13:Nat):Int)) _)=_
 rw [r _ 13 (by omega) (by omega),Option.bind_some]
 show (Option.bind (jh (c32 (wAt x 0)) ((22:Nat):Int)) _)=_
 rw [r _ 22 (by omega) (by omega),Option.bind_some]
 rw [qg j1,qg n1,qg j2,qg n2,qg j1,qg n1,qg j2,qg n2,qg j0]
 simp only [qHU,qQ6,qRd,qIj,qg (qBV _),Int.toNat_natCast,UInt32.ofNat_toNat,qg n0,qg j4,qg n4,qg c4]
 rw [zd]
theorem qGm {N:Nat} {s:Vector UInt32 8} {K:Vector UInt32 64} {b:List UInt8} (hN:64 < N) (hb:b.length=64):W2 N s K b=some (qB0 s K b):=by
 have k1:qbW N s K (quP b) s 0=some (ZH (qEt K (quP b)) 64 0 s,(64:Int),false):=by
  refine (jY (σ:=Vector UInt32 8) (B:=Jn N s K (quP b)) (g:=some) (at_:=fun k s=>(s,(k:Int))) (I:=fun _ _=>True) (f:=qEt K (quP b)) (n:=64)
   (fin:=fun s=>(s,(64:Int),false)) (fun k x hk _=>⟨qQl hk,trivial⟩) (fun x _=>?_) N 0 s trivial (Nat.zero_le _) (by omega))
  unfold Jn
  rfl
 have k2:∀ x:Vector UInt32 8,qaB N K x s 0=some (ZH (qHm x) 8 0 s,(8:Int),false):=fun x=>by
  refine (jY (σ:=Vector UInt32 8) (B:=VY N K x) (g:=some) (at_:=fun k s=>(s,(k:Int))) (I:=fun _ _=>True) (f:=qHm x) (n:=8)
   (fin:=fun s=>(s,(8:Int),false)) (fun k y hk _=>⟨?_,trivial⟩) (fun y _=>?_) N 0 s trivial (Nat.zero_le _) (by omega))
  ·have c4:qt ((k:Int) + 1):=by unfold qt; omega
   have d1:decide ((k:Int) < 8)=true:=decide_eq_true (by omega)
   have pk:(0:Int)≤(k:Int)∧(k:Int) < ((8:Nat):Int):=by omega
   unfold VY qHm
   simp only [qF,run_bind,qS,qP,d1,cond_true]
   rw [qg pk,Int.toNat_natCast,qg hk,qg pk,qg hk,qg pk]
   simp only [qIj,qg (qBV _),Int.toNat_natCast,UInt32.ofNat_toNat,qg hk,qg c4]
   rw [zd]
  ·unfold VY
   rfl
 unfold W2 qc0
 rw [run_bind,qMW hN hb,Option.bind_some,run_bind,k1,Option.bind_some,run_bind,k2,Option.bind_some,qP]
 rfl
end Go.Rx
end
set_option maxRecDepth 100000
noncomputable section
namespace Go.Rx
open Go.Proofs
def qRq:Vector UInt32 8:=#v[1779033703,3144134277,1013904242,2773480762,1359893119,2600822924,528734635,1541459225]
def qRu:Vector UInt32 64:=#v[1116352408,1899447441,3049323471,3921009573,961987163,1508970993,2453635748,2870763221,
 3624381080,310598401,607225278,1426881987,1925078388,2162078206,2614888103,3248222580,
 3835390401,4022224774,264347078,604807628,770255983,1249150122,1555081692,1996064986,
 2554220882,2821834349,2952996808,3210313671,3336571891,3584528711,113926993,338241895,
 666307205,773529912,1294757372,1396182291,1695183700,1986661051,2177026350,2456956037,
 2730485921,2820302411,3259730800,3345764771,3516065817,3600352804,4094571909,275423344,
 430227734,506948616,659060556,883997877,958139571,1322822218,1537002063,1747873779,
 1955562222,2024104815,2227730452,2361852424,2428436474,2756734187,3204031479,3329325298]
def KO (L:Nat):Nat:=(119 - L % 64) % 64
theorem qib (n:Int):inB (IntKind.u8.wrap n):=by
 unfold inB
 have:IntKind.u8.wrap n=n % 256:=by simp [IntKind.wrap,IntKind.bits,IntKind.signed]
 rw [this]; omega
theorem qMu (a b:Nat):((a:Nat):Int).tmod ((b:Nat):Int)=((a % b:Nat):Int):=rfl
theorem qEM (a b:Nat):((a:Nat):Int).tdiv ((b:Nat):Int)=((a / b:Nat):Int):=rfl
theorem qfs {n k:Nat} (h:k≤2000000000):jx n n k 1:=⟨rfl,by unfold zc; omega⟩
theorem qQb {N:Nat} {o:Vector UInt8 32} {b:List UInt8} (hb:b.length≤1000000000) (hN:64 < N):qhE N o b (b++[128])=some (b++[128]++List.replicate (KO b.length) 0,false):=by
 have hz:KO b.length < 64:=Nat.mod_lt _ (by omega)
 have h56:(b.length + 1 + KO b.length) % 64=56:=by unfold KO; omega
 have hlen:∀ k,(b++[128]++List.replicate k (0:UInt8)).length=b.length + 1 + k:=fun k=>by simp; omega
 have hne:∀ k,k < KO b.length→(b.length + 1 + k) % 64≠56:=fun k hk=>by unfold KO at *; omega
 have e0:qhE N o b (b++[128])=qY (qaL N o b) some N (b++[128]++List.replicate 0 (0:UInt8)):=by rw [List.replicate_zero,List.append_nil]; rfl
 rw [e0]
 refine (jY (σ:=Unit) (B:=qaL N o b) (g:=some) (at_:=fun k _=>b++[128]++List.replicate k (0:UInt8)) (I:=fun _ _=>True) (f:=fun _ s=>s) (n:=KO b.length)
  (fin:=fun _=>(b++[128]++List.replicate (KO b.length) 0,false)) (fun k s hk _=>⟨?_,trivial⟩) (fun s _=>?_) N 0 () trivial (Nat.zero_le _) (by omega))
 ·unfold qaL
  have c1:(64:Int)≠0:=by omega
  have e:decide ((((b++[128]++List.replicate k (0:UInt8)).length:Nat):Int).tmod 64=56)=false:=decide_eq_false (by
   rw [hlen]
   have:=hne k hk
   show ¬ (((b.length + 1 + k) % 64:Nat):Int)=56
   omega)
  have c2:jx (b++[128]++List.replicate k (0:UInt8)).length (b++[128]++List.replicate k (0:UInt8)).length ((b++[128]++List.replicate k (0:UInt8))++[UInt8.ofNat 0]).length 1:=qfs (by rw [List.length_append,hlen]; simp; omega)
  rw [qS,qg c1,qF,e,Bool.not_false,cond_true,qS,qg c2,qP]
  rw [List.replicate_succ',← List.append_assoc]
  rfl
 ·unfold qaL
  have c1:(64:Int)≠0:=by omega
  have e:decide ((((b++[128]++List.replicate (KO b.length) (0:UInt8)).length:Nat):Int).tmod 64=56)=true:=decide_eq_true (by
   rw [hlen]
   show (((b.length + 1 + KO b.length) % 64:Nat):Int)=56
   omega)
  rw [qS,qg c1,qF,e,Bool.not_true,cond_false,qP]
def qOd (L k:Nat):UInt8:=UInt8.ofNat (IntKind.u8.wrap (Q1 (qP8 .u64 (IntKind.u64.wrap ((L:Nat):Int)) 8) (min ((8:Int) * ((7:Int) - (k:Int))).toNat 64))).toNat
def qop (L k:Nat) (l:List UInt8):List UInt8:=l++[qOd L k]
theorem qC9 {L:Nat}:∀ (m k:Nat) (l:List UInt8),(ZH (qop L) m k l).length=l.length + m
 | 0,_,_=>rfl
 | m + 1,k,l=>by
  show (ZH (qop L) m (k + 1) (qop L k l)).length=_
  rw [qC9 m]; unfold qop; rw [List.length_append]; simp; omega
theorem qPJ {N:Nat} {o:Vector UInt8 32} {b l:List UInt8} (hl:l.length≤1500000000) (hN:64 < N):qn8 N o b l 0=some (ZH (qop b.length) 8 0 l,(8:Int),false):=by
 refine (jY (σ:=List UInt8) (B:=qeh N o b) (g:=some) (at_:=fun k s=>(s,(k:Int))) (I:=fun k s=>s.length=l.length + k) (f:=qop b.length) (n:=8)
  (fin:=fun s=>(s,(8:Int),false)) (fun k s hk hs=>⟨?_,?_⟩) (fun s _=>?_) N 0 l rfl (Nat.zero_le _) (by omega))
 ·have d1:decide ((k:Int) < 8)=true:=decide_eq_true (by omega)
  have c1:qt ((7:Int) - (k:Int)):=by unfold qt; omega
  have c2:qt ((8:Int) * ((7:Int) - (k:Int))):=by unfold qt; omega
  have c3:(0:Int)≤(8:Int) * ((7:Int) - (k:Int)):=by omega
  have c4:qt ((k:Int) + 1):=by unfold qt; omega
  have c5:jx s.length s.length (s++[qOd b.length k]).length 1:=qfs (by rw [List.length_append,hs]; simp; omega)
  unfold qeh
  rw [qF,d1,cond_true]
  simp only [qS,qP]
  rw [qg c1,qg c2,qg c3,qg (qib _)]
  show chk (jx s.length s.length (s++[qOd b.length k]).length 1) _=_
  rw [qg c5,qg c4,zd]
  rfl
 ·unfold qop; rw [List.length_append,hs]; simp; omega
 ·unfold qeh
  rfl
def chF (K:Vector UInt32 64):Nat→Vector UInt32 8→List UInt8→Vector UInt32 8
 | 0,s,_=>s
 | m + 1,s,l=>chF K m (qB0 s K (l.take 64)) (l.drop 64)
theorem qOI {N : Nat} {o : List UInt8} {o2 : Vector UInt8 32} {o3 : Vector UInt32 8} {K : Vector UInt32 64} (hN : 64 < N) : ∀ (m n : Nat) (s : Vector UInt32 8) (l : List UInt8), l.length = 64 * m → m < n →
    qY (YQ N o o2 o3 K) some n (s,l)=some (.inr (chF K m s l,[],false))
 | 0,n + 1,s,l,hl,_=>by
  have:l=[]:=List.length_eq_zero_iff.1 (by omega)
  subst this
  exact zV (by unfold YQ; rfl) n
 | m + 1,n + 1,s,l,hl,hn=>by
  have d1:decide ((0:Int) < ((l.length:Nat):Int))=true:=decide_eq_true (by omega)
  have c1:(0:Int)≤0∧(0:Int)≤64∧(64:Int)≤((l.length:Nat):Int):=by omega
  have c2:(0:Int)≤64∧(64:Int)≤((l.length:Nat):Int):=by omega
  have ht:((l.take 64).drop 0).length=64:=by rw [List.drop_zero,List.length_take]; omega
  rw [J1 (v':=(qB0 s K (l.take 64),l.drop 64)) (by
   unfold YQ
   rw [qF,d1,cond_true,qS,qg c1,run_bind,qGm hN ht,Option.bind_some,qS,qg c2,qP,List.drop_zero]) n]
  exact qOI hN m n _ _ (by rw [List.length_drop]; omega) (by omega)
 | _,0,_,_,_,hn=>by omega
theorem qLv {N m : Nat} {all : List UInt8} {o2 : Vector UInt8 32} {s : Vector UInt32 8} {K : Vector UInt32 64} (hN : 64 < N) (hm : m + 1 < N) (hl : all.length = 64 * (m + 1)) :
    qcn N all o2 s K=some (.inr (chF K (m + 1) s all,[],false)):=by
 have d1:decide ((0:Int) < ((all.length:Nat):Int))=true:=decide_eq_true (by omega)
 have c1:(0:Int)≤0∧(0:Int)≤64∧(64:Int)≤((all.length:Nat):Int):=by omega
 have c2:(0:Int)≤64∧(64:Int)≤((all.length:Nat):Int):=by omega
 have ht:((all.take 64).drop 0).length=64:=by rw [List.drop_zero,List.length_take]; omega
 have hrun:(qcE N all o2 s K ()).run some=some (.inr (.inl (qB0 s K (all.take 64),all.drop 64))):=by
  unfold qcE
  rw [qF,d1,cond_true,qS,qg c1,qS,qg rfl,run_bind,qGm hN ht,Option.bind_some,qS,qg c2,qS,qg rfl,qP,List.drop_zero]
 obtain ⟨N',rfl⟩:∃ N',N=N' + 1:=⟨N - 1,by omega⟩
 have e:qcn (N' + 1) all o2 s K=qY (qcE (N' + 1) all o2 s K) (qgE (N' + 1) (N' + 1) (all,o2,s,K)) (N' + 1) ():=rfl
 rw [e,zV hrun]
 exact qOI (o:=all) (o2:=o2) (o3:=s) hN m (N' + 1) _ _ (by rw [List.length_drop]; omega) (by omega)
def qQo (s:Vector UInt32 8) (k:Nat):UInt8:=UInt8.ofNat (IntKind.u8.wrap (c32 (wAt s (k / 4) >>> UInt32.ofNat (24 - 8 * (k % 4))))).toNat
def qOC (s:Vector UInt32 8) (k:Nat) (o:Vector UInt8 32):Vector UInt8 32:=o.setIfInBounds k (qQo s k)
def qQM (s:Vector UInt32 8):Vector UInt8 32:=ZH (qOC s) 32 0 (Vector.replicate 32 0)
theorem qQc {N:Nat} {o:Vector UInt8 32} {s:Vector UInt32 8} (hN:64 < N):qfy N o s (Vector.replicate 32 0) 0=some (qQM s,(32:Int),false):=by
 refine (jY (σ:=Vector UInt8 32) (B:=qcI N o s) (g:=some) (at_:=fun k s=>(s,(k:Int))) (I:=fun _ _=>True) (f:=qOC s) (n:=32)
  (fin:=fun s=>(s,(32:Int),false)) (fun k x hk _=>⟨?_,trivial⟩) (fun x _=>?_) N 0 (Vector.replicate 32 0) trivial (Nat.zero_le _) (by omega))
 ·have d1:decide ((k:Int) < 32)=true:=decide_eq_true (by omega)
  have e1:(k:Int).tdiv 4=((k / 4:Nat):Int):=qEM k 4
  have e2:(k:Int).tmod 4=((k % 4:Nat):Int):=qMu k 4
  have h4:(4:Int)≠0:=by omega
  have c1:qt (((k / 4:Nat)):Int):=by unfold qt; omega
  have c2:(0:Int)≤((k / 4:Nat):Int)∧((k / 4:Nat):Int) < ((8:Nat):Int):=by omega
  have c3:k / 4 < 8:=by omega
  have c4:qt ((8:Int) * ((k % 4:Nat):Int)):=by unfold qt; omega
  have e3:(24:Int) - (8:Int) * ((k % 4:Nat):Int)=((24 - 8 * (k % 4):Nat):Int):=by omega
  have c5:qt ((24 - 8 * (k % 4):Nat):Int):=by unfold qt; omega
  have c6:(0:Int)≤((24 - 8 * (k % 4):Nat):Int):=by omega
  have c7:(0:Int)≤(k:Int)∧(k:Int) < ((32:Nat):Int):=by omega
  have c8:qt ((k:Int) + 1):=by unfold qt; omega
  unfold qcI qOC qQo
  rw [qF,d1,cond_true]
  simp only [qS,qP]
  rw [e1,e2,e3,qg h4,qg c1,qg c2,Int.toNat_natCast,qg c3,qg h4,qg c4,qg c5,qg c6,qg c7,qg (qib _),Int.toNat_natCast,qg hk,qg c8,Int.toNat_natCast,Nat.min_eq_left (show 24 - 8 * (k % 4)≤32 by omega)]
  rw [zd]
  show some (Sum.inl (x.setIfInBounds k (UInt8.ofNat (IntKind.u8.wrap (Q1 (c32 (wAt s (k / 4))) (24 - 8 * (k % 4)))).toNat),_))=_
  rw [qB3 _ _ (by omega)]
 ·unfold qcI
  rfl
def qvN (b:List UInt8):List UInt8:=ZH (qop b.length) 8 0 (b++[128]++List.replicate (KO b.length) 0)
def zK (b:List UInt8):Vector UInt8 32:=qQM (chF qRu ((qvN b).length / 64) qRq (qvN b))
theorem qPD (b:List UInt8):∃ m,(qvN b).length=64 * (m + 1)∧m≤b.length:=by
 have h:(qvN b).length=b.length + 1 + KO b.length + 8:=by unfold qvN; rw [qC9]; simp; omega
 rw [h]
 refine ⟨(b.length + 1 + KO b.length + 8) / 64 - 1,?_,?_⟩
 ·unfold KO; omega
 ·unfold KO; omega
theorem qMR {l:List UInt8} (h:l.length≤1000000000):W7 l=some ():=by
 unfold W7
 cases l with
 | nil=>kernel_rfl
 | cons x r=>
  show qlD (x::r)=_
  unfold qlD qgT
  have h2:jx ([]:List UInt8).length 0 ([]++x::r).length 1:=⟨rfl,by rw [List.nil_append]; unfold zc; omega⟩
  rw [qS,qg (List.isEmpty_cons),qS,qg h2,qP]
theorem qr9 {Z:Type} {a:Nat} {o:Option Z}:zO [(a,a)] o=o:=(zj rfl).trans (qz0 o)
theorem qOe:qqd=some ():=by kernel_rfl
theorem qMP:qq6=some ():=by kernel_rfl
theorem qD2 {N:Nat} {b:List UInt8} (hb:b.length≤1000000000) (hN:b.length + 100 < N):W6 N b=some (zK b):=by
 obtain ⟨m,hm,hmb⟩:=qPD b
 have c1:jx (([]:List UInt8)++b).length (([]:List UInt8)++b).length ((([]:List UInt8)++b)++[UInt8.ofNat 128]).length 1:=qfs (by rw [List.nil_append,List.length_append]; simp; omega)
 have hpad:=qQb (N:=N) (o:=Vector.replicate 32 0) hb (by omega)
 have hlen:=qPJ (N:=N) (o:=Vector.replicate 32 0) (b:=b) (l:=b++[128]++List.replicate (KO b.length) 0) (by have:KO b.length < 64:=Nat.mod_lt _ (by omega); simp; omega) (by omega)
 have hch:∀ (s:Vector UInt32 8) (K:Vector UInt32 64),qcn N (ZH (qop b.length) 8 0 (b++[128]++List.replicate (KO b.length) 0)) (Vector.replicate 32 0) s K=some (.inr (chF K (m + 1) s (qvN b),[],false)):=fun s K=>qLv (by omega) (by omega) hm
 have hd:(qvN b).length / 64=m + 1:=by rw [hm]; omega
 have e1:(([]:List UInt8)++b)++[UInt8.ofNat 128]=b++[128]:=rfl
 unfold W6 qqr zK
 rw [run_bind,qMR hb,Option.bind_some,qS,qg c1,run_bind,e1,qr9,hpad,Option.bind_some]
 dsimp only
 rw [run_bind,qr9,hlen,Option.bind_some]
 dsimp only
 rw [run_bind,qOe,Option.bind_some,run_bind,qMP,Option.bind_some,run_bind,qr9,hch,Option.bind_some,qCT,run_bind,qQc (by omega),Option.bind_some,qP,hd]
 rfl
end Go.Rx
end
set_option maxRecDepth 100000
noncomputable section
namespace Go.Rx
open Go.Proofs
section n
variable {N:Nat} [JA N]
theorem qJG {n:Int} (h0:0≤n) (h1:n < 18446744073709551616):∃ r:Nat,qfw N n=some (r:Int)∧1≤r∧r≤10:=by
 have key:∃ y,qeW N (Q1 n 7) 1=some y∧1≤y.2.1∧y.2.1≤10:=by
  refine Vq (B:=Y4 N) (g:=some) (I:=fun v=>0≤v.1∧1≤v.2∧v.2≤10∧v.1 < (128:Int) ^ (10 - v.2.toNat)) (fun v=>11 - v.2.toNat) ?_ N _ ⟨?_,by omega,by omega,?_⟩ (by have:=big N; simp; omega)
  ·rintro ⟨a,k⟩ ⟨g0,g1,g2,g3⟩
   simp only at g0 g1 g2 g3
   by_cases h:0 < a
   ·left
    have hk:k≤9:=by
     by_cases e:k=10
     ·subst e
      have:(128:Int) ^ (10 - (10:Int).toNat)=1:=rfl
      omega
     ·omega
    have c1:qt (k + 1):=by unfold qt; omega
    have c2:(0:Int)≤7:=by omega
    refine ⟨(Q1 a 7,k + 1),?_,⟨?_,?_,?_,?_⟩,?_⟩
    ·unfold Y4
     rw [qF,decide_eq_true h,cond_true,qS,qg c1,qS,qg c2,qP]
    ·show 0≤a.fdiv (2 ^ 7)
     rw [Int.fdiv_eq_ediv_of_nonneg _ (by omega)]; omega
    ·simp only; omega
    ·simp only; omega
    ·show a.fdiv (2 ^ 7) < (128:Int) ^ (10 - (k + 1).toNat)
     rw [Int.fdiv_eq_ediv_of_nonneg _ (by omega)]
     have e:10 - k.toNat=(10 - (k + 1).toNat) + 1:=by omega
     rw [e,Int.pow_succ] at g3
     have:(2:Int) ^ 7=128:=rfl
     omega
    ·simp only; omega
   ·right
    refine ⟨(a,k,false),_,?_,rfl,g1,g2⟩
    unfold Y4
    rw [qF,decide_eq_false h,cond_false,qP]
  ·show 0≤n.fdiv (2 ^ 7)
   rw [Int.fdiv_eq_ediv_of_nonneg _ (by omega)]; omega
  ·show n.fdiv (2 ^ 7) < (128:Int) ^ (10 - (1:Int).toNat)
   rw [Int.fdiv_eq_ediv_of_nonneg _ (by omega)]
   have:(128:Int) ^ (10 - (1:Int).toNat)=9223372036854775808:=rfl
   rw [this]; omega
 obtain ⟨y,e,h2,h3⟩:=key
 refine ⟨y.2.1.toNat,?_,by omega,by omega⟩
 unfold qfw qgG
 rw [qS,qg (by omega),run_bind,e,Option.bind_some,qP,Int.toNat_of_nonneg (by omega)]
theorem qLB (a b:Int):inB (uOr .u8 a b):=qib _
theorem qKJ (a b:Int):inB (qsg .u8 a b):=qib _
theorem qQ3 {n:Int} {r:Nat} (hr:r≤10):∀ l:List UInt8,l.length=r→∃ y,qft N n (r:Int) r (r:Int) l 0=some y∧y.1.length=r:=fun l hl=>by
 refine Vq (B:=qcH N n (r:Int) r (r:Int)) (g:=some) (I:=fun v=>v.1.length=r∧∃ k:Nat,k≤r∧v.2=(k:Int)) (fun v=>r - v.2.toNat) ?_ N _ ⟨hl,0,Nat.zero_le _,rfl⟩ (by have:=big N; simp; omega)
 rintro ⟨l,v⟩ ⟨hl,k,hk,hv⟩
 simp only at hl hv
 subst hv
 by_cases h:k < r
 ·left
  have c1:qt ((r:Int) - 1):=by unfold qt; omega
  have c2:qt ((r:Int) - 1 - (k:Int)):=by unfold qt; omega
  have c3:qt ((7:Int) * (k:Int)):=by unfold qt; omega
  have c4:(0:Int)≤(7:Int) * (k:Int):=by omega
  have c5:(0:Int)≤(r:Int) - 1 - (k:Int)∧(r:Int) - 1 - (k:Int) < ((r:Nat):Int):=by omega
  have c6:qcx l.length r ((r:Int) - 1 - (k:Int)).toNat:=⟨hl,by omega⟩
  have c7:qt ((k:Int) + 1):=by unfold qt; omega
  refine ⟨(l.set ((r:Int) - 1 - (k:Int)).toNat (UInt8.ofNat (uOr .u8 (IntKind.u8.wrap (Q1 n (min ((7:Int) * (k:Int)).toNat 64))) 128).toNat),((k + 1:Nat):Int)),?_,⟨?_,k + 1,h,rfl⟩,?_⟩
  ·unfold qcH
   rw [qF,dec_lt h,cond_true,qS,qg c1,qS,qg c2,qS,qg c3,qS,qg c4]
   show chk _ (chk _ (chk _ (chk _ _)))=_
   rw [qg c5,qg c6,qg (qLB _ _),qg c7,zd]
   rfl
  ·simp only [List.length_set]; exact hl
  ·simp only [Int.toNat_natCast]; omega
 ·right
  obtain rfl:k=r:=by omega
  refine ⟨(l,((k:Nat):Int),false),_,?_,rfl,hl⟩
  unfold qcH
  rw [qF,zp (Nat.lt_irrefl k),cond_false,qP]
theorem qPo {α:Type} {l:List α} {n k:Nat} (hn:l.length=n) (hk:k < n):∃ x,Zd l n k=some x:=by
 unfold Zd; rw [if_pos hn,List.getElem?_eq_getElem (by omega)]; exact ⟨_,rfl⟩
theorem qmS {n:Int} (h0:0≤n) (h1:n < 18446744073709551616):∃ l:List UInt8,Jy N n=some (l,l.length)∧l.length≤10:=by
 obtain ⟨r,e1,h2,h3⟩:=qJG (N:=N) h0 h1
 obtain ⟨y,e2,hy⟩:=qQ3 (N:=N) (n:=n) h3 (List.replicate r 0) (by simp)
 have hrl:(List.replicate ((r:Nat):Int).toNat (0:UInt8)).length=r:=by simp
 have c1:qDs ((r:Nat):Int) ((r:Nat):Int) 1:=⟨rfl,by omega,by unfold zc; omega⟩
 have c2:qt (((r:Nat):Int) - 1):=by unfold qt; omega
 have c3:(0:Int)≤((r:Nat):Int) - 1∧((r:Nat):Int) - 1 < ((r:Nat):Int):=by omega
 obtain ⟨x,hx⟩:=qPo (l:=y.1) (n:=r) (k:=(((r:Nat):Int) - 1).toNat) hy (by omega)
 have c4:qcx y.1.length r (((r:Nat):Int) - 1).toNat:=⟨hy,by omega⟩
 unfold Jy qoQ
 rw [run_bind,e1,Option.bind_some,qS,qg c1,run_bind]
 rw [show qft N n ((r:Nat):Int) (List.replicate ((r:Nat):Int).toNat (0:UInt8)).length ((r:Nat):Int) (List.replicate ((r:Nat):Int).toNat (0:UInt8)) 0=some y by rw [hrl]; exact e2,Option.bind_some,qS,qg c2,hrl,qS,qg c3,run_bind,hx,Option.bind_some]
 have hs:(y.1.set (((r:Nat):Int) - 1).toNat (UInt8.ofNat (qsg .u8 ((x.toNat:Nat):Int) 128).toNat)).length=r:=by rw [List.length_set]; exact hy
 refine ⟨y.1.set (((r:Nat):Int) - 1).toNat (UInt8.ofNat (qsg .u8 ((x.toNat:Nat):Int) 128).toNat),?_,by rw [hs]; exact h3⟩
 show chk _ (chk _ (chk _ _))=_
 rw [qg c3,qg c4,qg (qKJ _ _),hs]
 rfl
theorem wrap64_in (n:Int):0≤IntKind.u64.wrap n∧IntKind.u64.wrap n < 18446744073709551616:=by
 have:IntKind.u64.wrap n=n % 18446744073709551616:=by simp [IntKind.wrap,IntKind.bits,IntKind.signed]
 rw [this]; omega
theorem qPi {l:List UInt8} (h:l.length≤1000000):∃ r:List UInt8,qfL N l=some r∧r.length≤l.length + 10:=by
 obtain ⟨p,e,hp⟩:=qmS (N:=N) (wrap64_in ((l.length:Nat):Int)).1 (wrap64_in ((l.length:Nat):Int)).2
 refine ⟨p++l,?_,by rw [List.length_append]; omega⟩
 unfold qfL qlQ
 show Option.bind (Jy N (IntKind.u64.wrap ((l.length:Nat):Int))) _=_
 have hpl:(p++l).length≤2000000000:=by rw [List.length_append]; omega
 rw [e,Option.bind_some,qS,qg (qfs hpl),qS,qg rfl,qP]
theorem qMB (s:qd):∃ r:List UInt8×Bool,qjQ N s=some r∧r.1.length≤10:=by
 unfold qjQ qk0
 rw [run_bind,qc1,Option.bind_some]
 cases stB s with
 | false=>exact ⟨([],false),rfl,Nat.zero_le _⟩
 | true=>
  obtain ⟨p,e,hp⟩:=qmS (N:=N) (n:=uOr .u64 (qes .u64 (IntKind.u64.wrap (qd.N s)) 3) (IntKind.u64.wrap (qd.Rep s))) (wrap64_in _).1 (wrap64_in _).2
  refine ⟨(p,true),?_,hp⟩
  rw [qF,Bool.not_true,cond_false,qS,qg (by omega)]
  show Option.bind (Jy N (uOr .u64 (qes .u64 (IntKind.u64.wrap (qd.N s)) 3) (IntKind.u64.wrap (qd.Rep s)))) _=_
  rw [e,Option.bind_some,qS,qg rfl,qP]
theorem qJK (s:qd):qco N s=some (.inl ())∨∃ p:List UInt8,qco N s=some (.inr (p,p.length))∧p.length≤10:=by
 unfold qco qgq
 rw [run_bind,qc1,Option.bind_some]
 cases stB s with
 | false=>exact .inl rfl
 | true=>
  right
  obtain ⟨p,e,hp⟩:=qmS (N:=N) (n:=uOr .u64 (qes .u64 (IntKind.u64.wrap (qd.N s)) 3) (IntKind.u64.wrap (qd.Rep s))) (wrap64_in _).1 (wrap64_in _).2
  refine ⟨p,?_,hp⟩
  rw [qF,Bool.not_true,cond_false,qS,qg (by omega)]
  show Option.bind (Jy N (uOr .u64 (qes .u64 (IntKind.u64.wrap (qd.N s)) 3) (IntKind.u64.wrap (qd.Rep s)))) _=_
  rw [e,Option.bind_some,qP]
def XC (c:qe):Bool:=!decide (c.S=zSt)&&(stB c.S&&decide (c.V.length≤200))
theorem qGz (c:qe):qam c=some (XC c):=by
 unfold qam qnc XC
 have e:eqE qi c.S (qd.mk 0 0)=decide (c.S=zSt):=qiD _ _
 have e2:decide (((c.V.length:Nat):Int)≤200)=decide (c.V.length≤200):=decide_eq_decide.2 (by omega)
 rw [qF,e,run_bind,qc1,Option.bind_some,qF,qP,e2,qP]
 cases decide (c.S=zSt)<;>cases stB c.S<;>rfl
theorem qPg {c:qe} (h:XC c=true):∃ r:List UInt8×Bool,qoI N c=some r∧r.1.length≤220:=by
 have hV:c.V.length≤200:=by
  unfold XC at h
  simp only [Bool.and_eq_true,decide_eq_true_iff] at h
  exact h.2.2
 obtain ⟨t,et,ht⟩:=qPi (N:=N) (l:=c.V) (by omega)
 unfold qoI qnG
 rw [run_bind,qGz,h,Option.bind_some,qF,Bool.not_true,cond_false,run_bind]
 rcases qJK (N:=N) c.S with e | ⟨p,e,hp⟩
 ·refine ⟨(t,true),?_,by simp only; omega⟩
  have c1:jx ([]:List UInt8).length 0 ([]++t).length 1:=⟨rfl,by rw [List.nil_append]; unfold zc; omega⟩
  rw [e,Option.bind_some,qN6,run_bind,et,Option.bind_some,qS,qg c1,qS,qg rfl,qP]
  rfl
 ·refine ⟨(p++t,true),?_,by simp only [List.length_append]; omega⟩
  have hpl:(p++t).length≤2000000000:=by rw [List.length_append]; omega
  rw [e,Option.bind_some,qCT,run_bind,et,Option.bind_some,qS,qg (qfs hpl),qS,qg rfl,qP]
end n
end Go.Rx
end
set_option maxRecDepth 100000
noncomputable section
namespace Go.Rx
open Go.Proofs
abbrev zF:qc:=qc.mk 0 (qe.mk zSt [])
abbrev zR:qa:=qa.mk (Vector.replicate 16 0) zSt []
def qrt (l:List qc) (dead:qd) (k:Nat):Bool:=
 (if k=0 then decide (0≤(l.getD k zF).No) else decide ((l.getD (k - 1) zF).No < (l.getD k zF).No))&&(!decide (8≤(l.getD k zF).No)&&(XC (l.getD k zF).C&&slB dead (l.getD k zF).C.S))
def jb (r:qa):Bool:=stB r.qB&&(!(decide (r.F.length=0)&&decide (r.qB=zSt))&&vW (qrt r.F r.qB) r.F.length)
def qCK (l:List qa) (k:Nat):Bool:=jb (l.getD k zR)&&(decide (k=0)||lbB (l.getD (k - 1) zR).ID (l.getD k zR).ID)
def zS (b:qb):Bool:=vW (qCK b.R) b.R.length&&decide (b.R.length≤10)
section n
variable {N:Nat} [JA N]
theorem qOr {f : qc} {dead : qd} {k : Nat} (h64 : qt ((k : Int) + 1)) :
    (Tree.cond (decide (((8:Int))≤(qc.No f))) (.ret (.inr (.inl ())))
     (Tree.bind (qam (qc.C f)) fun r2=>Tree.cond (!r2) (.ret (.inr (.inl ())))
      (Tree.bind (j9 N dead (qe.S (qc.C f))) fun r3=>Tree.cond (!r3) (.ret (.inr (.inl ())))
       (Tree.chk (qt ((k:Int) + 1)) (.ret (.inl ((k:Int) + 1):Int⊕(Unit⊕(Int×Bool)))))))).run some =
    some (if (!decide (8≤f.No)&&(XC f.C&&slB dead f.C.S))=true then .inl ((k:Int) + 1) else .inr (.inl ())):=by
 rw [qF,qP,run_bind,qGz,Option.bind_some,qF,qP,run_bind,V4,Option.bind_some,qF,qP,qS,qg h64,qP]
 cases decide (8≤f.No)<;>cases XC f.C<;>cases slB dead f.C.S<;>rfl
theorem qPX {r : qa} (hN : r.F.length < N) (h62 : r.F.length ≤ 4611686018427387904) :
    qhr N r r.F ((r.F.length:Nat):Int) 0=some (if vW (qrt r.F r.qB) r.F.length then .inr (((r.F.length:Nat):Int),false) else .inl ()):=by
 refine X4 (B:=qev N r r.F ((r.F.length:Nat):Int)) (g:=some) (q:=qrt r.F r.qB) (fun k hk=>?_) ?_ hN
 ·have h64:qt ((k:Int) + 1):=by unfold qt; omega
  have ht:=qOr (N:=N) (f:=r.F.getD k zF) (dead:=r.qB) h64
  unfold qev
  rw [qF,dec_lt hk,cond_true,run_bind,zY (d:=zF) hk,Option.bind_some,← zd]
  unfold qrt
  by_cases h0:k=0
  ·have d0:decide ((k:Int)=0)=true:=decide_eq_true (by omega)
   rw [qF,d0,cond_true,if_pos h0,qF]
   by_cases h1:(0:Int)≤(r.F.getD k zF).No
   ·rw [decide_eq_true h1,cond_true,ht,Bool.true_and]
   ·have d1:decide ((0:Int) < (k:Int))=false:=decide_eq_false (by omega)
    rw [decide_eq_false h1,cond_false,qF,d1,cond_false,qP]
    rfl
  ·have d0:decide ((k:Int)=0)=false:=decide_eq_false (by omega)
   have d1:decide ((0:Int) < (k:Int))=true:=decide_eq_true (by omega)
   have hp:qt ((k:Int) - 1):=by unfold qt; omega
   have hk1:k - 1 < r.F.length:=by omega
   rw [qF,d0,cond_false,if_neg h0,qF,d1,cond_true,qS,qg hp,run_bind,qns (Nat.pos_of_ne_zero h0),zY (d:=zF) hk1,Option.bind_some,qF]
   by_cases h2:(r.F.getD (k - 1) zF).No < (r.F.getD k zF).No
   ·rw [decide_eq_true h2,Bool.not_true,cond_false,ht,Bool.true_and]
   ·rw [decide_eq_false h2,Bool.not_false,cond_true,qP]
    rfl
 ·unfold qev
  rw [qF,zp (Nat.lt_irrefl _),cond_false,qP]
theorem qsn {r:qa} (hN:r.F.length < N) (h62:r.F.length≤4611686018427387904):qfm N r=some (jb r):=by
 have e0:eqE qi r.qB (qd.mk 0 0)=decide (r.qB=zSt):=qiD _ _
 have d0:decide (((r.F.length:Nat):Int)=0)=decide (r.F.length=0):=decide_eq_decide.2 (by omega)
 unfold qfm qqh jb
 rw [run_bind,qc1,Option.bind_some,qF,qP,qF,d0,qF,e0,qP,run_bind,qPX hN h62,Option.bind_some]
 cases stB r.qB<;>cases decide (r.F.length=0)<;>cases decide (r.qB=zSt)<;>cases vW (qrt r.F r.qB) r.F.length<;>rfl
theorem qPG {b : qb} (hN : b.R.length < N) (h62 : b.R.length ≤ 4611686018427387904) (hF : ∀ k, k < b.R.length → (b.R.getD k zR).F.length < N ∧ (b.R.getD k zR).F.length ≤ 4611686018427387904) :
    qla N b b.R ((b.R.length:Nat):Int) 0=some (if vW (qCK b.R) b.R.length then .inr (((b.R.length:Nat):Int),false) else .inl ()):=by
 refine X4 (B:=qcO N b b.R ((b.R.length:Nat):Int)) (g:=some) (q:=qCK b.R) (fun k hk=>?_) ?_ hN
 ·have h64:qt ((k:Int) + 1):=by unfold qt; omega
  unfold qcO
  rw [qF,dec_lt hk,cond_true,run_bind,zY (d:=zR) hk,Option.bind_some,run_bind,qsn (hF k hk).1 (hF k hk).2,Option.bind_some,qF,qP,qF,qsj,qS,qS,qg h64,qP,zd]
  unfold qCK
  cases jb (b.R.getD k zR) with
  | false=>rfl
  | true=>
   by_cases h0:k=0
   ·rw [decide_eq_true h0]; rfl
   ·have hp:qt ((k:Int) - 1):=by unfold qt; omega
    have hk1:k - 1 < b.R.length:=by omega
    rw [decide_eq_false h0,Bool.not_true,cond_false,Bool.not_false,cond_true,qg hp,run_bind,qns (Nat.pos_of_ne_zero h0),zY (d:=zR) hk1,Option.bind_some,run_bind,qES,Option.bind_some,qF,qP,qS,qg (show qt ((k + 1:Nat):Int) by rw [← zd]; exact h64),qP]
    cases lbB (b.R.getD (k - 1) zR).ID (b.R.getD k zR).ID<;>rfl
 ·unfold qcO
  rw [qF,zp (Nat.lt_irrefl _),cond_false,qP]
theorem qPE {b:qb} (hN:b.R.length < N) (h62:b.R.length≤4611686018427387904) (hF:∀ k,k < b.R.length→(b.R.getD k zR).F.length < N∧(b.R.getD k zR).F.length≤4611686018427387904):Wm N b=some (zS b):=by
 have e2:decide (((b.R.length:Nat):Int)≤10)=decide (b.R.length≤10):=decide_eq_decide.2 (by omega)
 unfold Wm qn5 zS
 rw [run_bind,qPG hN h62 hF,Option.bind_some]
 cases vW (qCK b.R) b.R.length with
 | false=>rfl
 | true=>show (Tree.run some (Tree.ret (decide (((b.R.length:Nat):Int)≤10))))=_; rw [qP,e2]; rfl
end n
theorem Jw {r:qa}:jb r=true↔stB r.qB=true∧(r.F.length≠0∨r.qB≠zSt)∧∀ k,k < r.F.length→qrt r.F r.qB k=true:=by
 unfold jb
 rw [Bool.and_eq_true,Bool.and_eq_true,JC,Bool.not_eq_true',Bool.and_eq_false_iff,decide_eq_false_iff_not,decide_eq_false_iff_not]
theorem ZS {l:List qc} {dead:qd} {k:Nat}:qrt l dead k=true↔(if k=0 then 0≤(l.getD k zF).No else (l.getD (k - 1) zF).No < (l.getD k zF).No)∧(l.getD k zF).No < 8∧XC (l.getD k zF).C=true∧slB dead (l.getD k zF).C.S=true:=by
 unfold qrt
 rw [Bool.and_eq_true,Bool.and_eq_true,Bool.and_eq_true,Bool.not_eq_true',decide_eq_false_iff_not,Int.not_le]
 refine and_congr ?_ Iff.rfl
 split<;>exact decide_eq_true_iff
theorem qxZ {r:qa} (h:jb r=true):∀ k,k < r.F.length→(k:Int)≤(r.F.getD k zF).No
 | 0,hk=>by
  have:=(ZS.1 ((Jw.1 h).2.2 0 hk)).1
  rw [if_pos rfl] at this; exact this
 | k + 1,hk=>by
  have:=(ZS.1 ((Jw.1 h).2.2 (k + 1) hk)).1
  rw [if_neg (by omega)] at this
  have ih:=qxZ h k (by omega)
  rw [show k + 1 - 1=k by omega] at this
  omega
theorem Yj {r:qa} (h:jb r=true):r.F.length≤8:=by
 by_cases e:r.F.length=0
 ·omega
 ·have h1:=qxZ h (r.F.length - 1) (by omega)
  have h2:=(ZS.1 ((Jw.1 h).2.2 (r.F.length - 1) (by omega))).2.1
  omega
theorem qak {b:qb}:zS b=true↔(∀ k,k < b.R.length→jb (b.R.getD k zR)=true∧(k=0∨lbB (b.R.getD (k - 1) zR).ID (b.R.getD k zR).ID=true))∧b.R.length≤10:=by
 unfold zS
 rw [Bool.and_eq_true,decide_eq_true_iff,JC]
 refine and_congr (forall_congr' fun k=>imp_congr_right fun _=>?_) Iff.rfl
 show (jb (b.R.getD k zR)&&(decide (k=0)||lbB (b.R.getD (k - 1) zR).ID (b.R.getD k zR).ID))=true↔_
 rw [Bool.and_eq_true,Bool.or_eq_true,decide_eq_true_iff]
theorem qiL {c:qe} (h:XC c=true):c.V.length≤200:=by
 unfold XC at h
 simp only [Bool.and_eq_true,decide_eq_true_iff] at h
 exact h.2.2
end Go.Rx
end
set_option maxRecDepth 100000
noncomputable section
namespace Go.Rx
open Go.Proofs
section n
variable {N:Nat} [JA N]
theorem qNa {l : List qc} {R : List qa} {s23 s24 : Int} (h8 : l.length ≤ 8) (hc : ∀ k, k < l.length → XC (l.getD k zF).C = true) {o : List UInt8} (ho : o.length ≤ 1000000) :
    ∃ p:List UInt8,qgK N R s23 s24 l ((l.length:Nat):Int) o o.length 0=some (p,p.length,((l.length:Nat):Int),false)∧p.length≤o.length + 221 * l.length:=by
 have key:∃ y,qY (KX N R s23 s24 l ((l.length:Nat):Int)) some N (o,o.length,((0:Nat):Int))=some y∧∃ p:List UInt8,y=(p,p.length,((l.length:Nat):Int),false)∧p.length≤o.length + 221 * l.length:=by
  refine Vq (I:=fun v=>∃ (k:Nat) (p:List UInt8),k≤l.length∧v=(p,p.length,(k:Int))∧p.length≤o.length + 221 * k) (fun v=>l.length - v.2.2.toNat) ?_ N _ ⟨0,o,Nat.zero_le _,rfl,by omega⟩ (by have:=big N; simp; omega)
  rintro v ⟨k,p,hk,rfl,hp⟩
  by_cases h:k < l.length
  ·left
   obtain ⟨r,er,hr⟩:=qPg (N:=N) (hc k h)
   have h64:qt ((k:Int) + 1):=by unfold qt; omega
   have l1:(p++[UInt8.ofNat (IntKind.u8.wrap (qc.No (l.getD k zF))).toNat]).length=p.length + 1:=by rw [List.length_append]; rfl
   have l2:((p++[UInt8.ofNat (IntKind.u8.wrap (qc.No (l.getD k zF))).toNat])++r.1).length=p.length + 1 + r.1.length:=by rw [List.length_append,l1]
   refine ⟨((p++[UInt8.ofNat (IntKind.u8.wrap (qc.No (l.getD k zF))).toNat])++r.1,((p++[UInt8.ofNat (IntKind.u8.wrap (qc.No (l.getD k zF))).toNat])++r.1).length,((k + 1:Nat):Int)),?_,⟨k + 1,_,h,rfl,by rw [l2]; omega⟩,by simp only [Int.toNat_natCast]; omega⟩
   unfold KX
   rw [qF,dec_lt h,cond_true,run_bind,zY (d:=zF) h,Option.bind_some,run_bind,er,Option.bind_some,qS,qg (qib _),qS,qg (qfs (by rw [l1]; omega)),qS,qg (qfs (by rw [l2]; omega)),qS,qg h64,qP,zd]
  ·right
   obtain rfl:k=l.length:=by omega
   refine ⟨(p,p.length,((l.length:Nat):Int),false),_,?_,rfl,p,rfl,hp⟩
   unfold KX
   rw [qF,zp (Nat.lt_irrefl _),cond_false,qP]
 obtain ⟨y,e,p,rfl,hp⟩:=key
 exact ⟨p,e,hp⟩
theorem qPu {R : List qa} (h10 : R.length ≤ 10) (hr : ∀ k, k < R.length → jb (R.getD k zR) = true) {o : List UInt8} (ho : o.length ≤ 10) :
    ∃ p:List UInt8,qjc N R ((R.length:Nat):Int) o o.length 0=some (p,p.length,((R.length:Nat):Int),false)∧p.length≤30000:=by
 have key:∃ y,qY (qba N R ((R.length:Nat):Int)) some N (o,o.length,((0:Nat):Int))=some y∧∃ p:List UInt8,y=(p,p.length,((R.length:Nat):Int),false)∧p.length≤30000:=by
  refine Vq (I:=fun v=>∃ (k:Nat) (p:List UInt8),k≤R.length∧v=(p,p.length,(k:Int))∧p.length≤10 + 2000 * k) (fun v=>R.length - v.2.2.toNat) ?_ N _ ⟨0,o,Nat.zero_le _,rfl,by omega⟩ (by have:=big N; simp; omega)
  rintro v ⟨k,p,hk,rfl,hp⟩
  by_cases h:k < R.length
  ·left
   have hrec:=hr k h
   have h8:=Yj hrec
   obtain ⟨s,es,hs⟩:=qMB (N:=N) (R.getD k zR).qB
   obtain ⟨w,ew,hw⟩:=qmS (N:=N) (wrap64_in (((R.getD k zR).F.length:Nat):Int)).1 (wrap64_in (((R.getD k zR).F.length:Nat):Int)).2
   have h64:qt ((k:Int) + 1):=by unfold qt; omega
   have l1:(p++(R.getD k zR).ID.toList).length=p.length + 16:=by rw [List.length_append]; simp
   have l2:(p++(R.getD k zR).ID.toList++s.1).length=p.length + 16 + s.1.length:=by rw [List.length_append,l1]
   have l3:(p++(R.getD k zR).ID.toList++s.1++w).length=p.length + 16 + s.1.length + w.length:=by rw [List.length_append,l2]
   obtain ⟨q,eq,hq⟩:=qNa (N:=N) (l:=(R.getD k zR).F) (R:=R) (s23:=((R.length:Nat):Int)) (s24:=(k:Int)) h8 (fun j hj=>(ZS.1 ((Jw.1 hrec).2.2 j hj)).2.2.1) (o:=p++(R.getD k zR).ID.toList++s.1++w) (by rw [l3]; omega)
   refine ⟨(q,q.length,((k + 1:Nat):Int)),?_,⟨k + 1,q,h,rfl,by rw [l3] at hq; omega⟩,by simp only [Int.toNat_natCast]; omega⟩
   unfold qba
   rw [qF,dec_lt h,cond_true,run_bind,zY (d:=zR) h,Option.bind_some,run_bind,es,Option.bind_some,qS,qg (qfs (by rw [l1]; omega)),qS,qg (qfs (by rw [l2]; omega))]
   show Option.bind (Jy N (IntKind.u64.wrap (((R.getD k zR).F.length:Nat):Int))) _=_
   rw [ew,Option.bind_some,qS,qg rfl,qS,qg (qfs (by rw [l3]; omega)),run_bind,eq,Option.bind_some,qS,qg h64,qP,zd]
  ·right
   obtain rfl:k=R.length:=by omega
   refine ⟨(p,p.length,((R.length:Nat):Int),false),_,?_,rfl,p,rfl,by omega⟩
   unfold qba
   rw [qF,zp (Nat.lt_irrefl _),cond_false,qP]
 obtain ⟨y,e,p,rfl,hp⟩:=key
 exact ⟨p,e,hp⟩
def vF (N:Nat) (b:qb):Prop:=b.R.length < N∧b.R.length≤4611686018427387904∧∀ k,k < b.R.length→(b.R.getD k zR).F.length < N∧(b.R.getD k zR).F.length≤4611686018427387904
theorem qhu {b:qb} (h:vF N b):Wm N b=some (zS b):=qPE h.1 h.2.1 h.2.2
theorem qPR {b:qb} (hf:vF N b) (h:zS b=true):∃ p:List UInt8,qjZ N b=some (p,true)∧p.length≤30000:=by
 have hb:=qak.1 h
 obtain ⟨w,ew,hw⟩:=qmS (N:=N) (wrap64_in ((b.R.length:Nat):Int)).1 (wrap64_in ((b.R.length:Nat):Int)).2
 obtain ⟨p,ep,hp⟩:=qPu (N:=N) hb.2 (fun k hk=>(hb.1 k hk).1) hw
 refine ⟨p,?_,hp⟩
 unfold qjZ qld
 rw [run_bind,qhu hf,h,Option.bind_some,qF,Bool.not_true,cond_false]
 show Option.bind (Jy N (IntKind.u64.wrap ((b.R.length:Nat):Int))) _=_
 rw [ew,Option.bind_some,run_bind,ep,Option.bind_some,qS,qg rfl,qP]
theorem qQu {b:qb} (hf:vF N b) (h:zS b=true):∃ D:Vector UInt8 32,qa1 N b=some D:=by
 obtain ⟨p,e,hp⟩:=qPR hf h
 refine ⟨zK p,?_⟩
 unfold qa1 qe0
 have hs:W6 N p=some (zK p):=qD2 (by omega) (by have:=big N; omega)
 rw [run_bind,e,Option.bind_some,run_bind]
 show Option.bind (W6 N p) _=_
 rw [hs,Option.bind_some,qP]
theorem qiW {l:List UInt8} (h:l.length≤50000):qaq N l=some (zK l):=by
 unfold qaq qnQ
 rw [qS,qg (show qkq l.length by unfold qkq; omega),run_bind,qD2 (by omega) (by have:=big N; omega),Option.bind_some,qP]
def qv9 (l:List UInt8) (k:Nat) (s:Int×Int):Int×Int:=(Wv .u16 s.1 (IntKind.u16.wrap (((l.getD k 0).toNat:Nat):Int)),Wv .u16 s.2 (Wv .u16 s.1 (IntKind.u16.wrap (((l.getD k 0).toNat:Nat):Int))))
def qOG (l:List UInt8):Int:=uOr .u32 (qes .u32 (IntKind.u32.wrap (ZH (qv9 l) l.length 0 (0,0)).2) 16) (IntKind.u32.wrap (ZH (qv9 l) l.length 0 (0,0)).1)
theorem qPN {l:List UInt8} (h:l.length≤50000):qnz N l=some (qOG l):=by
 have key:qlg N l ((l.length:Nat):Int) 0 0 0=some ((ZH (qv9 l) l.length 0 (0,0)).1,(ZH (qv9 l) l.length 0 (0,0)).2,((l.length:Nat):Int),false):=by
  refine (jY (σ:=Int×Int) (B:=qcy N l ((l.length:Nat):Int)) (g:=some) (at_:=fun k s=>(s.1,s.2,(k:Int))) (I:=fun _ _=>True) (f:=qv9 l) (n:=l.length)
   (fin:=fun s=>(s.1,s.2,((l.length:Nat):Int),false)) (fun k s hk _=>⟨?_,trivial⟩) (fun s _=>?_) N 0 (0,0) trivial (Nat.zero_le _) (by have:=big N; omega))
  ·have h64:qt ((k:Int) + 1):=by unfold qt; omega
   unfold qcy
   rw [qF,dec_lt hk,cond_true,run_bind,zY (d:=0) hk,Option.bind_some]
   show chk (qt ((k:Int) + 1)) _=_
   rw [qg h64,zd]
   rfl
  ·unfold qcy
   rw [qF,zp (Nat.lt_irrefl _),cond_false,qP]
 unfold qnz qoD qqw qlr
 rw [run_bind,key,Option.bind_some,run_bind,qS,qg (by omega)]
 rfl
def qi8 (l:List UInt8):ze:=ze.mk (qOG l) (zK l)
theorem qP6 {l:List UInt8} (h:l.length≤50000):qoO N l=some (qi8 l):=by
 unfold qoO qm1
 rw [run_bind,qPN h,Option.bind_some,run_bind,qiW h,Option.bind_some,qP]
 rfl
def qq7:Nat→List UInt8→List ze
 | 0,_=>[]
 | m + 1,l=>qi8 (l.take 8)::qq7 m (l.drop 8)
theorem qvo:∀ (m:Nat) (l:List UInt8),(qq7 m l).length=m
 | 0,_=>rfl
 | m + 1,l=>by unfold qq7; rw [List.length_cons,qvo m]
def qvc (l:List UInt8):List ze:=if l.length < 24 then [] else qq7 (l.length / 8) l
theorem qLc:∀ (m n:Nat) (l:List UInt8) (acc:List ze),l.length / 8=m→l.length≤50000→acc.length + m≤50000→m < n→∃ r,qY (qex N) some n (acc,l)=some (acc++qq7 m l,r,false)
 | 0,n + 1,l,acc,hm,_,_,_=>by
  have d:decide ((8:Int)≤((l.length:Nat):Int))=false:=decide_eq_false (by omega)
  refine ⟨l,?_⟩
  rw [zV (x:=(acc,l,false)) (by unfold qex; rw [qF,d,cond_false,qP]) n]
  show some (acc,l,false)=some (acc++[],l,false)
  rw [List.append_nil]
 | m + 1,n + 1,l,acc,hm,hl,ha,hn=>by
  have d:decide ((8:Int)≤((l.length:Nat):Int))=true:=decide_eq_true (by omega)
  have c1:(0:Int)≤0∧(0:Int)≤8∧(8:Int)≤((l.length:Nat):Int):=by omega
  have c2:(0:Int)≤8∧(8:Int)≤((l.length:Nat):Int):=by omega
  have ht:(l.take 8).length≤50000:=by rw [List.length_take]; omega
  have hacc:(acc++[qi8 (l.take 8)]).length=acc.length + 1:=by rw [List.length_append]; rfl
  have cav:jx acc.length acc.length (acc++[qi8 (l.take 8)]).length 36:=⟨rfl,by rw [hacc]; unfold zc; omega⟩
  obtain ⟨r,e⟩:=qLc m n (l.drop 8) (acc++[qi8 (l.take 8)]) (by rw [List.length_drop]; omega) (by rw [List.length_drop]; omega) (by rw [hacc]; omega) (by omega)
  refine ⟨r,?_⟩
  rw [J1 (v':=(acc++[qi8 (l.take 8)],l.drop 8)) (by
   unfold qex
   rw [qF,d,cond_true,qS,qg c1,run_bind,List.drop_zero,qP6 ht,Option.bind_some,qS,qg cav,qS,qg c2,qP]) n,e]
  show some (acc++[qi8 (l.take 8)]++qq7 m (l.drop 8),r,false)=some (acc++qq7 (m + 1) l,r,false)
  rw [List.append_assoc]
  rfl
 | _,0,_,_,_,_,_,hn=>by omega
theorem qKz {l:List UInt8} (h:l.length≤50000):qsy N l=some (qvc l):=by
 unfold qsy qqY qvc
 by_cases h24:l.length < 24
 ·have d:decide (((l.length:Nat):Int) < 24)=true:=decide_eq_true (by omega)
  rw [qF,d,cond_true,qP,if_pos h24]
 ·have d:decide (((l.length:Nat):Int) < 24)=false:=decide_eq_false (by omega)
  obtain ⟨r,e⟩:=qLc (N:=N) (l.length / 8) N l [] rfl h (by simp; omega) (by have:=big N; omega)
  have e':zO [(([]:List ze).length,0)] (qm7 N [] l)=some ([]++qq7 (l.length / 8) l,r,false):=(zj rfl).trans e
  rw [qF,d,cond_false,if_neg h24,run_bind,e',Option.bind_some,qS,qg rfl,qP]
  rfl
def Zw (f:qc):qn:=qn.mk f.No f.C.S ((f.C.V.length:Nat):Int) (zK f.C.V) (qvc f.C.V)
def z_ (r:qa):ql:=ql.mk r.ID r.qB (r.F.map Zw)
theorem qRc {l : List qc} (h8 : l.length ≤ 8) (hc : ∀ k, k < l.length → XC (l.getD k zF).C = true) (o1 o2 : List ql) (o3 o4 : Vector UInt8 32) (o5 : Vector UInt8 16) (o6 : qd) (R : List qa) (s20 s21 : Int) :
    qbh N o1 o2 o3 o4 o5 o6 R s20 s21 l ((l.length:Nat):Int) [] 0=some (l.map Zw,((l.length:Nat):Int),false):=by
 have key:∃ y,qY (YC N o1 o2 o3 o4 o5 o6 R s20 s21 l ((l.length:Nat):Int)) some N ([],((0:Nat):Int))=some y∧y=(l.map Zw,((l.length:Nat):Int),false):=by
  refine Vq (I:=fun v=>∃ k:Nat,k≤l.length∧v=((l.take k).map Zw,(k:Int))) (fun v=>l.length - v.2.toNat) ?_ N _ ⟨0,Nat.zero_le _,rfl⟩ (by have:=big N; simp; omega)
  rintro v ⟨k,hk,rfl⟩
  by_cases h:k < l.length
  ·left
   have hV:(l.getD k zF).C.V.length≤50000:=by have:=qiL (hc k h); omega
   have h64:qt ((k:Int) + 1):=by unfold qt; omega
   have el:(l.take (k + 1)).map Zw=(l.take k).map Zw++[Zw (l.getD k zF)]:=by
    rw [List.take_succ_eq_append_getElem h,List.map_append,List.getD_eq_getElem?_getD,List.getElem?_eq_getElem h]; rfl
   have hlen:((l.take k).map Zw++[Zw (l.getD k zF)]).length≤8:=by rw [← el,List.length_map,List.length_take]; omega
   have cav:jx ((l.take k).map Zw).length ((l.take k).map Zw).length ((l.take k).map Zw++[Zw (l.getD k zF)]).length 88:=⟨rfl,by unfold zc; omega⟩
   refine ⟨((l.take (k + 1)).map Zw,((k + 1:Nat):Int)),?_,⟨k + 1,h,rfl⟩,by simp only [Int.toNat_natCast]; omega⟩
   unfold YC
   rw [qF,dec_lt h,cond_true,run_bind,zY (d:=zF) h,Option.bind_some,run_bind,qiW hV,Option.bind_some,run_bind,qKz hV,Option.bind_some,qS,el]
   show chk (jx ((l.take k).map Zw).length ((l.take k).map Zw).length ((l.take k).map Zw++[Zw (l.getD k zF)]).length 88) _=_
   rw [qg cav,qS,qg h64,qP,zd]
   rfl
  ·right
   obtain rfl:k=l.length:=by omega
   refine ⟨(l.map Zw,((l.length:Nat):Int),false),_,?_,rfl,rfl⟩
   unfold YC
   rw [qF,zp (Nat.lt_irrefl _),cond_false,qP,List.take_of_length_le (Nat.le_refl _)]
 obtain ⟨y,e,rfl⟩:=key
 exact e
theorem qRh {R : List qa} (h10 : R.length ≤ 10) (hr : ∀ k, k < R.length → jb (R.getD k zR) = true) (o1 : List ql) (o3 o4 : Vector UInt8 32) (ho : o1 = []) :
    qbg N o1 o3 o4 R ((R.length:Nat):Int) [] 0=some (R.map z_,((R.length:Nat):Int),false):=by
 have key:∃ y,qY (Y8 N o1 o3 o4 R ((R.length:Nat):Int)) some N ([],((0:Nat):Int))=some y∧y=(R.map z_,((R.length:Nat):Int),false):=by
  refine Vq (I:=fun v=>∃ k:Nat,k≤R.length∧v=((R.take k).map z_,(k:Int))) (fun v=>R.length - v.2.toNat) ?_ N _ ⟨0,Nat.zero_le _,rfl⟩ (by have:=big N; simp; omega)
  rintro v ⟨k,hk,rfl⟩
  by_cases h:k < R.length
  ·left
   have hrec:=hr k h
   have h64:qt ((k:Int) + 1):=by unfold qt; omega
   have el:(R.take (k + 1)).map z_=(R.take k).map z_++[z_ (R.getD k zR)]:=by
    rw [List.take_succ_eq_append_getElem h,List.map_append,List.getD_eq_getElem?_getD,List.getElem?_eq_getElem h]; rfl
   have hlen:((R.take k).map z_++[z_ (R.getD k zR)]).length≤10:=by rw [← el,List.length_map,List.length_take]; omega
   have cav:jx ((R.take k).map z_).length ((R.take k).map z_).length ((R.take k).map z_++[z_ (R.getD k zR)]).length 56:=⟨rfl,by unfold zc; omega⟩
   have e9:=qRc (N:=N) (Yj hrec) (fun j hj=>(ZS.1 ((Jw.1 hrec).2.2 j hj)).2.2.1) o1 ((R.take k).map z_) o3 o4 (R.getD k zR).ID (R.getD k zR).qB R ((R.length:Nat):Int) (k:Int)
   refine ⟨((R.take (k + 1)).map z_,((k + 1:Nat):Int)),?_,⟨k + 1,h,rfl⟩,by simp only [Int.toNat_natCast]; omega⟩
   unfold Y8
   rw [qF,dec_lt h,cond_true,run_bind,zY (d:=zR) h,Option.bind_some,run_bind]
   rw [show zO [(o1.length,o1.length),(((R.take k).map z_,(k:Int)).1.length,((R.take k).map z_,(k:Int)).1.length),(([]:List qn).length,0)] (qbh N o1 ((R.take k).map z_,(k:Int)).1 o3 o4 (qa.ID (R.getD k zR)) (qa.qB (R.getD k zR)) R ((R.length:Nat):Int) ((R.take k).map z_,(k:Int)).2 (qa.F (R.getD k zR)) (((qa.F (R.getD k zR)).length:Nat):Int) [] 0)=some ((R.getD k zR).F.map Zw,(((R.getD k zR).F.length:Nat):Int),false) from (zj rfl).trans ((zj rfl).trans ((zj rfl).trans e9)),Option.bind_some,qS,qg rfl,qS,el]
   show chk (jx ((R.take k).map z_).length ((R.take k).map z_).length ((R.take k).map z_++[z_ (R.getD k zR)]).length 56) _=_
   rw [qg cav,qS,qg h64,qP,zd]
   rfl
  ·right
   obtain rfl:k=R.length:=by omega
   refine ⟨(R.map z_,((R.length:Nat):Int),false),_,?_,rfl,rfl⟩
   unfold Y8
   rw [qF,zp (Nat.lt_irrefl _),cond_false,qP,List.take_of_length_le (Nat.le_refl _)]
 obtain ⟨y,e,rfl⟩:=key
 exact e
theorem qRl {b:qb} (hf:vF N b) (h:zS b=false):Wr N b=some (qp.mk (Vector.replicate 32 0) [],false):=by
 unfold Wr qcK
 rw [run_bind,qhu hf,h,Option.bind_some,qF,Bool.not_false,cond_true,qS,qg rfl,qP]
theorem qP9 {b:qb} (hf:vF N b) (h:zS b=true) {D:Vector UInt8 32} (hD:qa1 N b=some D):Wr N b=some (qp.mk D (b.R.map z_),true):=by
 have hb:=qak.1 h
 have e5:=qRh (N:=N) hb.2 (fun k hk=>(hb.1 k hk).1) [] (Vector.replicate 32 0) D rfl
 unfold Wr qcK
 rw [run_bind,qhu hf,h,Option.bind_some,qF,Bool.not_true,cond_false,run_bind,hD,Option.bind_some,run_bind]
 rw [show zO [(([]:List ql).length,0),(([]:List ql).length,0)] (qbg N [] (Vector.replicate 32 0) D (qb.R b) (((qb.R b).length:Nat):Int) [] 0)=some (b.R.map z_,((b.R.length:Nat):Int),false) from (zj rfl).trans ((zj rfl).trans e5),Option.bind_some,qS,qg rfl,qP]
end n
end Go.Rx
end
noncomputable section
namespace Go.Rx
section
variable {α R:Type} {n:α→Option R} {y:Option R}
theorem qU {a:α} (h:n a=y):(Tree.ret a).run n=y:=h
theorem q9 {p:Prop} [Decidable p] {t:Tree α} (h:p) (ht:t.run n=y):(Tree.chk p t).run n=y:=(qg h).trans ht
theorem qy {β:Type} {o:Option β} {k:β→Tree α} {x:β} (h:o=some x) (ht:(k x).run n=y):(Tree.bind o k).run n=y:=by subst h; exact ht
theorem w_t {b:Bool} {s t:Tree α} (h:b=true) (hs:s.run n=y):(Tree.cond b s t).run n=y:=by subst h; exact hs
theorem w_f {b:Bool} {s t:Tree α} (h:b=false) (ht:t.run n=y):(Tree.cond b s t).run n=y:=by subst h; exact ht
theorem qCy {β:Type} {o:Option β} {s:Tree α} {k:β→Tree α} (h:o=none) (hs:s.run n=y):(Tree.opt o s k).run n=y:=by subst h; exact hs
theorem qw0 {β:Type} {o:Option β} {s:Tree α} {k:β→Tree α} {x:β} (h:o=some x) (hk:(k x).run n=y):(Tree.opt o s k).run n=y:=by subst h; exact hk
theorem w_l {β γ:Type} {z:β⊕γ} {f:β→Tree α} {g:γ→Tree α} {x:β} (h:z=.inl x) (hk:(f x).run n=y):(Tree.sum z f g).run n=y:=by subst h; exact hk
theorem w_r {β γ:Type} {z:β⊕γ} {f:β→Tree α} {g:γ→Tree α} {x:γ} (h:z=.inr x) (hk:(g x).run n=y):(Tree.sum z f g).run n=y:=by subst h; exact hk
theorem qm9 {b:Bool} {s t:Tree α} {c:Bool} (h:b=c) (hs:c=true→s.run n=y) (ht:c=false→t.run n=y):(Tree.cond b s t).run n=y:=by
 subst h; cases b
 ·exact ht rfl
 ·exact hs rfl
end
theorem jz {k:Nat} (h:k≤4611686018427387904):qt ((k:Int) + 1):=by unfold qt; omega
end Go.Rx
end
set_option maxRecDepth 100000
noncomputable section
namespace Go.Rx
open Go.Proofs
open Go.Lib (compareBytes)
theorem qGo:∀ l:List UInt8,compareBytes l l=0
 | []=>rfl
 | x::l=>by
  unfold compareBytes
  rw [if_neg (UInt8.lt_irrefl x),if_neg (UInt8.lt_irrefl x)]
  exact qGo l
theorem qCk:∀ a b c:List UInt8,compareBytes a b < 0→compareBytes b c < 0→compareBytes a c < 0
 | [],[],_,h,_=>by simp [compareBytes] at h
 | [],_::_,[],_,h=>by simp [compareBytes] at h
 | [],_::_,_::_,_,_=>by simp [compareBytes]
 | _::_,[],_,h,_=>by simp [compareBytes] at h
 | _::_,_::_,[],_,h=>by simp [compareBytes] at h
 | x::a,y::b,z::c,h1,h2=>by
  unfold compareBytes at h1 h2 ⊢
  simp only [UInt8.lt_iff_toNat_lt] at h1 h2 ⊢
  by_cases hxy:x.toNat < y.toNat
  ·by_cases hyz:y.toNat < z.toNat
   ·rw [if_pos (by omega)]; decide
   ·rw [if_neg hyz] at h2
    by_cases hzy:z.toNat < y.toNat
    ·rw [if_pos hzy] at h2; simp at h2
    ·rw [if_pos (by omega)]; decide
  ·rw [if_neg hxy] at h1
   by_cases hyx:y.toNat < x.toNat
   ·rw [if_pos hyx] at h1; simp at h1
   ·rw [if_neg hyx] at h1
    by_cases hyz:y.toNat < z.toNat
    ·rw [if_pos (by omega)]; decide
    ·rw [if_neg hyz] at h2
     by_cases hzy:z.toNat < y.toNat
     ·rw [if_pos hzy] at h2; simp at h2
     ·rw [if_neg hzy] at h2
      rw [if_neg (by omega),if_neg (by omega)]
      exact qCk a b c h1 h2
theorem qLg:∀ a b:List UInt8,(compareBytes a b < 0∧compareBytes b a > 0)∨a=b∨(compareBytes b a < 0∧compareBytes a b > 0)
 | [],[]=>.inr (.inl rfl)
 | [],_::_=>.inl ⟨by simp [compareBytes],by simp [compareBytes]⟩
 | _::_,[]=>.inr (.inr ⟨by simp [compareBytes],by simp [compareBytes]⟩)
 | x::a,y::b=>by
  unfold compareBytes
  by_cases h:x < y
  ·have h':¬ y < x:=fun h'=>by rw [UInt8.lt_iff_toNat_lt] at h h'; omega
   rw [if_pos h,if_neg h',if_pos h]
   exact .inl ⟨by omega,by omega⟩
  ·by_cases h':y < x
   ·rw [if_neg h,if_pos h',if_pos h']
    exact .inr (.inr ⟨by omega,by omega⟩)
   ·rw [if_neg h,if_neg h',if_neg h',if_neg h]
    have e:x=y:=by
     apply UInt8.toNat_inj.1
     rw [UInt8.lt_iff_toNat_lt] at h h'; omega
    subst e
    rcases qLg a b with h1 | h1 | h1
    ·exact .inl h1
    ·exact .inr (.inl (by rw [h1]))
    ·exact .inr (.inr h1)
theorem qMw {n:Nat} (h:n < 18446744073709551616):IntKind.u64.wrap ((n:Nat):Int)=((n:Nat):Int):=by
 have:IntKind.u64.wrap (n:Int)=(n:Int) % 18446744073709551616:=by simp [IntKind.wrap,IntKind.bits,IntKind.signed]
 rw [this]; omega
def ltB (a b:List UInt8):Bool:=decide (compareBytes a b < 0)
theorem XP (a:List UInt8):ltB a a=false:=by unfold ltB; rw [qGo]; rfl
theorem qJJ {a b c:List UInt8} (h1:ltB a b=true) (h2:ltB b c=true):ltB a c=true:=decide_eq_true (qCk a b c (of_decide_eq_true h1) (of_decide_eq_true h2))
theorem qhX (a b:List UInt8):(ltB a b=true∧ltB b a=false)∨a=b∨(ltB b a=true∧ltB a b=false):=by
 rcases qLg a b with h | h | h
 ·exact .inl ⟨decide_eq_true h.1,decide_eq_false (by omega)⟩
 ·exact .inr (.inl h)
 ·exact .inr (.inr ⟨decide_eq_true h.1,decide_eq_false (by omega)⟩)
theorem qwF:∀ a b:List UInt8,Op.bytesLess a b=ltB a b
 | [],[]=>rfl
 | [],_::_=>rfl
 | _::_,[]=>rfl
 | x::a,y::b=>by
  have ih:=qwF a b
  unfold Op.bytesLess
  rw [ih]
  unfold ltB
  rw [show compareBytes (x::a) (y::b)=if x < y then -1 else if y < x then 1 else compareBytes a b from rfl]
  by_cases h:x < y
  ·rw [if_pos h,decide_eq_true h]; rfl
  ·rw [if_neg h,decide_eq_false h,Bool.false_or]
   by_cases h':y < x
   ·rw [if_pos h']
    have:(x == y)=false:=by
     rw [beq_eq_false_iff_ne]
     intro e; subst e; exact h h'
    rw [this]; rfl
   ·have e : x = y := by
       apply UInt8.toNat_inj.1
       rw [UInt8.lt_iff_toNat_lt] at h h'; omega
    subst e
    rw [if_neg h]
    simp
theorem qsi (a b:Vector UInt8 16):lbB a b=ltB a.toList b.toList:=by
 unfold lbB
 by_cases h:a=b
 ·subst h; rw [decide_eq_true rfl,XP]; rfl
 ·rw [decide_eq_false h]; rfl
def ltD (a b:Vector UInt8 32):Bool:=ltB a.toList b.toList
theorem eqD (a b:Vector UInt8 32):eqE (.ba 32) a b=decide (a=b):=Bool.eq_iff_iff.2 ((Zm (.ba 32) a b).trans (decide_eq_true_iff (p:=(a:Vector UInt8 32)=b)).symm)
def Qc (a b:qe):Bool:=if a.S=b.S then (if zK a.V=zK b.V then ltB a.V b.V else ltD (zK a.V) (zK b.V)) else slB a.S b.S
def cJ (a b:qe):qe:=if Qc a b=true then b else a
def mxS (a b:qd):qd:=if slB a b=true then b else a
theorem KJ (a b:qd):(slB a b=true∧slB b a=false)∨a=b∨(slB b a=true∧slB a b=false):=by
 obtain ⟨a1,a2⟩:=a
 obtain ⟨b1,b2⟩:=b
 unfold slB
 simp only [decide_eq_true_iff,decide_eq_false_iff_not,Prod.mk.injEq]
 omega
theorem Qv (a:qd):slB a a=false:=by
 unfold slB
 exact decide_eq_false (by omega)
theorem qgj {a b c:qd} (h1:slB a b=true) (h2:slB b c=true):slB a c=true:=by
 unfold slB at *
 rw [decide_eq_true_iff] at *
 omega
end Go.Rx
end
set_option maxRecDepth 100000
noncomputable section
namespace Go.Rx
open Go.Proofs
theorem qMn {α:Type} {x:Option α} [Decidable True]:chk True x=x:=if_pos trivial
theorem qEa {n:Nat} [Decidable (((n:Nat):Int) < ((n:Nat):Int))]:decide (((n:Nat):Int) < ((n:Nat):Int))=false:=decide_eq_false (Int.lt_irrefl _)
theorem qKn {l:List ze} (h:l.length≤1000000):Z1 l=some ():=by
 unfold Z1
 cases l with
 | nil=>kernel_rfl
 | cons x r=>
  show qcW (x::r)=_
  unfold qcW qaF
  have h2:jx ([]:List ze).length 0 ([]++x::r).length 36:=⟨rfl,by rw [List.nil_append]; unfold zc; omega⟩
  simp only [Tree.run,qg h2,List.isEmpty_cons,qMn]
theorem qJy {l:List qn} (h:l.length≤1000000):QW l=some ():=by
 unfold QW
 cases l with
 | nil=>kernel_rfl
 | cons x r=>
  show qaf (x::r)=_
  unfold qaf YI
  have h2:jx ([]:List qn).length 0 ([]++x::r).length 88:=⟨rfl,by rw [List.nil_append]; unfold zc; omega⟩
  simp only [Tree.run,qg h2,List.isEmpty_cons,qMn]
theorem qLJ {α:Type} {l:List α} {k:Nat} {d:α} (h:k < l.length):l.set k (l.getD k d)=l:=by
 rw [List.getD_eq_getElem?_getD,List.getElem?_eq_getElem h]; simp
section n
variable {N:Nat} [JA N]
theorem qQN {x:ql} (h12:x.F.length≤12) (hB:∀ j,j < x.F.length→(x.F.getD j zE).B.length≤40):qdA N x=some x:=by
 unfold qdA qfb
 have key:qeq N [] x.ID x.qB x.F.length (Vector.replicate 16 0) (qd.mk 0 0) ((x.F.length:Nat):Int) x.F 0=some (x.F,((x.F.length:Nat):Int),false):=by
  refine (jY (σ:=Unit) (B:=WJ N [] x.ID x.qB x.F.length (Vector.replicate 16 0) (qd.mk 0 0) ((x.F.length:Nat):Int)) (g:=some) (at_:=fun k _=>(x.F,(k:Int))) (I:=fun _ _=>True) (f:=fun _ s=>s) (n:=x.F.length)
   (fin:=fun _=>(x.F,((x.F.length:Nat):Int),false)) (fun k s hk _=>⟨?_,trivial⟩) (fun s _=>?_) N 0 () trivial (Nat.zero_le _) (by have:=big N; omega))
  ·unfold WJ
   have c1:(0:Int)≤(k:Int)∧(k:Int) < ((x.F.length:Nat):Int):=by omega
   have h64:qt ((k + 1:Nat):Int):=qsm (by omega)
   have hb:=hB k hk
   simp only [Tree.run,dec_lt hk,cond_true,qg c1,Int.toNat_natCast,qi7 (d:=zE) rfl hk,Option.bind_some,qKn (show (x.F.getD k zE).B.length≤1000000 by omega),zd,qg h64,List.nil_append]
   have e:qn.mk (x.F.getD k zE).No (x.F.getD k zE).S (x.F.getD k zE).Len (x.F.getD k zE).D (x.F.getD k zE).B=x.F.getD k zE:=rfl
   rw [e,qLJ hk]
  ·unfold WJ
   simp only [Tree.run,qEa,cond_false]
 simp only [Tree.run,qJy (show x.F.length≤1000000 by omega),Option.bind_some,List.nil_append,List.length_nil,zj,qz0,key,qMn]
 rfl
def qvP (l:List ql) (id:Vector UInt8 16):Option Nat:=Qo (fun k=>decide ((l.getD k zL).ID=id)) l.length 0
def qpS (l:List qn) (no:Int):Option Nat:=Qo (fun k=>decide ((l.getD k zE).No=no)) l.length 0
def qQZ:Option Nat→Int
 | some i=>(i:Int)
 | none=>-1
def vY (m:qp) (id:Vector UInt8 16):ql×Bool:=match qvP m.L id with
 | some i=>(m.L.getD i zL,true)
 | none=>(zL,false)
theorem qKp {l:List ql} {id:Vector UInt8 16} (h:l.length≤600):Vi N id l=some (qQZ (qvP l id)):=by
 have key:=qj4 (B:=vI N id l ((l.length:Nat):Int)) (g:=some) (p:=fun k=>decide ((l.getD k zL).ID=id)) (n:=l.length) (hit:=fun k=>.inl (k:Int)) (fin:=.inr (((l.length:Nat):Int),false)) (fun k hk=>by
  unfold vI qdB qbV
  have h64:qt ((k + 1:Nat):Int):=qsm (by omega)
  simp only [Tree.run,dec_lt hk,cond_true,zY (d:=zL) hk,Option.bind_some,zd,qg h64,qM0]
  cases decide ((l.getD k zL).ID=id)<;>rfl) (by
  unfold vI
  simp only [Tree.run,qEa,cond_false]) N 0 (Nat.zero_le _) (by have:=big N; omega)
 have e:Xf N id l ((l.length:Nat):Int) 0=qY (vI N id l ((l.length:Nat):Int)) some N ((0:Nat):Int):=rfl
 unfold Vi XD
 simp only [Tree.run]
 rw [e,key,Nat.sub_zero]
 unfold qvP
 cases Qo (fun k=>decide ((l.getD k zL).ID=id)) l.length 0<;>rfl
theorem qp1 {p:Nat→Bool} {n i:Nat} (h:Qo p n 0=some i):i < n∧p i=true:=by
 obtain ⟨h1,_,h2,_⟩:=qlk h
 exact ⟨by omega,h1⟩
section f
variable {m:qp} (hf:qDw m=true)
include hf
theorem qEQ (id:Vector UInt8 16):Ke N m id=some (vY m id):=by
 obtain ⟨h14,hF⟩:=qr_.1 hf
 unfold Ke qep vY
 simp only [Tree.run,qKp (show m.L.length≤600 by omega),Option.bind_some]
 cases e:qvP m.L id with
 | none=>rfl
 | some i=>
  have hi:=(qp1 e).1
  have hx:=hF i hi
  have hn:¬ (((i:Nat):Int) < 0):=by omega
  show (bif decide (((i:Nat):Int) < 0) then _ else _)=_
  rw [decide_eq_false hn]
  show ((zk _ ((i:Nat):Int)).bind _)=_
  simp only [ zY (d:=zL) hi,Option.bind_some,qQN hx.1 hx.2]
theorem qJk (id:Vector UInt8 16):(vY m id).1.F.length≤12∧∀ j,j < (vY m id).1.F.length→((vY m id).1.F.getD j zE).B.length≤40:=by
 obtain ⟨h14,hF⟩:=qr_.1 hf
 unfold vY
 cases e:qvP m.L id with
 | none=>exact ⟨Nat.zero_le _,fun j hj=>absurd hj (Nat.not_lt_zero _)⟩
 | some i=>exact hF i (qp1 e).1
end f
end n
end Go.Rx
end
set_option maxRecDepth 100000
noncomputable section
namespace Go.Rx
open Go.Proofs
section n
variable {N:Nat} [JA N]
theorem qOX (r:qa):∃ b,Ze N r=some b:=by
 unfold Ze qaO
 by_cases h:r.F.length≤12
 ·have d:decide ((12:Int) < ((r.F.length:Nat):Int))=false:=decide_eq_false (by omega)
  have key:KL N r 0=some (if vW (fun k=>decide ((r.F.getD k zF).C.V.length≤300)) r.F.length then .inr (((r.F.length:Nat):Int),false) else .inl ()):=by
   refine X4 (B:=J4 N r) (g:=some) (q:=fun k=>decide ((r.F.getD k zF).C.V.length≤300)) (fun k hk=>?_) ?_ (by have:=big N; omega)
   ·unfold J4
    have e:decide ((300:Int) < (((r.F.getD k zF).C.V.length:Nat):Int))=!decide ((r.F.getD k zF).C.V.length≤300):=qMr (c:=300)
    rw [qF,dec_lt hk,cond_true,run_bind,zY (d:=zF) hk,Option.bind_some,qF,qP,e,qS,qg (show qt ((k:Int) + 1) by unfold qt; omega),qP,zd]
    cases decide ((r.F.getD k zF).C.V.length≤300)<;>rfl
   ·unfold J4
    rw [qF,zp (Nat.lt_irrefl _),cond_false,qP]
  rw [qF,d,cond_false,run_bind,key,Option.bind_some]
  cases vW (fun k=>decide ((r.F.getD k zF).C.V.length≤300)) r.F.length
  ·exact ⟨_,rfl⟩
  ·exact ⟨_,rfl⟩
 ·have d:decide ((12:Int) < ((r.F.length:Nat):Int))=true:=decide_eq_true (by omega)
  exact ⟨false,by rw [qF,d,cond_true,qP]⟩
theorem qGK (b:qb):∃ x,Xj N b=some x:=by
 unfold Xj qaS
 by_cases h:b.R.length≤14
 ·have d:decide ((14:Int) < ((b.R.length:Nat):Int))=false:=decide_eq_false (by omega)
  have key:KM N b 0=some (if vW (fun k=>(Ze N (b.R.getD k zR)).getD false) b.R.length then .inr (((b.R.length:Nat):Int),false) else .inl ()):=by
   refine X4 (B:=Ve N b) (g:=some) (q:=fun k=>(Ze N (b.R.getD k zR)).getD false) (fun k hk=>?_) ?_ (by have:=big N; omega)
   ·obtain ⟨x,e⟩:=qOX (N:=N) (b.R.getD k zR)
    unfold Ve
    rw [qF,dec_lt hk,cond_true,run_bind,zY (d:=zR) hk,Option.bind_some,run_bind,e,Option.bind_some,qF,qP,qS,qg (show qt ((k:Int) + 1) by unfold qt; omega),qP,zd]
    cases x<;>rfl
   ·unfold Ve
    rw [qF,zp (Nat.lt_irrefl _),cond_false,qP]
  rw [qF,d,cond_false,run_bind,key,Option.bind_some]
  cases vW (fun k=>(Ze N (b.R.getD k zR)).getD false) b.R.length
  ·exact ⟨_,rfl⟩
  ·exact ⟨_,rfl⟩
 ·have d:decide ((14:Int) < ((b.R.length:Nat):Int))=true:=decide_eq_true (by omega)
  exact ⟨false,by rw [qF,d,cond_true,qP]⟩
end n
theorem Xp {α β:Type} {f:α→β} {l:List α} {k:Nat} {d:α} {e:β} (h:k < l.length):(l.map f).getD k e=f (l.getD k d):=by
 rw [List.getD_eq_getElem?_getD,List.getD_eq_getElem?_getD,List.getElem?_map,List.getElem?_eq_getElem h]; rfl
theorem qOf {l:List UInt8} (h:l.length≤200):(qvc l).length≤40:=by
 unfold qvc
 split
 ·exact Nat.zero_le _
 ·rw [qvo]; omega
theorem qM_ {b:qb} (h:zS b=true):(b.R.map z_).length≤10∧∀ k,k < (b.R.map z_).length→((b.R.map z_).getD k zL).F.length≤8∧∀ j,j < ((b.R.map z_).getD k zL).F.length→(((b.R.map z_).getD k zL).F.getD j zE).B.length≤40:=by
 have hb:=qak.1 h
 rw [List.length_map]
 refine ⟨hb.2,fun k hk=>?_⟩
 have hrec:=(hb.1 k hk).1
 rw [Xp (d:=zR) hk]
 have e:(z_ (b.R.getD k zR)).F=(b.R.getD k zR).F.map Zw:=rfl
 rw [e,List.length_map]
 refine ⟨Yj hrec,fun j hj=>?_⟩
 rw [Xp (d:=zF) hj]
 exact qOf (qiL (ZS.1 ((Jw.1 hrec).2.2 j hj)).2.2.1)
end Go.Rx
end
set_option maxRecDepth 100000
noncomputable section
namespace Go.Rx
open Go.Proofs
def quK (l:List qa) (id:Vector UInt8 16):Option Nat:=Qo (fun k=>decide ((l.getD k zR).ID=id)) l.length 0
def qu1 (l:List qc) (no:Int):Option Nat:=Qo (fun k=>decide ((l.getD k zF).No=no)) l.length 0
abbrev Zl (D:Vector UInt8 32) (b:qb):qp:=qp.mk D (b.R.map z_)
theorem qQ0 {V:List UInt8}:(((qvc V).length:Nat):Int)=blk ((V.length:Nat):Int):=by
 unfold qvc blk
 by_cases h:V.length < 24
 ·rw [if_pos h,if_pos (by omega)]; rfl
 ·rw [if_neg h,if_neg (by omega),qvo]
  exact (qEM V.length 8).symm
theorem qIE {r:qa} (h:jb r=true):qhw (z_ r)=true:=by
 have hr:=Jw.1 h
 have e:(z_ r).F=r.F.map Zw:=rfl
 refine qJV.2 ⟨fun k hk=>?_,hr.1,?_⟩
 ·rw [e,List.length_map] at hk
  rw [e]
  have hq:=ZS.1 (hr.2.2 k hk)
  unfold qu_
  rw [Xp (d:=zF) hk,Bool.and_eq_true]
  constructor
  ·have hc:=hq.2.2.1
   have hV:=qiL hc
   unfold XC at hc
   simp only [Bool.and_eq_true] at hc
   have h0:=qxZ h k hk
   unfold qEx
   simp only [Bool.and_eq_true,decide_eq_true_iff]
   refine ⟨?_,?_,?_,?_,?_,hc.2.1,hq.2.2.2⟩
   ·show 0≤(r.F.getD k zF).No; omega
   ·show (r.F.getD k zF).No < 8; exact hq.2.1
   ·show (0:Int)≤(((r.F.getD k zF).C.V.length:Nat):Int); omega
   ·show (((r.F.getD k zF).C.V.length:Nat):Int)≤200; omega
   ·exact qQ0
  ·by_cases h0:k=0
   ·rw [decide_eq_true h0]; rfl
   ·have hlt:=hq.1
    rw [if_neg h0] at hlt
    have hk1:k - 1 < r.F.length:=by omega
    rw [Xp (d:=zF) hk1,decide_eq_false h0,Bool.false_or]
    have:decide ((r.F.getD k zF).No≤(r.F.getD (k - 1) zF).No)=false:=decide_eq_false (by omega)
    show (!decide ((r.F.getD k zF).No≤(r.F.getD (k - 1) zF).No))=true
    rw [this]; rfl
 ·rw [e,List.length_map]
  exact hr.2.1.imp (fun h=>by omega) fun h=>h
theorem qLe {b:qb} (h:zS b=true) (D:Vector UInt8 32):qyK (Zl D b)=true:=by
 have hb:=qak.1 h
 have e:(Zl D b).L=b.R.map z_:=rfl
 refine qOA.2 ⟨fun k hk=>?_,?_⟩
 ·rw [e,List.length_map] at hk
  rw [e,Xp (d:=zR) hk]
  refine ⟨qIE (hb.1 k hk).1,?_⟩
  rcases (hb.1 k hk).2 with h0 | h1
  ·exact .inl h0
  ·by_cases h0:k=0
   ·exact .inl h0
   ·right
    rw [Xp (d:=zR) (show k - 1 < b.R.length by omega)]
    exact h1
 ·rw [e,List.length_map]; exact hb.2
theorem qKO {b:qb} (h:zS b=true) (D:Vector UInt8 32):qDw (Zl D b)=true:=by
 have hs:=qM_ h
 refine qr_.2 ⟨by show (b.R.map z_).length≤14; omega,fun k hk=>⟨by show ((b.R.map z_).getD k zL).F.length≤12; have:=(hs.2 k hk).1; omega,fun j hj=>(hs.2 k hk).2 j hj⟩⟩
theorem qLw {b:qb} (id:Vector UInt8 16):qvP (b.R.map z_) id=quK b.R id:=by
 unfold qvP quK
 rw [List.length_map]
 refine qiR fun k _ hk=>?_
 rw [Xp (d:=zR) (by omega)]
 rfl
theorem qO0 {r:qa} (no:Int):qpS (r.F.map Zw) no=qu1 r.F no:=by
 unfold qpS qu1
 rw [List.length_map]
 refine qiR fun k _ hk=>?_
 rw [Xp (d:=zF) (by omega)]
 rfl
theorem qIZ {b:qb} {D:Vector UInt8 32} (id:Vector UInt8 16):vY (Zl D b) id=match quK b.R id with | some i=>(z_ (b.R.getD i zR),true) | none=>(zL,false):=by
 unfold vY
 rw [show (Zl D b).L=b.R.map z_ from rfl,qLw]
 cases e:quK b.R id with
 | none=>rfl
 | some i=>
  have hi:=(qp1 e).1
  show ((b.R.map z_).getD i zL,true)=_
  rw [Xp (d:=zR) hi]
end Go.Rx
end
set_option maxRecDepth 100000
noncomputable section
namespace Go.Rx
open Go.Proofs
theorem qkd {α:Type} {d:α} {l:List α} {k:Nat} (h:k < l.length):l.drop k=l.getD k d::l.drop (k + 1):=by
 rw [List.drop_eq_getElem_cons h,List.getD_eq_getElem?_getD,List.getElem?_eq_getElem h]; rfl
theorem qog {α:Type} {p:α→Bool} {d:α} {l:List α}:∀ {m k:Nat},k + m=l.length→(Qo (fun j=>p (l.getD j d)) m k).map (fun i=>l.getD i d)=(l.drop k).find? p
 | 0,k,h=>by rw [List.drop_of_length_le (by omega)]; rfl
 | m + 1,k,h=>by
  rw [qkd (d:=d) (by omega),List.find?_cons]
  unfold Qo
  cases hp:p (l.getD k d) with
  | true=>rw [if_pos rfl]; rfl
  | false=>rw [if_neg (by simp)]; exact qog (by omega)
def cO (l:List qc) (no:Int):Option qe:=(l.find? fun f=>decide (f.No=no)).map fun f=>f.C
theorem qJ2 {l:List qc} {no:Int}:(qu1 l no).map (fun i=>(l.getD i zF).C)=cO l no:=by
 unfold qu1 cO
 have:=qog (p:=fun f:qc=>decide (f.No=no)) (d:=zF) (l:=l) (m:=l.length) (k:=0) (by omega)
 rw [List.drop_zero] at this
 rw [← this,Option.map_map]; rfl
theorem qmy {no:Int}:cO [] no=none:=rfl
theorem JI {f:qc} {l:List qc} {no:Int}:cO (f::l) no=if f.No=no then some f.C else cO l no:=by
 unfold cO
 rw [List.find?_cons]
 by_cases h:f.No=no
 ·rw [decide_eq_true h,if_pos h]; rfl
 ·rw [decide_eq_false h,if_neg h]
theorem Yr {l:List qc} {no:Int} {c:qe} (h:cO l no=some c):∃ f,f∈l∧f.No=no∧f.C=c:=by
 unfold cO at h
 obtain ⟨f,h1,h2⟩:=Option.map_eq_some_iff.1 h
 exact ⟨f,List.mem_of_find?_eq_some h1,of_decide_eq_true (List.find?_some (p:=fun f:qc=>decide (f.No=no)) h1),h2⟩
def jC:Option qe→Option qe→Option qe
 | some x,some y=>some (cJ x y)
 | some x,none=>some x
 | none,y=>y
def XV (g:Int→Option qe) (f:qc) (no:Int):Option qe:=if f.No=no then jC (g no) (some f.C) else g no
theorem qC4 {g:Int→Option qe} {f:qc} {no:Int}:XV g f no=if f.No=no then jC (g no) (some f.C) else g no:=rfl
theorem qzj:∀ {l:List qc} {g:Int→Option qe} {no:Int},(l.map fun f=>f.No).Nodup→l.foldl XV g no=jC (g no) (cO l no)
 | [],g,no,_=>by rw [qmy]; show g no=_; cases g no<;>rfl
 | f::l,g,no,h=>by
  rw [List.map_cons,List.nodup_cons] at h
  rw [List.foldl_cons,qzj h.2,JI]
  unfold XV
  by_cases e:f.No=no
  ·rw [if_pos e,if_pos e]
   have:cO l no=none:=by
    cases hc:cO l no with
    | none=>rfl
    | some c=>
     obtain ⟨x,hx,hx2,_⟩:=Yr hc
     exact (h.1 (List.mem_map.2 ⟨x,hx,by rw [hx2,e]⟩)).elim
   rw [this]
   cases g no<;>rfl
  ·rw [if_neg e,if_neg e]
def qap (no:Int) (M:List (Int×qe×Nat)):Option qe:=(fnd (β:=qe) (.i .i64) no M).map (·.1)
theorem qEE {q k:Int} {p:qe} {c:Nat} {M:List (Int×qe×Nat)}:qap q (ZB (β:=qe) (.i .i64) k p c M).2=if q=k then some p else qap q M:=by
 have:=@qvt (El (.i .i64)) qe (Vp (.i .i64)) k q p c M
 rw [show qap q (ZB (β:=qe) (.i .i64) k p c M).2=@quX (El (.i .i64)) qe (Vp (.i .i64)) q (@qh_ (El (.i .i64)) qe (Vp (.i .i64)) k p c M).2 from rfl,this]
 by_cases h:q=k
 ·rw [if_pos h]; exact if_pos h
 ·rw [if_neg h]; exact if_neg h
def qkA (dead:qd) (k:Nat):Option qe→List qc
 | some c=>if slB dead c.S=true then [qc.mk (k:Int) c] else []
 | none=>[]
def Z5 (g:Int→Option qe) (dead:qd):Nat→Nat→List qc
 | 0,_=>[]
 | m + 1,k=>qkA dead k (g (k:Int))++Z5 g dead m (k + 1)
theorem qqi {g:Int→Option qe} {dead:qd}:∀ {m k:Nat} {s:List qc},ZH (fun k s=>s++qkA dead k (g (k:Int))) m k s=s++Z5 g dead m k
 | 0,_,s=>by unfold ZH Z5; rw [List.append_nil]
 | m + 1,k,s=>by
  unfold ZH Z5
  rw [qqi,List.append_assoc]
theorem qzS {dead:qd} {k:Nat} {c:Option qe}:(qkA dead k c).length≤1:=by
 cases c with
 | none=>exact Nat.zero_le _
 | some c=>
  show (if slB dead c.S=true then [qc.mk (k:Int) c] else []).length≤1
  by_cases h:slB dead c.S=true
  ·rw [if_pos h]; exact Nat.le_refl _
  ·rw [if_neg h]; exact Nat.zero_le _
def rJ (a b:qa):qa:=qa.mk a.ID (mxS a.qB b.qB) (Z5 (fun no=>jC (cO a.F no) (cO b.F no)) (mxS a.qB b.qB) 8 0)
theorem qEi {r:qa} (h:jb r=true):(r.F.map fun f=>f.No).Nodup:=by
 have hlt:∀ (d a:Nat),a + d + 1 < r.F.length→(r.F.getD a zF).No < (r.F.getD (a + d + 1) zF).No:=by
  intro d
  induction d with
  | zero=>
   intro a ha
   have:=(ZS.1 ((Jw.1 h).2.2 (a + 0 + 1) ha)).1
   rw [if_neg (by omega),show a + 0 + 1 - 1=a by omega] at this
   exact this
  | succ d ih=>
   intro a ha
   have h1:=ih a (by omega)
   have:=(ZS.1 ((Jw.1 h).2.2 (a + (d + 1) + 1) ha)).1
   rw [if_neg (by omega),show a + (d + 1) + 1 - 1=a + d + 1 by omega] at this
   omega
 rw [List.nodup_iff_pairwise_ne,List.pairwise_iff_getElem]
 intro i j hi hj hij
 rw [List.length_map] at hi hj
 have:=hlt (j - i - 1) i (by omega)
 rw [show i + (j - i - 1) + 1=j by omega,List.getD_eq_getElem?_getD,List.getD_eq_getElem?_getD,List.getElem?_eq_getElem hi,List.getElem?_eq_getElem hj] at this
 rw [List.getElem_map,List.getElem_map]
 show r.F[i].No≠r.F[j].No
 have:r.F[i].No < r.F[j].No:=this
 omega
theorem qIO {r:qa} (h:jb r=true):∀ k,k < r.F.length→XC (r.F.getD k zF).C=true:=fun j hj=>(ZS.1 ((Jw.1 h).2.2 j hj)).2.2.1
def qhM (g:Int→Option qe):Prop:=∀ no c,g no=some c→c.V.length≤200
theorem qOP (a b:qe):cJ a b=a∨cJ a b=b:=by
 unfold cJ
 split
 ·exact .inr rfl
 ·exact .inl rfl
theorem qIa {g:Int→Option qe} {f:qc} (hg:qhM g) (hf:f.C.V.length≤200):qhM (XV g f):=by
 intro no c h
 unfold XV at h
 split at h
 ·cases e:g no with
  | none=>rw [e] at h; obtain rfl:=Option.some.inj h; exact hf
  | some x=>
   rw [e] at h
   obtain rfl:=Option.some.inj h
   rcases qOP x f.C with h1 | h1
   ·rw [h1]; exact hg no x e
   ·rw [h1]; exact hf
 ·exact hg no c h
end Go.Rx
end
set_option maxRecDepth 100000
noncomputable section
namespace Go.Rx
open Go.Proofs
open Go.Lib (compareBytes)
theorem qrZ {a b c:Vector UInt8 16} (h1:lbB a b=true) (h2:lbB b c=true):lbB a c=true:=by
 rw [qsi] at *; exact qJJ h1 h2
theorem qPL (a b:Vector UInt8 16):(lbB a b=true∧lbB b a=false)∨a=b∨(lbB b a=true∧lbB a b=false):=by
 rw [qsi,qsi]
 rcases qhX a.toList b.toList with h | h | h
 ·exact .inl h
 ·exact .inr (.inl (Vector.toList_inj.1 h))
 ·exact .inr (.inr h)
end Go.Rx
end
set_option maxRecDepth 100000
noncomputable section
namespace Go.Rx
open Go.Proofs
theorem qiP {α:Type} {l:List α} {d:α} {P:α→Prop}:(∀ k,k < l.length→P (l.getD k d))↔∀ x∈l,P x:=by
 constructor
 ·intro h x hx
  obtain ⟨i,hi,rfl⟩:=List.getElem_of_mem hx
  have:=h i hi
  rw [List.getD_eq_getElem?_getD,List.getElem?_eq_getElem hi] at this
  exact this
 ·intro h k hk
  rw [List.getD_eq_getElem?_getD,List.getElem?_eq_getElem hk]
  exact h _ (List.getElem_mem hk)
theorem qjY {α:Type} {R:α→α→Prop} (ht:∀ a b c,R a b→R b c→R a c) {d:α} {l:List α}:(∀ k,k + 1 < l.length→R (l.getD k d) (l.getD (k + 1) d))↔l.Pairwise R:=by
 have gd:∀ k (h:k < l.length),l.getD k d=l[k]:=fun k h=>by rw [List.getD_eq_getElem?_getD,List.getElem?_eq_getElem h]; rfl
 rw [List.pairwise_iff_getElem]
 constructor
 ·intro h i j hi hj hij
  have key:∀ m,∀ hm:i + m + 1 < l.length,R l[i] l[i + m + 1]:=by
   intro m
   induction m with
   | zero=>
    intro hm
    have:=h i hm
    rw [gd i hi,gd (i + 1) hm] at this; exact this
   | succ m ih=>
    intro hm
    have h1:=ih (by omega)
    have h2:=h (i + m + 1) hm
    rw [gd (i + m + 1) (by omega),gd (i + m + 1 + 1) hm] at h2
    exact ht _ _ _ h1 h2
  have:=key (j - i - 1) (by omega)
  have e:i + (j - i - 1) + 1=j:=by omega
  simp only [e] at this
  exact this
 ·intro h k hk
  rw [gd k (by omega),gd (k + 1) hk]
  exact h k (k + 1) (by omega) hk (by omega)
abbrev qhT (l:List qc):Prop:=l.Pairwise fun f g=>f.No < g.No
theorem QS {r:qa}:jb r=true↔stB r.qB=true∧(r.F≠[]∨r.qB≠zSt)∧qhT r.F∧∀ f∈r.F,0≤f.No∧f.No < 8∧XC f.C=true∧slB r.qB f.C.S=true:=by
 have hne:r.F.length≠0↔r.F≠[]:=by
  rw [Ne,Ne,List.length_eq_zero_iff]
 constructor
 ·intro h
  have hr:=Jw.1 h
  refine ⟨hr.1,hr.2.1.imp hne.1 id,(qjY (R:=fun f g:qc=>f.No < g.No) (fun a b c h1 h2=>Int.lt_trans h1 h2) (d:=zF)).1 fun k hk=>?_,(qiP (d:=zF)).1 fun k hk=>?_⟩
  ·have:=(ZS.1 (hr.2.2 (k + 1) hk)).1
   rw [if_neg (by omega)] at this
   exact this
  ·have h1:=ZS.1 (hr.2.2 k hk)
   have h2:=qxZ h k hk
   exact ⟨by omega,h1.2.1,h1.2.2.1,h1.2.2.2⟩
 ·rintro ⟨h1,h2,h3,h4⟩
  refine Jw.2 ⟨h1,h2.imp hne.2 id,fun k hk=>ZS.2 ⟨?_,?_⟩⟩
  ·by_cases h0:k=0
   ·rw [if_pos h0]; exact ((qiP (d:=zF)).2 h4 k hk).1
   ·rw [if_neg h0]
    have:=(qjY (R:=fun f g:qc=>f.No < g.No) (fun a b c h1 h2=>Int.lt_trans h1 h2) (d:=zF)).2 h3 (k - 1) (by omega)
    rw [show k - 1 + 1=k by omega] at this
    exact this
  ·have:=(qiP (d:=zF)).2 h4 k hk
   exact this.2
theorem qdZ {g:Int→Option qe} {dead:qd}:∀ {m k:Nat} {f:qc},f∈Z5 g dead m k→(k:Int)≤f.No∧f.No < ((k + m:Nat):Int)∧g f.No=some f.C∧slB dead f.C.S=true
 | 0,_,_,h=>absurd h List.not_mem_nil
 | m + 1,k,f,h=>by
  unfold Z5 at h
  rcases List.mem_append.1 h with h | h
  ·cases e:g (k:Int) with
   | none=>rw [e] at h; exact absurd h List.not_mem_nil
   | some c=>
    rw [e] at h
    have h:f∈(if slB dead c.S=true then [qc.mk (k:Int) c] else []):=h
    split at h
    ·rename_i hs
     obtain rfl:=List.mem_singleton.1 h
     exact ⟨Int.le_refl _,by show (k:Int) < _; omega,e,hs⟩
    ·exact absurd h List.not_mem_nil
  ·have:=qdZ h
   exact ⟨by omega,by omega,this.2.2⟩
theorem qpm {g:Int→Option qe} {dead:qd}:∀ {m k:Nat},qhT (Z5 g dead m k)
 | 0,_=>List.Pairwise.nil
 | m + 1,k=>by
  unfold Z5
  refine List.pairwise_append.2 ⟨?_,qpm,fun a ha b hb=>?_⟩
  ·have:=qzS (dead:=dead) (k:=k) (c:=g (k:Int))
   match hk:qkA dead k (g (k:Int)),this with
   | [],_=>exact List.Pairwise.nil
   | [x],_=>exact List.pairwise_singleton _ _
  ·have h1:=qdZ hb
   cases e:g (k:Int) with
   | none=>rw [e] at ha; exact absurd ha List.not_mem_nil
   | some c=>
    rw [e] at ha
    have ha:a∈(if slB dead c.S=true then [qc.mk (k:Int) c] else []):=ha
    split at ha
    ·obtain rfl:=List.mem_singleton.1 ha
     show (k:Int) < b.No
     omega
    ·exact absurd ha List.not_mem_nil
theorem qzX {l:List qc} (h:qhT l) {f:qc} (hf:f∈l):cO l f.No=some f.C:=by
 induction l with
 | nil=>exact absurd hf List.not_mem_nil
 | cons x l ih=>
  rw [JI]
  have hp:=List.pairwise_cons.1 h
  rcases List.mem_cons.1 hf with rfl | hf
  ·rw [if_pos rfl]
  ·have:=hp.1 f hf
   rw [if_neg (by omega),ih hp.2 hf]
theorem qix {r:qa} (h:jb r=true) {no:Int} {c:qe} (hc:cO r.F no=some c):0≤no∧no < 8∧XC c=true∧slB r.qB c.S=true:=by
 obtain ⟨f,hf,rfl,rfl⟩:=Yr hc
 exact (QS.1 h).2.2.2 f hf
theorem qLG {g:Int→Option qe} {dead:qd} {no:Int} (h0:0≤no) (h8:no < 8):cO (Z5 g dead 8 0) no=(g no).filter fun c=>slB dead c.S:=by
 have key:∀ (m k:Nat),(k:Int)≤no→no < ((k + m:Nat):Int)→cO (Z5 g dead m k) no=(g no).filter fun c=>slB dead c.S:=by
  intro m
  induction m with
  | zero=>intro k h1 h2; omega
  | succ m ih=>
   intro k h1 h2
   unfold Z5
   have app:∀ (a b:List qc),cO (a++b) no=(cO a no).or (cO b no):=by
    intro a b
    unfold cO
    rw [List.find?_append]
    cases List.find? (fun f:qc=>decide (f.No=no)) a<;>rfl
   rw [app]
   by_cases e:no=(k:Int)
   ·subst e
    have hn:cO (Z5 g dead m (k + 1)) (k:Int)=none:=by
     cases hc:cO (Z5 g dead m (k + 1)) (k:Int) with
     | none=>rfl
     | some c=>
      obtain ⟨f,hf,h3,_⟩:=Yr hc
      have:=(qdZ hf).1
      omega
    rw [hn]
    cases hg:g (k:Int) with
    | none=>rfl
    | some c=>
     show (cO (if slB dead c.S=true then [qc.mk (k:Int) c] else []) (k:Int)).or none=_
     rw [Option.or_none]
     by_cases hs:slB dead c.S=true
     ·rw [if_pos hs,JI,if_pos (show (qc.mk (k:Int) c).No=(k:Int) from rfl),Option.filter_some,if_pos hs]; rfl
     ·rw [if_neg hs,qmy,Option.filter_some,if_neg hs]
   ·have hn : cO (qkA dead k (g (k : Int))) no = none := by
       cases hg:g (k:Int) with
       | none=>rfl
       | some c=>
        show cO (if slB dead c.S=true then [qc.mk (k:Int) c] else []) no=none
        by_cases hs:slB dead c.S=true
        ·rw [if_pos hs,JI,if_neg (fun h=>e h.symm),qmy]
        ·rw [if_neg hs,qmy]
    rw [hn,Option.none_or,ih (k + 1) (by omega) (by omega)]
 exact key 8 0 (by omega) (by omega)
theorem qLl (a b:qd):mxS a b=a∨mxS a b=b:=by
 unfold mxS
 split
 ·exact .inr rfl
 ·exact .inl rfl
theorem qob {s:qd} (h:stB s=true) (hz:s≠zSt):slB zSt s=true:=by
 unfold stB at h
 rw [decide_eq_false hz] at h
 simp only [Bool.false_or,Bool.and_eq_true,decide_eq_true_iff] at h
 unfold slB
 exact decide_eq_true (.inl h.1.1.1)
theorem qRs {x y:qe}:slB (cJ x y).S x.S=false∧slB (cJ x y).S y.S=false:=by
 unfold cJ
 by_cases h:Qc x y=true
 ·rw [if_pos h]
  unfold Qc at h
  by_cases e:x.S=y.S
  ·rw [e]; exact ⟨Qv _,Qv _⟩
  ·rw [if_neg e] at h
   rcases KJ x.S y.S with h1 | h1 | h1
   ·exact ⟨h1.2,Qv _⟩
   ·exact (e h1).elim
   ·rw [h] at h1; simp at h1
 ·rw [if_neg h]
  unfold Qc at h
  by_cases e:x.S=y.S
  ·rw [e]; exact ⟨Qv _,Qv _⟩
  ·rw [if_neg e] at h
   rcases KJ x.S y.S with h1 | h1 | h1
   ·exact (h h1.1).elim
   ·exact (e h1).elim
   ·exact ⟨Qv _,h1.2⟩
theorem qQE {a b c:qd} (h1:slB b a=false) (h2:slB c a=true):slB c b=true:=by
 rcases KJ a b with h | h | h
 ·exact qgj h2 h.1
 ·subst h; exact h2
 ·rw [h1] at h; simp at h
theorem qD7 {a b:qa} (ha:jb a=true) (hb:jb b=true) {no:Int} {c:qe} (h:jC (cO a.F no) (cO b.F no)=some c):0≤no∧no < 8∧XC c=true:=by
 cases ea:cO a.F no with
 | none=>
  rw [ea] at h
  cases eb:cO b.F no with
  | none=>rw [eb] at h; cases h
  | some y=>
   rw [eb] at h
   obtain rfl:=Option.some.inj h
   have:=qix hb eb; exact ⟨this.1,this.2.1,this.2.2.1⟩
 | some x=>
  have hx:=qix ha ea
  rw [ea] at h
  cases eb:cO b.F no with
  | none=>
   rw [eb] at h
   obtain rfl:=Option.some.inj h
   exact ⟨hx.1,hx.2.1,hx.2.2.1⟩
  | some y=>
   have hy:=qix hb eb
   rw [eb] at h
   obtain rfl:=Option.some.inj h
   refine ⟨hx.1,hx.2.1,?_⟩
   rcases qOP x y with e | e
   ·rw [e]; exact hx.2.2.1
   ·rw [e]; exact hy.2.2.1
theorem qHG (a b:qa):(rJ a b).F=Z5 (fun no=>jC (cO a.F no) (cO b.F no)) (mxS a.qB b.qB) 8 0:=rfl
theorem qBX {a b:qa} (ha:jb a=true) (hb:jb b=true) (no:Int):cO (rJ a b).F no=(jC (cO a.F no) (cO b.F no)).filter fun c=>slB (mxS a.qB b.qB) c.S:=by
 by_cases h:0≤no∧no < 8
 ·rw [qHG,qLG h.1 h.2]
 ·have e1 : jC (cO a.F no) (cO b.F no) = none := by
     cases e:jC (cO a.F no) (cO b.F no) with
     | none=>rfl
     | some c=>have:=qD7 ha hb e; exact (h ⟨this.1,this.2.1⟩).elim
  rw [e1]
  cases e:cO (rJ a b).F no with
  | none=>rfl
  | some c=>
   obtain ⟨f,hf,h3,_⟩:=Yr e
   rw [qHG] at hf
   have:=qdZ (m:=8) (k:=0) hf
   exact (h ⟨by omega,by omega⟩).elim
theorem qQ7 (a b:qa):(rJ a b).ID=a.ID:=rfl
theorem qGl (a b:qa):(rJ a b).qB=mxS a.qB b.qB:=rfl
theorem qMs {a b:qd} (ha:stB a=true) (hb:stB b=true) (h:mxS a b=zSt):a=zSt∧b=zSt:=by
 by_cases e:b=zSt
 ·subst e
  unfold mxS at h
  by_cases hs:slB a zSt=true
  ·exfalso
   by_cases ea:a=zSt
   ·subst ea; rw [Qv] at hs; simp at hs
   ·have:=qgj (qob ha ea) hs
    rw [Qv] at this; simp at this
  ·rw [if_neg hs] at h; exact ⟨h,rfl⟩
 ·exfalso
  unfold mxS at h
  by_cases hs:slB a b=true
  ·rw [if_pos hs] at h; exact e h
  ·rw [if_neg hs] at h
   subst h
   exact hs (qob hb e)
theorem qjk {a b:qa} (ha:jb a=true) (hb:jb b=true):jb (rJ a b)=true:=by
 have hA:=QS.1 ha
 have hB:=QS.1 hb
 refine QS.2 ⟨?_,?_,by rw [qHG]; exact qpm,fun f hf=>?_⟩
 ·rw [qGl]
  rcases qLl a.qB b.qB with e | e
  ·rw [e]; exact hA.1
  ·rw [e]; exact hB.1
 ·by_cases hz:(rJ a b).qB=zSt
  ·left
   intro hF
   obtain ⟨za,zb⟩:=qMs hA.1 hB.1 hz
   have hne:a.F≠[]:=hA.2.1.resolve_right (fun h=>h za)
   obtain ⟨f,l,e⟩:=List.exists_cons_of_ne_nil hne
   have hf:f∈a.F:=by rw [e]; exact List.mem_cons_self ..
   have hca:=qzX hA.2.2.1 hf
   have hfl:=(hA.2.2.2 f hf).2.2.2
   have hn:cO (rJ a b).F f.No=none:=by rw [hF]; rfl
   rw [qBX ha hb,hca] at hn
   rw [qGl] at hz
   rw [hz] at hn
   rw [za] at hfl
   cases hcb:cO b.F f.No with
   | none=>
    rw [hcb] at hn
    have hn:(some f.C).filter (fun c=>slB zSt c.S)=none:=hn
    rw [Option.filter_some,if_pos hfl] at hn; cases hn
   | some y=>
    rw [hcb] at hn
    have hn:(some (cJ f.C y)).filter (fun c=>slB zSt c.S)=none:=hn
    rw [Option.filter_some,if_pos (qQE qRs.1 hfl)] at hn; cases hn
  ·exact .inr hz
 ·rw [qHG] at hf
  have h1:=qdZ (m:=8) (k:=0) hf
  have h2:=qD7 ha hb h1.2.2.1
  exact ⟨h2.1,h2.2.1,h2.2.2,h1.2.2.2⟩
theorem qxM:∀ {l l':List qc},qhT l→qhT l'→(∀ no,cO l no=cO l' no)→l=l'
 | [],[],_,_,_=>rfl
 | [],y::l',_,h',h=>by
  have:=h y.No
  rw [qmy,JI,if_pos rfl] at this; cases this
 | x::l,[],hl,_,h=>by
  have:=h x.No
  rw [qmy,JI,if_pos rfl] at this; cases this
 | x::l,y::l',hl,hl',h=>by
  have pl:=List.pairwise_cons.1 hl
  have pl':=List.pairwise_cons.1 hl'
  have hno:x.No=y.No:=by
   have h1:=h x.No
   rw [JI,if_pos rfl] at h1
   have h2:=h y.No
   rw [JI (f:=y),if_pos rfl] at h2
   obtain ⟨f,hf,e,_⟩:=Yr h1.symm
   obtain ⟨g,hg,e',_⟩:=Yr h2
   rcases List.mem_cons.1 hf with rfl | hf
   ·exact e.symm
   ·rcases List.mem_cons.1 hg with rfl | hg
    ·exact e'
    ·have:=pl'.1 f hf
     have:=pl.1 g hg
     omega
  have hc:x.C=y.C:=by
   have h1:=h x.No
   rw [JI,if_pos rfl,JI,if_pos hno.symm] at h1
   exact Option.some.inj h1
  have hxy:x=y:=by
   obtain ⟨n,c⟩:=x
   obtain ⟨n',c'⟩:=y
   have hno:n=n':=hno
   have hc:c=c':=hc
   rw [hno,hc]
  subst hxy
  rw [qxM pl.2 pl'.2 fun no=>?_]
  by_cases e:x.No=no
  ·have n1 : cO l no = none := by
      cases hc:cO l no with
      | none=>rfl
      | some c=>
       obtain ⟨f,hf,e',_⟩:=Yr hc
       have:=pl.1 f hf; omega
   have n2:cO l' no=none:=by
    cases hc:cO l' no with
    | none=>rfl
    | some c=>
     obtain ⟨f,hf,e',_⟩:=Yr hc
     have:=pl'.1 f hf; omega
   rw [n1,n2]
  ·have:=h no
   rw [JI,JI,if_neg e,if_neg e] at this; exact this
theorem qGF {r s:qa} (hr:jb r=true) (hs:jb s=true) (h1:r.ID=s.ID) (h2:r.qB=s.qB) (h3:∀ no,cO r.F no=cO s.F no):r=s:=by
 have:=qxM (QS.1 hr).2.2.1 (QS.1 hs).2.2.1 h3
 obtain ⟨a,b,c⟩:=r
 obtain ⟨a',b',c'⟩:=s
 have h1:a=a':=h1
 have h2:b=b':=h2
 have this:c=c':=this
 rw [h1,h2,this]
def rO (l:List qa) (id:Vector UInt8 16):Option qa:=l.find? fun r=>decide (r.ID=id)
theorem qwz {id:Vector UInt8 16}:rO [] id=none:=rfl
theorem Vn {r:qa} {l:List qa} {id:Vector UInt8 16}:rO (r::l) id=if r.ID=id then some r else rO l id:=by
 unfold rO
 rw [List.find?_cons]
 by_cases h:r.ID=id
 ·rw [decide_eq_true h,if_pos h]
 ·rw [decide_eq_false h,if_neg h]
theorem Qa {l:List qa} {id:Vector UInt8 16} {r:qa} (h:rO l id=some r):r∈l∧r.ID=id:=
 ⟨List.mem_of_find?_eq_some h,of_decide_eq_true (List.find?_some (p:=fun r:qa=>decide (r.ID=id)) h)⟩
theorem qQf {l:List qa} {id:Vector UInt8 16}:(quK l id).map (fun i=>l.getD i zR)=rO l id:=by
 unfold quK rO
 have:=qog (p:=fun r:qa=>decide (r.ID=id)) (d:=zR) (l:=l) (m:=l.length) (k:=0) (by omega)
 rw [List.drop_zero] at this
 exact this
abbrev KD (l:List qa):Prop:=l.Pairwise fun a b=>lbB a.ID b.ID=true
def qwX (l:List qa):Prop:=KD l∧∀ r∈l,jb r=true
theorem ZP {b:qb}:zS b=true↔qwX b.R∧b.R.length≤10:=by
 rw [qak]
 refine and_congr ?_ Iff.rfl
 have ht:∀ a b c:qa,lbB a.ID b.ID=true→lbB b.ID c.ID=true→lbB a.ID c.ID=true:=fun _ _ _ h1 h2=>qrZ h1 h2
 constructor
 ·intro h
  refine ⟨(qjY (R:=fun a b:qa=>lbB a.ID b.ID=true) ht (d:=zR)).1 fun k hk=>?_,(qiP (d:=zR)).1 fun k hk=>(h k hk).1⟩
  rcases (h (k + 1) hk).2 with e | e
  ·omega
  ·exact e
 ·rintro ⟨h1,h2⟩ k hk
  refine ⟨(qiP (d:=zR)).2 h2 k hk,?_⟩
  by_cases h0:k=0
  ·exact .inl h0
  ·have:=(qjY (R:=fun a b:qa=>lbB a.ID b.ID=true) ht (d:=zR)).2 h1 (k - 1) (by omega)
   rw [show k - 1 + 1=k by omega] at this
   exact .inr this
theorem qkh {l:List qa} (h:KD l) {r:qa} (hr:r∈l):rO l r.ID=some r:=by
 induction l with
 | nil=>exact absurd hr List.not_mem_nil
 | cons x l ih=>
  rw [Vn]
  have hp:=List.pairwise_cons.1 h
  rcases List.mem_cons.1 hr with rfl | hr
  ·rw [if_pos rfl]
  ·have:=hp.1 r hr
   rw [if_neg (fun e=>by rw [e,qcS] at this; cases this),ih hp.2 hr]
theorem qvU:∀ {l l':List qa},KD l→KD l'→(∀ id,rO l id=rO l' id)→l=l'
 | [],[],_,_,_=>rfl
 | [],y::l',_,h',h=>by
  have:=h y.ID
  rw [qwz,Vn,if_pos rfl] at this; cases this
 | x::l,[],hl,_,h=>by
  have:=h x.ID
  rw [qwz,Vn,if_pos rfl] at this; cases this
 | x::l,y::l',hl,hl',h=>by
  have pl:=List.pairwise_cons.1 hl
  have pl':=List.pairwise_cons.1 hl'
  have h1:=h x.ID
  rw [Vn,if_pos rfl] at h1
  have h2:=h y.ID
  rw [Vn (r:=y),if_pos rfl] at h2
  have hxy:x=y:=by
   rcases List.mem_cons.1 (Qa h1.symm).1 with e | hf
   ·exact e
   ·rcases List.mem_cons.1 (Qa h2).1 with e | hg
    ·exact e.symm
    ·have a1:=pl'.1 x hf
     have a2:=pl.1 y hg
     have:=qrZ a1 a2
     rw [qcS] at this; cases this
  subst hxy
  rw [qvU pl.2 pl'.2 fun id=>?_]
  by_cases e:x.ID=id
  ·have n1 : rO l id = none := by
      cases hc:rO l id with
      | none=>rfl
      | some c=>
       have:=pl.1 c (Qa hc).1
       rw [e,(Qa hc).2,qcS] at this; cases this
   have n2:rO l' id=none:=by
    cases hc:rO l' id with
    | none=>rfl
    | some c=>
     have:=pl'.1 c (Qa hc).1
     rw [e,(Qa hc).2,qcS] at this; cases this
   rw [n1,n2]
  ·have:=h id
   rw [Vn,Vn,if_neg e,if_neg e] at this; exact this
def jR:Option qa→Option qa→Option qa
 | some x,some y=>some (rJ x y)
 | some x,none=>some x
 | none,y=>y
def qxp (a b c:List qa):Prop:=KD c∧∀ id,rO c id=jR (rO a id) (rO b id)
theorem qK2 {a b c:List qa} (ha:qwX a) (hb:qwX b) (h:qxp a b c):qwX c:=by
 refine ⟨h.1,fun r hr=>?_⟩
 have e:=h.2 r.ID
 rw [qkh h.1 hr] at e
 cases ea:rO a r.ID with
 | none=>
  rw [ea] at e
  have e:some r=rO b r.ID:=e
  exact hb.2 r (Qa e.symm).1
 | some x=>
  rw [ea] at e
  cases eb:rO b r.ID with
  | none=>
   rw [eb] at e
   obtain rfl:=Option.some.inj e
   exact ha.2 r (Qa ea).1
  | some y=>
   rw [eb] at e
   obtain rfl:=Option.some.inj e
   exact qjk (ha.2 x (Qa ea).1) (hb.2 y (Qa eb).1)
end Go.Rx
end
set_option maxRecDepth 100000
noncomputable section
namespace Go.Rx
open Go.Proofs
theorem qPK {a b:qe} (h1:a.S=b.S) (h2:a.V=b.V):a=b:=by
 obtain ⟨s,v⟩:=a
 obtain ⟨s',v'⟩:=b
 have h1:s=s':=h1
 have h2:v=v':=h2
 rw [h1,h2]
theorem qPk (a b:Vector UInt8 32):(ltD a b=true∧ltD b a=false)∨a=b∨(ltD b a=true∧ltD a b=false):=by
 rcases qhX a.toList b.toList with h | h | h
 ·exact .inl h
 ·exact .inr (.inl (Vector.toList_inj.1 h))
 ·exact .inr (.inr h)
theorem qAc (a b:qe):(Qc a b=true∧Qc b a=false)∨a=b∨(Qc b a=true∧Qc a b=false):=by
 unfold Qc
 by_cases h1:a.S=b.S
 ·rw [if_pos h1,if_pos h1.symm]
  by_cases h2:zK a.V=zK b.V
  ·rw [if_pos h2,if_pos h2.symm]
   rcases qhX a.V b.V with h | h | h
   ·exact .inl h
   ·exact .inr (.inl (qPK h1 h))
   ·exact .inr (.inr h)
  ·rw [if_neg h2,if_neg (fun h=>h2 h.symm)]
   rcases qPk (zK a.V) (zK b.V) with h | h | h
   ·exact .inl h
   ·exact (h2 h).elim
   ·exact .inr (.inr h)
 ·rw [if_neg h1,if_neg (fun h=>h1 h.symm)]
  rcases KJ a.S b.S with h | h | h
  ·exact .inl h
  ·exact (h1 h).elim
  ·exact .inr (.inr h)
theorem qQh {a b:Vector UInt8 32} (h:ltD a b=true):a≠b:=fun e=>by subst e; unfold ltD at h; rw [XP] at h; cases h
theorem qQW {a b:qd} (h:slB a b=true):a≠b:=fun e=>by subst e; rw [Qv] at h; cases h
theorem qLh (a:qe):Qc a a=false:=by
 rcases qAc a a with h | h | h
 ·exact h.2
 ·unfold Qc; rw [if_pos rfl,if_pos rfl,XP]
 ·exact h.2
theorem qwT {a b:qe} (h:Qc a b=true):cJ a b=b:=if_pos h
theorem qx0 {a b:qe} (h:Qc a b=false):cJ a b=a:=if_neg (by rw [h]; simp)
theorem qPc (a b:qe):cJ a b=cJ b a:=by
 rcases qAc a b with h | h | h
 ·rw [qwT h.1,qx0 h.2]
 ·subst h; rfl
 ·rw [qx0 h.2,qwT h.1]
theorem qPP (o p:Option qe):jC o p=jC p o:=by
 cases o<;>cases p<;>first | rfl | exact congrArg some (qPc _ _)
theorem qmL {a b:qd} (h:slB a b=true):mxS a b=b:=if_pos h
theorem ql_ {a b:qd} (h:slB a b=false):mxS a b=a:=if_neg (by rw [h]; simp)
theorem qCc (a:qd):mxS a a=a:=ql_ (Qv a)
theorem quw (a b:qd):mxS a b=mxS b a:=by
 rcases KJ a b with h | h | h
 ·rw [qmL h.1,ql_ h.2]
 ·subst h; rfl
 ·rw [ql_ h.2,qmL h.1]
theorem qQ2 (a b:qd):slB (mxS a b) a=false:=by
 rcases KJ a b with h | h | h
 ·rw [qmL h.1]; exact h.2
 ·subst h; rw [qCc,Qv]
 ·rw [ql_ h.2,Qv]
abbrev fl (d:qd) (o:Option qe):Option qe:=o.filter fun c=>slB d c.S
theorem qdq {d:qd} {c:qe}:fl d (some c)=if slB d c.S=true then some c else none:=by
 show Option.filter _ (some c)=_
 rw [Option.filter_some]
theorem qO1 {a b:qe} (h:Qc a b=false):slB a.S b.S=false:=by
 unfold Qc at h
 by_cases e:a.S=b.S
 ·rw [e,Qv]
 ·rw [if_neg e] at h; exact h
theorem qnE {a b c:qd} (h1:slB a b=false) (h2:slB b c=false):slB a c=false:=by
 cases h:slB a c with
 | false=>rfl
 | true=>
  rcases KJ a b with h' | h' | h'
  ·rw [h1] at h'; exact absurd h'.1 (by simp)
  ·subst h'; rw [h] at h2; cases h2
  ·have:=qgj h'.1 h; rw [h2] at this; cases this
theorem qPm {d d1:qd} (hd:slB d d1=false) (u z:Option qe):fl d (jC (fl d1 u) z)=fl d (jC u z):=by
 cases u with
 | none=>rfl
 | some c=>
  rw [qdq]
  by_cases h:slB d1 c.S=true
  ·rw [if_pos h]
  ·rw [if_neg h]
   have hc:slB d c.S=false:=qnE hd (by cases e:slB d1 c.S with | false=>rfl | true=>exact (h e).elim)
   cases z with
   | none=>
    show none=fl d (some c)
    rw [qdq,if_neg (by rw [hc]; simp)]
   | some y=>
    show fl d (some y)=fl d (some (cJ c y))
    cases hl:Qc c y with
    | true=>rw [qwT hl]
    | false=>
     have:slB d y.S=false:=qnE hc (qO1 hl)
     rw [qx0 hl,qdq,qdq,if_neg (by rw [this]; simp),if_neg (by rw [hc]; simp)]
theorem qPB {r:qa} (h:jb r=true) (no:Int):fl r.qB (cO r.F no)=cO r.F no:=by
 cases e:cO r.F no with
 | none=>rfl
 | some c=>rw [qdq,if_pos (qix h e).2.2.2]
theorem qPv {r s:qa} (h:jb r=true) (h':jb s=true) (hid:r.ID=s.ID):rJ r s=rJ s r:=
 qGF (qjk h h') (qjk h' h) hid (quw _ _) fun no=>by rw [qBX h h',qBX h' h,qPP,quw]
def VO (id:Vector UInt8 16) (o:Option qa):Prop:=∀ r,o=some r→jb r=true∧r.ID=id
theorem qO8 {id:Vector UInt8 16}:VO id none:=fun _ h=>by cases h
theorem qkf {l:List qa} (h:∀ r∈l,jb r=true) (id:Vector UInt8 16):VO id (rO l id):=fun r hr=>⟨h r (Qa hr).1,(Qa hr).2⟩
theorem qyb {id:Vector UInt8 16} {o p:Option qa} (ho:VO id o) (hp:VO id p):VO id (jR o p):=by
 cases o with
 | none=>exact hp
 | some r=>
  cases p with
  | none=>exact ho
  | some s=>
   intro t ht
   obtain rfl:=Option.some.inj ht
   exact ⟨qjk (ho r rfl).1 (hp s rfl).1,(ho r rfl).2⟩
theorem qyB {id:Vector UInt8 16} {o p:Option qa} (ho:VO id o) (hp:VO id p):jR o p=jR p o:=by
 cases o with
 | none=>cases p<;>rfl
 | some r=>
  cases p with
  | none=>rfl
  | some s=>exact congrArg some (qPv (ho r rfl).1 (hp s rfl).1 ((ho r rfl).2.trans (hp s rfl).2.symm))
theorem qDq {α:Type} [DecidableEq α]:∀ {l m:List α},l.Nodup→(∀ x∈l,x∈m)→l.length≤m.length
 | [],_,_,_=>Nat.zero_le _
 | x::l,m,h,hm=>by
  rw [List.nodup_cons] at h
  have hx:=hm x (List.mem_cons_self ..)
  have:=qDq (l:=l) (m:=m.erase x) h.2 fun y hy=>(List.mem_erase_of_ne (fun e=>by subst e; exact h.1 hy)).2 (hm y (List.mem_cons_of_mem _ hy))
  rw [List.length_erase_of_mem hx] at this
  have hp:0 < m.length:=List.length_pos_of_mem hx
  rw [List.length_cons]; omega
theorem qJw {l:List qa} (h:KD l):(l.map fun r=>r.ID).Nodup:=by
 rw [List.nodup_iff_pairwise_ne,List.pairwise_map]
 refine h.imp fun {a b} hab e=>?_
 rw [e,qcS] at hab; cases hab
end Go.Rx
end
set_option maxRecDepth 100000
noncomputable section
namespace Go.Rx
open Go.Proofs
open Go.Lib (compareBytes)
section g
variable {α:Type}
theorem qCS {p q:List α} {x:α} {n:Nat} (h:(p++x::q).length=n):Zd (p++x::q) n p.length=some x:=by
 unfold Zd
 rw [if_pos h,List.getElem?_append_right (Nat.le_refl _),Nat.sub_self]; rfl
theorem qze {x y:α} {q:List α}:∀ {p:List α},(p++x::q).set p.length y=p++y::q
 | []=>rfl
 | z::p=>by
  show z::(p++x::q).set p.length y=_
  rw [qze]; rfl
end g
def WT (rp:List (Vector UInt8 16)) (x:Vector UInt8 16) (q:List (Vector UInt8 16)):List (Vector UInt8 16):=match rp with
 | []=>x::q
 | y::r=>if lbB x y=true then WT r x (y::q) else (y::r).reverse++x::q
def Qx (l:List (Vector UInt8 16)):List (Vector UInt8 16):=l.foldl (fun p x=>WT p.reverse x []) []
theorem qri {x:Vector UInt8 16}:∀ {rp q:List (Vector UInt8 16)},(WT rp x q).Perm (x::(rp++q))
 | [],q=>List.Perm.refl _
 | y::r,q=>by
  unfold WT
  split
  ·exact qri.trans (List.Perm.cons _ List.perm_middle)
  ·exact List.perm_middle.trans (List.Perm.cons _ ((List.reverse_perm _).append_right _))
theorem qAf {x:Vector UInt8 16} {s:List (Vector UInt8 16)}:∀ {rp q:List (Vector UInt8 16)},WT rp x (q++s)=WT rp x q++s
 | [],q=>rfl
 | y::r,q=>by
  unfold WT
  split
  ·exact qAf (q:=y::q)
  ·rw [List.append_assoc]; rfl
abbrev qhS (l:List (Vector UInt8 16)):Prop:=l.Pairwise fun a b=>lbB a b=true
theorem qt8 {x:Vector UInt8 16}:∀ {rp q:List (Vector UInt8 16)},qhS (rp.reverse++q)→(∀ y∈q,lbB x y=true)→x∉rp→qhS (WT rp x q)
 | [],q,h,hq,_=>List.pairwise_cons.2 ⟨hq,h⟩
 | y::r,q,h,hq,hx=>by
  rw [List.mem_cons,not_or] at hx
  unfold WT
  split
  ·rename_i hlt
   refine qt8 (rp:=r) (q:=y::q) ?_ (fun z hz=>?_) hx.2
   ·rw [List.reverse_cons,List.append_assoc] at h; exact h
   ·rcases List.mem_cons.1 hz with rfl | hz
    ·exact hlt
    ·exact hq z hz
  ·rename_i hlt
   have hyx:lbB y x=true:=by
    rcases qPL x y with h1 | h1 | h1
    ·exact (hlt h1.1).elim
    ·exact (hx.1 h1).elim
    ·exact h1.1
   obtain ⟨h1,h2,h3⟩:=List.pairwise_append.1 h
   refine List.pairwise_append.2 ⟨h1,List.pairwise_cons.2 ⟨hq,h2⟩,fun a ha b hb=>?_⟩
   have hay:lbB a x=true:=by
    rw [List.reverse_cons,List.mem_append,List.mem_singleton] at ha
    rcases ha with ha | rfl
    ·rw [List.reverse_cons] at h1
     exact qrZ ((List.pairwise_append.1 h1).2.2 a ha y (List.mem_singleton.2 rfl)) hyx
    ·exact hyx
   rcases List.mem_cons.1 hb with rfl | hb
   ·exact hay
   ·exact h3 a ha b hb
theorem qz7:∀ {l p:List (Vector UInt8 16)},qhS p→(p++l).Nodup→qhS (l.foldl (fun p x=>WT p.reverse x []) p)∧(l.foldl (fun p x=>WT p.reverse x []) p).Perm (p++l)
 | [],p,h,_=>⟨h,by rw [List.append_nil]; exact List.Perm.refl _⟩
 | x::l,p,h,hn=>by
  have hp:(WT p.reverse x []).Perm (x::p):=qri.trans (List.Perm.cons _ (by rw [List.append_nil]; exact List.reverse_perm _))
  have hx:x∉p:=fun hx=>by
   have:=(List.nodup_append.1 hn).2.2 x hx x (List.mem_cons_self ..)
   exact this rfl
  have hs:qhS (WT p.reverse x []):=qt8 (by rw [List.reverse_reverse,List.append_nil]; exact h) (fun y hy=>absurd hy (List.not_mem_nil)) (by rw [List.mem_reverse]; exact hx)
  have hpl:(WT p.reverse x []++l).Perm (p++x::l):=(hp.append_right l).trans List.perm_middle.symm
  obtain ⟨h1,h2⟩:=qz7 (l:=l) hs (hpl.nodup_iff.2 hn)
  exact ⟨h1,h2.trans hpl⟩
theorem qNp {l:List (Vector UInt8 16)} (h:l.Nodup):qhS (Qx l)∧(Qx l).Perm l:=by
 have:=qz7 (l:=l) (p:=[]) List.Pairwise.nil (by simpa using h)
 rw [List.nil_append] at this
 exact this
section
variable {N:Nat} [JA N]
theorem qML (a b:Vector UInt8 16):∃ n:Int,qiy a b=some n∧decide (n < 0)=lbB a b:=by
 refine ⟨compareBytes a.toList b.toList,rfl,?_⟩
 rw [qsi]; rfl
theorem qHa {s2 s8 : Int} : ∀ (rp : List (Vector UInt8 16)) (x : Vector UInt8 16) (q : List (Vector UInt8 16)) (n m : Nat), (rp.reverse ++ x :: q).length = n → n ≤ 1000 → rp.length < m →
    ∃ j b,qY (jj N n 0 s2 s8) some m (rp.reverse++x::q,(rp.length:Int))=some (WT rp x q,j,b)
 | _,_,_,_,0,_,_,hm=>by omega
 | [],x,q,n,m + 1,hn,hs,hm=>by
  refine ⟨((0:Nat):Int),false,?_⟩
  rw [zV (x:=(([]:List (Vector UInt8 16)).reverse++x::q,((0:Nat):Int),false)) (by unfold jj; exact w_f rfl (qU rfl)) m]
  rfl
 | y::r,x,q,n,m + 1,hn,hs,hm=>by
  have hl:(y::r).reverse.length=r.length + 1:=by simp
  have e0:(y::r).reverse++x::q=r.reverse++y::(x::q):=by rw [List.reverse_cons,List.append_assoc]; rfl
  have hrl:r.reverse.length=r.length:=List.length_reverse
  have hnl:r.length + 1 < n:=by rw [← hn,List.length_append,hl,List.length_cons]; omega
  obtain ⟨c,hc,hlt⟩:=qML x y
  have c0:(0:Int)≤((r.length + 1:Nat):Int)∧((r.length + 1:Nat):Int) < ((n:Nat):Int):=by omega
  have c1:qt (((r.length + 1:Nat):Int) - 1):=by unfold qt; omega
  have c2:(0:Int)≤((r.length + 1:Nat):Int) - 1∧((r.length + 1:Nat):Int) - 1 < ((n:Nat):Int):=by omega
  have g1:Zd ((y::r).reverse++x::q) n (((r.length + 1:Nat):Int)).toNat=some x:=by
   have:=qCS (p:=(y::r).reverse) (x:=x) (q:=q) hn
   rw [hl] at this; exact this
  have t1:(((r.length + 1:Nat):Int) - 1).toNat=r.length:=by omega
  have g2:Zd ((y::r).reverse++x::q) n (((r.length + 1:Nat):Int) - 1).toNat=some y:=by
   rw [t1,e0]
   have:=qCS (p:=r.reverse) (x:=y) (q:=x::q) (n:=n) (by rw [← e0]; exact hn)
   rw [hrl] at this; exact this
  cases hb:lbB x y with
  | false=>
   refine ⟨((r.length + 1:Nat):Int),decide (c < 0),?_⟩
   rw [zV (x:=((y::r).reverse++x::q,((r.length + 1:Nat):Int),decide (c < 0))) (by
    unfold jj
    exact w_t (decide_eq_true (by show (0:Int) < ((r.length + 1:Nat):Int); omega)) (q9 c0 (qy g1 (q9 c1 (q9 c2 (qy g2 (qy hc (w_f (hlt.trans hb) (qU rfl)))))))) ) m]
   unfold WT
   rw [if_neg (by rw [hb]; simp)]
  | true=>
   obtain ⟨j,b,h⟩:=qHa r x (y::q) n m (by rw [← hn,e0]; simp) hs (by simp at hm; omega)
   refine ⟨j,b,?_⟩
   have s1:((y::r).reverse++x::q).set (((r.length + 1:Nat):Int)).toNat y=(y::r).reverse++y::q:=by
    have:=qze (p:=(y::r).reverse) (x:=x) (y:=y) (q:=q)
    rw [hl] at this; exact this
   have s2:((y::r).reverse++y::q).set (((r.length + 1:Nat):Int) - 1).toNat x=r.reverse++x::(y::q):=by
    rw [t1,show (y::r).reverse++y::q=r.reverse++y::(y::q) by rw [List.reverse_cons,List.append_assoc]; rfl]
    have:=qze (p:=r.reverse) (x:=y) (y:=x) (q:=y::q)
    rw [hrl] at this; exact this
   have v1:qcx ((y::r).reverse++x::q).length n (((r.length + 1:Nat):Int)).toNat:=⟨hn,by omega⟩
   have v2:qcx (((y::r).reverse++x::q).set (((r.length + 1:Nat):Int)).toNat y).length n (((r.length + 1:Nat):Int) - 1).toNat:=⟨by rw [List.length_set]; exact hn,by omega⟩
   rw [J1 (v':=(r.reverse++x::(y::q),(r.length:Int))) (by
    unfold jj
    refine w_t (decide_eq_true (by show (0:Int) < ((r.length + 1:Nat):Int); omega)) (q9 c0 (qy g1 (q9 c1 (q9 c2 (qy g2 (qy hc (w_t (hlt.trans hb) (q9 c1 (q9 c1 (q9 c2 (qy g2 (q9 c0 (qy g1 (q9 c0 (q9 v1 (q9 c2 (q9 v2 (q9 c1 (qU ?_)))))))))))))))))))
    show some (Sum.inl ((((y::r).reverse++x::q).set (((r.length + 1:Nat):Int)).toNat y).set (((r.length + 1:Nat):Int) - 1).toNat x,((r.length + 1:Nat):Int) - 1))=_
    rw [s1,s2,show ((r.length + 1:Nat):Int) - 1=(r.length:Int) by omega]) m]
   unfold WT
   rw [if_pos hb]
   exact h
theorem qH3 {l:List (Vector UInt8 16)} (hs:l.length≤1000) (h0:l≠[]):zX N l 0 (l.length:Int)=some (Qx l):=by
 have hN:=big N
 have hpos:0 < l.length:=List.length_pos_iff.2 h0
 have key:vu N l.length 0 (l.length:Int) l 1=some (Qx l,(l.length:Int),false):=by
  have h:=Vq (B:=zJ N l.length 0 (l.length:Int)) (g:=some) (I:=fun v=>∃ k:Nat,1≤k∧k≤l.length∧v=(Qx (l.take k)++l.drop k,(k:Int))) (Q:=fun y=>y=(Qx l,(l.length:Int),false)) (fun v=>l.length - v.2.toNat) ?_ N (l,((1:Nat):Int))
   ⟨1,Nat.le_refl _,hpos,by
    cases l with
    | nil=>exact (h0 rfl).elim
    | cons x r=>rfl⟩ (by simp; omega)
  ·obtain ⟨y,e,rfl⟩:=h
   exact e
  rintro v ⟨k,h1,hk,rfl⟩
  have hlen:∀ j,j≤l.length→(Qx (l.take j)).length=j:=by
   intro j hj
   have:∀ (m p:List (Vector UInt8 16)),(m.foldl (fun p x=>WT p.reverse x []) p).length=p.length + m.length:=by
    intro m
    induction m with
    | nil=>intro p; rfl
    | cons x m ih=>
     intro p
     rw [List.foldl_cons,ih,qri.length_eq]
     simp; omega
   unfold Qx
   rw [this]; simp; omega
  by_cases h:k < l.length
  ·left
   have ed:l.drop k=l.getD k (Vector.replicate 16 0)::l.drop (k + 1):=by
    rw [List.drop_eq_getElem_cons h,List.getD_eq_getElem?_getD,List.getElem?_eq_getElem h]; rfl
   have et:Qx (l.take (k + 1))=WT (Qx (l.take k)).reverse (l.getD k (Vector.replicate 16 0)) []:=by
    unfold Qx
    rw [List.take_succ_eq_append_getElem h,List.foldl_append,List.getD_eq_getElem?_getD,List.getElem?_eq_getElem h]; rfl
   have hll:(Qx (l.take k)).reverse.length=k:=by rw [List.length_reverse,hlen k hk]
   obtain ⟨j,b,e⟩:=qHa (N:=N) (s2:=(l.length:Int)) (s8:=(k:Int)) (Qx (l.take k)).reverse (l.getD k (Vector.replicate 16 0)) (l.drop (k + 1)) l.length N (by
    rw [List.reverse_reverse,← ed,List.length_append,hlen k hk,List.length_drop]; omega) hs (by omega)
   rw [List.reverse_reverse,← ed,hll] at e
   have er:WT (Qx (l.take k)).reverse (l.getD k (Vector.replicate 16 0)) (l.drop (k + 1))=Qx (l.take (k + 1))++l.drop (k + 1):=by
    rw [et,← qAf]; rfl
   rw [er] at e
   refine ⟨(Qx (l.take (k + 1))++l.drop (k + 1),((k + 1:Nat):Int)),?_,⟨k + 1,by omega,h,rfl⟩,by simp only [Int.toNat_natCast]; omega⟩
   unfold zJ
   exact w_t (dec_lt h) (qy e (q9 (jz (by omega)) (qU (by rw [zd]))))
  ·right
   obtain rfl:k=l.length:=by omega
   refine ⟨(Qx l,(l.length:Int),false),_,?_,rfl,rfl⟩
   unfold zJ
   refine w_f (zp (Nat.lt_irrefl _)) (qU ?_)
   dsimp only
   rw [zp (Nat.lt_irrefl _),List.take_of_length_le (Nat.le_refl _),List.drop_of_length_le (Nat.le_refl _),List.append_nil]
 unfold zX vC
 exact q9 (by unfold qt; omega) (qy key (qU rfl))
theorem qGb:zX N [] 0 ((([]:List (Vector UInt8 16)).length:Nat):Int)=some []:=by
 have key:vu N 0 0 ((0:Nat):Int) [] 1=some ([],1,false):=by
  obtain ⟨M,hM⟩:∃ M,N=M + 1:=⟨N - 1,by have:=big N; omega⟩
  show qY (zJ N 0 0 ((0:Nat):Int)) some N ([],1)=_
  have:∀ K,K=M + 1→qY (zJ N 0 0 ((0:Nat):Int)) some K ([],1)=some ([],1,false):=by
   rintro K rfl
   rw [zV (x:=([],1,false)) (by unfold zJ; exact w_f rfl (qU rfl))]
  exact this N hM
 unfold zX vC
 exact q9 (by unfold qt; omega) (qy key (qU rfl))
theorem qO5 {l:List (Vector UInt8 16)} (h:l.length≤12):Wb N l=some (Qx l):=by
 have e1:zX N l 0 ((l.length:Nat):Int)=some (Qx l):=by
  cases l with
  | nil=>exact qGb
  | cons x r=>exact qH3 (by omega) (by simp)
 have e2:∀ z:Int,ZO N l 0 ((l.length:Nat):Int) z=some (Qx l):=fun z=>by
  have key:JY N l 0 ((l.length:Nat):Int) z=some (Qx l):=by
   obtain ⟨M,hM⟩:∃ M,N=M + 1:=⟨N - 1,by have:=big N; omega⟩
   show qY (Qg N l 0 ((l.length:Nat):Int) z) some N ()=_
   have:∀ K,K=M + 1→qY (Qg N l 0 ((l.length:Nat):Int) z) some K ()=some (Qx l):=by
    rintro K rfl
    rw [zV (x:=Qx l) (by unfold Qg; exact q9 (by unfold qt; omega) (w_t (decide_eq_true (by omega)) (qy ((zj rfl).trans e1) (qU rfl))))]
   exact this N hM
  unfold ZO Vw
  exact qy ((zj rfl).trans key) (qU rfl)
 have e3:∃ z,qcD (IntKind.u64.wrap ((l.length:Nat):Int))=some z:=by
  rw [qMw (by omega)]
  have:∀ k,k≤12→(qcD ((k:Nat):Int)).isSome=true:=by decide +kernel
  exact Option.isSome_iff_exists.1 (this _ h)
 obtain ⟨z,e3⟩:=e3
 unfold Wb YX
 exact qy e3 (qy ((zj rfl).trans (e2 z)) (qU rfl))
end
end Go.Rx
end
set_option maxRecDepth 100000
noncomputable section
namespace Go.Rx
open Go.Proofs
open Go.Lib (compareBytes)
section
variable {N:Nat} [JA N]
theorem qox (a b:Vector UInt8 32):qfo a b=some (ltD a b):=by
 unfold qfo qnP ltD
 rw [qF,eqD]
 by_cases h:a=b
 ·subst h; rw [decide_eq_true rfl,XP]; rfl
 ·rw [decide_eq_false h]; rfl
end
end Go.Rx
end
set_option maxRecDepth 100000
noncomputable section
namespace Go.Rx
open Go.Proofs
open Go.Lib (compareBytes)
section
variable {N:Nat} [JA N]
theorem qNy {x y : Bool} {p : Prop} (h : (x = true ∧ y = false) ∨ p ∨ (y = true ∧ x = false)) (hp : p → x = false ∧ y = false) :
    ∃ n:Int,(Tree.cond x (.ret (-1:Int)) (.cond y (.ret 1) (.ret 0))).run some=some n∧(decide (n=0)=true↔p)∧(¬ p→decide (n < 0)=x):=by
 rcases h with ⟨h1,h2⟩ | h1 | ⟨h1,h2⟩
 ·subst h1; subst h2
  exact ⟨-1,rfl,⟨fun h=>by simp at h,fun h=>by have:=(hp h).1; simp at this⟩,fun _=>rfl⟩
 ·obtain ⟨h2,h3⟩:=hp h1
  subst h2; subst h3
  exact ⟨0,rfl,⟨fun _=>h1,fun _=>rfl⟩,fun h=>(h h1).elim⟩
 ·subst h1; subst h2
  exact ⟨1,rfl,⟨fun h=>by simp at h,fun h=>by have:=(hp h).2; simp at this⟩,fun _=>rfl⟩
theorem qKv (a b:qd):∃ n:Int,YB N a b=some n∧(decide (n=0)=true↔a=b)∧(a≠b→decide (n < 0)=slB a b):=by
 obtain ⟨n,h1,h2,h3⟩:=qNy (KJ a b) fun h=>by subst h; exact ⟨Qv a,Qv a⟩
 refine ⟨n,?_,h2,h3⟩
 unfold YB qaH
 rw [run_bind,V4,Option.bind_some,← h1,qF,qF,run_bind,V4,Option.bind_some]
theorem qKa (a b:Vector UInt8 32):∃ n:Int,WO a b=some n∧(decide (n=0)=true↔a=b)∧(a≠b→decide (n < 0)=ltD a b):=by
 have ht:(ltD a b=true∧ltD b a=false)∨a=b∨(ltD b a=true∧ltD a b=false):=by
  rcases qhX a.toList b.toList with h | h | h
  ·exact .inl h
  ·exact .inr (.inl (Vector.toList_inj.1 h))
  ·exact .inr (.inr h)
 obtain ⟨n,h1,h2,h3⟩:=qNy ht fun h=>by subst h; exact ⟨XP _,XP _⟩
 refine ⟨n,?_,h2,h3⟩
 unfold WO KK
 rw [run_bind,qox,Option.bind_some,← h1,qF,qF,run_bind,qox,Option.bind_some]
theorem qPZ (a b:List UInt8):∃ n:Int,Wd a b=some n∧(decide (n=0)=true↔a=b)∧(a≠b→decide (n < 0)=ltB a b):=by
 have e:∀ x:List UInt8,YK x=some ():=fun x=>rfl
 have g:(!(Op.bytesLess a b||decide (a=b)))=ltB b a:=by
  rw [qwF]
  rcases qhX a b with h | h | h
  ·rw [h.1,h.2]; rfl
  ·subst h; rw [decide_eq_true rfl,XP]; rfl
  ·have:a≠b:=fun e=>by subst e; rw [XP] at h; simp at h
   rw [h.1,h.2,decide_eq_false this]; rfl
 obtain ⟨n,h1,h2,h3⟩:=qNy (qhX a b) fun h=>by subst h; exact ⟨XP _,XP _⟩
 refine ⟨n,?_,h2,h3⟩
 unfold Wd YG
 refine qy (e a) (qy (e b) (w_f (by rw [decide_eq_true rfl]; rfl) (w_f (by rw [decide_eq_true rfl]; rfl) ?_)))
 rw [← h1,qF,qF,qF,qF,qwF a b,← g,qwF a b]
theorem qNf {a b:qe} (ha:a.V.length≤50000) (hb:b.V.length≤50000):qko N a b=some (Qc a b):=by
 obtain ⟨n1,e1,z1,l1⟩:=qKv (N:=N) a.S b.S
 obtain ⟨n2,e2,z2,l2⟩:=qKa (zK a.V) (zK b.V)
 obtain ⟨n3,e3,z3,l3⟩:=qPZ a.V b.V
 have f1:qfC N a b=some n1:=by unfold qfC qgP; exact qy e1 (qU rfl)
 have f2:qfJ N a b=some n2:=by unfold qfJ qgo; exact qy (qiW ha) (qy (qiW hb) (qy e2 (qU rfl)))
 have f3:qfH a b=some n3:=by unfold qfH qgw; exact qy e3 (qU rfl)
 have key:∃ M,N=M + 1:=⟨N - 1,by have:=big N; omega⟩
 obtain ⟨M,hM⟩:=key
 have z:∀ {n:Int} {p:Prop},(decide (n=0)=true↔p)→p→(!decide (n=0))=false:=fun h hp=>by rw [h.2 hp]; rfl
 have nz:∀ {n:Int} {p:Prop},(decide (n=0)=true↔p)→¬ p→(!decide (n=0))=true:=fun {n} {p} h hp=>by
  cases e:decide (n=0) with
  | false=>rfl
  | true=>exact (hp (h.1 e)).elim
 have hl:qee N a b=some (if a.S=b.S∧zK a.V=zK b.V∧a.V=b.V then .inr () else .inl (Qc a b)):=by
  have s1:qee N a b=qY (qbd N a b) (qfh N N (a,b)) (M + 1) ():=by rw [← hM]; rfl
  rw [s1]
  by_cases h1:a.S=b.S
  ·rw [zV (x:=.inl ()) (by unfold qbd; exact q9 (by omega) (qy f1 (w_f (z z1 h1) (qU rfl))))]
   show qY (Z4 N a b) (VM N N (a,b)) N ()=_
   rw [show qY (Z4 N a b) (VM N N (a,b)) N ()=qY (Z4 N a b) (VM N N (a,b)) (M + 1) () by rw [← hM]]
   by_cases h2:zK a.V=zK b.V
   ·rw [zV (x:=.inl ()) (by unfold Z4; exact q9 (by omega) (qy f2 (w_f (z z2 h2) (qU rfl))))]
    show qY (Z6 N a b) (VA N N (a,b)) N ()=_
    rw [show qY (Z6 N a b) (VA N N (a,b)) N ()=qY (Z6 N a b) (VA N N (a,b)) (M + 1) () by rw [← hM]]
    by_cases h3:a.V=b.V
    ·rw [zV (x:=.inl ()) (by unfold Z6; exact q9 (by omega) (qy f3 (w_f (z z3 h3) (qU rfl))))]
     show qY (VH N a b) some N ()=_
     rw [show qY (VH N a b) some N ()=qY (VH N a b) some (M + 1) () by rw [← hM]]
     rw [zV (x:=.inr ()) (by unfold VH; exact qU rfl),if_pos ⟨h1,h2,h3⟩]
    ·rw [zV (x:=.inr (.inl (decide (n3 < 0)))) (by unfold Z6; exact q9 (by omega) (qy f3 (w_t (nz z3 h3) (qU rfl)))),if_neg (fun h=>h3 h.2.2)]
     show some (Sum.inl (decide (n3 < 0)))=_
     rw [l3 h3]
     unfold Qc
     rw [if_pos h1,if_pos h2]
   ·rw [zV (x:=.inr (.inl (decide (n2 < 0)))) (by unfold Z4; exact q9 (by omega) (qy f2 (w_t (nz z2 h2) (qU rfl)))),if_neg (fun h=>h2 h.2.1)]
    show some (Sum.inl (decide (n2 < 0)))=_
    rw [l2 h2]
    unfold Qc
    rw [if_pos h1,if_neg h2]
  ·rw [zV (x:=.inr (.inl (decide (n1 < 0)))) (by unfold qbd; exact q9 (by omega) (qy f1 (w_t (nz z1 h1) (qU rfl)))),if_neg (fun h=>h1 h.1)]
   show some (Sum.inl (decide (n1 < 0)))=_
   rw [l1 h1]
   unfold Qc
   rw [if_neg h1]
 unfold qko qlJ
 refine qy hl ?_
 by_cases h:a.S=b.S∧zK a.V=zK b.V∧a.V=b.V
 ·rw [if_pos h]
  show some false=_
  unfold Qc
  rw [if_pos h.1,if_pos h.2.1,h.2.2,XP]
 ·rw [if_neg h]; rfl
theorem qQ_ {a b:qe} (ha:a.V.length≤50000) (hb:b.V.length≤50000):qj_ N a b=some (cJ a b):=by
 unfold qj_ qk8 cJ
 refine qy (qNf ha hb) ?_
 cases Qc a b<;>rfl
theorem qQi (a b:qd):qkB N a b=some (mxS a b):=by
 unfold qkB qk2 mxS
 refine qy (V4 _ _) ?_
 cases slB a b<;>rfl
end
end Go.Rx
end
set_option maxRecDepth 100000
noncomputable section
namespace Go.Rx
open Go.Proofs
section
variable {N:Nat} [JA N]
theorem qPC {l : List qc} (h8 : l.length ≤ 600) (hV : ∀ k, k < l.length → (l.getD k zF).C.V.length ≤ 200) {c : Nat} {M : List (Int × qe × Nat)} {g : Int → Option qe} (hM : ∀ no, qap no M = g no) (hg : qhM g) :
    ∃ c' M',KN N l ((l.length:Nat):Int) c M 0=some (c',M',((l.length:Nat):Int),false)∧(∀ no,qap no M'=l.foldl XV g no)∧qhM (l.foldl XV g):=by
 have key:∃ y,qY (Zr N l ((l.length:Nat):Int)) some N (c,M,((0:Nat):Int))=some y∧∃ c' M',y=(c',M',((l.length:Nat):Int),false)∧(∀ no,qap no M'=l.foldl XV g no)∧qhM (l.foldl XV g):=by
  refine Vq (I:=fun v=>∃ (k c':Nat) (M':List (Int×qe×Nat)),k≤l.length∧v=(c',M',(k:Int))∧(∀ no,qap no M'=(l.take k).foldl XV g no)∧qhM ((l.take k).foldl XV g)) (fun v=>l.length - v.2.2.toNat) ?_ N _ ⟨0,c,M,Nat.zero_le _,rfl,hM,hg⟩ (by have:=big N; simp; omega)
  rintro v ⟨k,c',M',hk,rfl,hi,hs⟩
  by_cases h:k < l.length
  ·left
   have et:(l.take (k + 1)).foldl XV g=XV ((l.take k).foldl XV g) (l.getD k zF):=by
    rw [List.take_succ_eq_append_getElem h,List.foldl_append,List.getD_eq_getElem?_getD,List.getElem?_eq_getElem h]; rfl
   have hs':qhM ((l.take (k + 1)).foldl XV g):=by rw [et]; exact qIa hs (hV k h)
   have hno:=hi (l.getD k zF).No
   unfold qap at hno
   cases e:fnd (β:=qe) (.i .i64) (l.getD k zF).No M' with
   | none=>
    rw [e] at hno
    refine ⟨((ZB (.i .i64) (qc.No (l.getD k zF)) (qc.C (l.getD k zF)) c' M').1,(ZB (.i .i64) (qc.No (l.getD k zF)) (qc.C (l.getD k zF)) c' M').2,((k + 1:Nat):Int)),?_,⟨k + 1,_,_,h,rfl,?_,hs'⟩,by simp only [Int.toNat_natCast]; omega⟩
    ·unfold Zr
     exact w_t (dec_lt h) (qy (zY (d:=zF) h) (qCy e (q9 (jz (by omega)) (qU (by rw [zd])))))
    ·intro no
     rw [qEE,et,qC4]
     by_cases hq:no=(l.getD k zF).No
     ·rw [if_pos hq,if_pos hq.symm,hq,← hno]; rfl
     ·rw [if_neg hq,if_neg (fun e=>hq e.symm),hi no]
   | some x=>
    rw [e] at hno
    have hx:x.1.V.length≤200:=hs _ _ hno.symm
    refine ⟨((ZB (.i .i64) (qc.No (l.getD k zF)) (cJ x.1 (qc.C (l.getD k zF))) c' M').1,(ZB (.i .i64) (qc.No (l.getD k zF)) (cJ x.1 (qc.C (l.getD k zF))) c' M').2,((k + 1:Nat):Int)),?_,⟨k + 1,_,_,h,rfl,?_,hs'⟩,by simp only [Int.toNat_natCast]; omega⟩
    ·unfold Zr
     exact w_t (dec_lt h) (qy (zY (d:=zF) h) (qw0 e (qy (qQ_ (by omega) (by have:(l.getD k zF).C.V.length≤200:=hV k h; omega)) (q9 (jz (by omega)) (qU (by rw [zd]))))))
    ·intro no
     rw [qEE,et,qC4]
     by_cases hq:no=(l.getD k zF).No
     ·rw [if_pos hq,if_pos hq.symm,hq,← hno]; rfl
     ·rw [if_neg hq,if_neg (fun e=>hq e.symm),hi no]
  ·right
   obtain rfl:k=l.length:=by omega
   refine ⟨(c',M',((l.length:Nat):Int),false),_,?_,rfl,c',M',rfl,?_⟩
   ·unfold Zr
    exact w_f (zp (Nat.lt_irrefl _)) (qU (by rw [zp (Nat.lt_irrefl _)]))
   ·rw [List.take_of_length_le (Nat.le_refl _)] at hi hs
    exact ⟨hi,hs⟩
 obtain ⟨y,e,c',M',rfl,h⟩:=key
 exact ⟨c',M',e,h⟩
theorem qG7 {r : qa} (hr : jb r = true) {c : Nat} {M : List (Int × qe × Nat)} {g : Int → Option qe} (hM : ∀ no, qap no M = g no) (hg : qhM g) :
    ∃ c' M',Xn N c M r=some (c',M')∧(∀ no,qap no M'=jC (g no) (cO r.F no))∧qhM (r.F.foldl XV g):=by
 have h8:=Yj hr
 obtain ⟨c',M',e,h,hs⟩:=qPC (N:=N) (l:=r.F) (by omega) (fun k hk=>qiL (ZS.1 ((Jw.1 hr).2.2 k hk)).2.2.1) (c:=c) hM hg
 refine ⟨c',M',?_,fun no=>?_,hs⟩
 ·unfold Xn qaz
  exact qy e (qU rfl)
 ·rw [h,qzj (qEi hr)]
theorem qJ8 {o : List qc} {c : Nat} {M : List (Int × qe × Nat)} {o5 : Vector UInt8 16} {o6 : qd} {o7 : Vector UInt8 16} {o8 dead : qd} :
    Vg N o [] c M o5 o6 o7 o8 dead=some (Z5 (fun no=>qap no M) dead 8 0):=by
 have key:Xo N o c M o5 o6 o7 o8 dead [] 0=some (ZH (fun k s=>s++qkA dead k (qap (k:Int) M)) 8 0 [],(8:Int),false):=by
  refine jY (σ:=List qc) (B:=Q8 N o c M o5 o6 o7 o8 dead) (g:=some) (at_:=fun k s=>(s,(k:Int))) (I:=fun k s=>s.length≤k) (f:=fun k s=>s++qkA dead k (qap (k:Int) M)) (n:=8)
   (fin:=fun s=>(s,(8:Int),false)) (fun k s hk hs=>⟨?_,?_⟩) (fun s _=>?_) N 0 [] (Nat.le_refl _) (Nat.zero_le _) (by have:=big N; omega)
  ·have d8:decide ((k:Int) < 8)=true:=decide_eq_true (by omega)
   unfold Q8
   refine w_t d8 ?_
   unfold qap
   cases e:fnd (β:=qe) (.i .i64) (k:Int) M with
   | none=>exact qCy rfl (q9 (jz (by omega)) (qU (by rw [zd]; show _=some (Sum.inl (s++[],_)); rw [List.append_nil])))
   | some x=>
    refine qw0 rfl (qy (V4 _ _) ?_)
    have hk2:qkA dead k (Option.map (fun x=>x.1) (some x))=if slB dead x.1.S=true then [qc.mk (k:Int) x.1] else []:=rfl
    rw [hk2]
    cases hb:slB dead (qe.S x.1) with
    | false=>
     rw [if_neg (by simp),List.append_nil]
     exact w_f rfl (q9 (jz (by omega)) (qU (by rw [zd])))
    | true=>
     rw [if_pos rfl]
     have er:YO o s c M o5 o6 o7 o8 dead (qc.mk (k:Int) x.1)=some ():=by
      unfold YO qai
      exact q9 ⟨rfl,by rw [List.length_append]; unfold zc; simp; omega⟩ (qU rfl)
     exact w_t rfl (qy ((zj rfl).trans ((zj rfl).trans er)) (q9 (jz (by omega)) (qU (by rw [zd]))))
  ·have:=qzS (dead:=dead) (k:=k) (c:=qap (k:Int) M)
   rw [List.length_append]; omega
  ·unfold Q8
   exact w_f rfl (qU rfl)
 unfold Vg XG
 refine qy ((zj rfl).trans ((zj rfl).trans key)) (qU ?_)
 rw [qqi (g:=fun no=>qap no M),List.nil_append]
theorem qRa {a b:qa} (ha:jb a=true) (hb:jb b=true) (hid:a.ID=b.ID):qoH N a b=some (rJ a b,true):=by
 have hN:=big N
 have h8a:=Yj ha
 have h8b:=Yj hb
 obtain ⟨c1,M1,e1,h1,s1⟩:=qG7 (N:=N) ha (c:=0) (M:=[]) (g:=fun _=>none) (fun no=>rfl) (fun no c h=>by cases h)
 obtain ⟨c2,M2,e2,h2,_⟩:=qG7 (N:=N) hb (c:=c1) (M:=M1) (g:=fun no=>cO a.F no) (fun no=>by rw [h1]; rfl) (by
  have:(a.F.foldl XV fun _=>none)=fun no=>cO a.F no:=by funext no; rw [qzj (qEi ha)]; rfl
  rw [← this]; exact s1)
 have ef:=qJ8 (N:=N) (o:=[]) (c:=c2) (M:=M2) (o5:=Vector.replicate 16 0) (o6:=qd.mk 0 0) (o7:=a.ID) (o8:=mxS a.qB b.qB) (dead:=mxS a.qB b.qB)
 have eg:(fun no=>qap no M2)=fun no=>jC (cO a.F no) (cO b.F no):=funext h2
 rw [eg] at ef
 unfold qoH qoB
 exact qy (qsn (by omega) (by omega)) (w_f (by rw [ha]; rfl) (qy (qsn (by omega) (by omega)) (w_f (by rw [hb]; rfl) (w_f (by rw [qM0]; show (!decide (a.ID=b.ID))=false; rw [decide_eq_true hid]; rfl)
  (qy e1 (qy e2 (qy (qQi _ _) (qy rfl (qy ((zj rfl).trans ((zj rfl).trans ef)) (q9 rfl (qU rfl)))))))))))
end
end Go.Rx
end
set_option maxRecDepth 100000
noncomputable section
namespace Go.Rx
open Go.Proofs
section n
variable {N:Nat} [JA N]
theorem qKw {l:List qc} (h:l.length≤1000000):QV l=some ():=by
 unfold QV
 cases l with
 | nil=>kernel_rfl
 | cons x r=>
  show qat (x::r)=_
  unfold qat Y7
  have h2:jx ([]:List qc).length 0 ([]++x::r).length 40:=⟨rfl,by rw [List.nil_append]; unfold zc; omega⟩
  rw [qS,qg (List.isEmpty_cons),qS,qg h2,qS,qg rfl,qP]
end n
end Go.Rx
end
set_option maxRecDepth 100000
noncomputable section
namespace Go.Rx
open Go.Proofs
theorem qiA {α:Type} {d:α} {l:List α} {k:Nat} (h:k < l.length):l.take (k + 1)=l.take k++[l.getD k d]:=by
 rw [List.take_succ_eq_append_getElem h,List.getD_eq_getElem?_getD,List.getElem?_eq_getElem h]; rfl
def qsC (g:Vector UInt8 16→Option qa) (r:qa) (id:Vector UInt8 16):Option qa:=if r.ID=id then jR (g id) (some r) else g id
theorem qvQ {g:Vector UInt8 16→Option qa} {r:qa} {id:Vector UInt8 16}:qsC g r id=if r.ID=id then jR (g id) (some r) else g id:=rfl
theorem XM {x:Option qa}:jR x none=x:=by cases x<;>rfl
theorem qyS:∀ {l:List qa} {g:Vector UInt8 16→Option qa} {id:Vector UInt8 16},KD l→l.foldl qsC g id=jR (g id) (rO l id)
 | [],g,id,_=>by rw [qwz,XM]; rfl
 | r::l,g,id,h=>by
  have hp:=List.pairwise_cons.1 h
  rw [List.foldl_cons,qyS hp.2,Vn,qvQ]
  by_cases e:r.ID=id
  ·rw [if_pos e,if_pos e]
   have:rO l id=none:=by
    cases hc:rO l id with
    | none=>rfl
    | some x=>
     have:=hp.1 x (Qa hc).1
     rw [e,(Qa hc).2,qcS] at this; cases this
   rw [this,XM]
  ·rw [if_neg e,if_neg e]
def VW (id:Vector UInt8 16) (M:List (Vector UInt8 16×qa×Nat)):Option qa:=(fnd (β:=qa) (.ba 16) id M).map (·.1)
theorem qCv {q k:Vector UInt8 16} {p:qa} {c:Nat} {M:List (Vector UInt8 16×qa×Nat)}:VW q (ZB (β:=qa) (.ba 16) k p c M).2=if q=k then some p else VW q M:=by
 have:=@qvt (El (.ba 16)) qa (Vp (.ba 16)) k q p c M
 rw [show VW q (ZB (β:=qa) (.ba 16) k p c M).2=@quX (El (.ba 16)) qa (Vp (.ba 16)) q (@qh_ (El (.ba 16)) qa (Vp (.ba 16)) k p c M).2 from rfl,this]
 by_cases h:q=k
 ·rw [if_pos h]; exact if_pos h
 ·rw [if_neg h]; exact if_neg h
structure qNv (l:List qa) (nm:List (Vector UInt8 16)) (M:List (Vector UInt8 16×qa×Nat)):Prop where
 nd:nm.Nodup
 val:∀ id,VW id M=l.foldl qsC (fun _=>none) id
 mem:∀ id,id∈nm↔VW id M≠none
 ok:∀ id r,VW id M=some r→jb r=true∧r.ID=id
 len:nm.length≤l.length
def qb1 (M:List (Vector UInt8 16×qa×Nat)) (l:List (Vector UInt8 16)):List qa:=l.map fun id=>(VW id M).getD zR
theorem qLf {M:List (Vector UInt8 16×qa×Nat)} {id:Vector UInt8 16}:∀ {l:List (Vector UInt8 16)},(∀ i∈l,∃ r,VW i M=some r∧r.ID=i)→rO (qb1 M l) id=if id∈l then VW id M else none
 | [],_=>by rw [if_neg List.not_mem_nil]; rfl
 | i::l,h=>by
  obtain ⟨r,e,hr⟩:=h i (List.mem_cons_self ..)
  show rO ((VW i M).getD zR::qb1 M l) id=_
  rw [e,Vn,qLf fun j hj=>h j (List.mem_cons_of_mem _ hj)]
  by_cases c:i=id
  ·subst c
   rw [if_pos (show (Option.getD (some r) zR).ID=i from hr),if_pos (List.mem_cons_self ..),e]; rfl
  ·rw [if_neg (show ¬ (Option.getD (some r) zR).ID=id from fun h'=>c (hr.symm.trans h'))]
   by_cases m:id∈l
   ·rw [if_pos m,if_pos (List.mem_cons_of_mem _ m)]
   ·rw [if_neg m,if_neg (fun hm=>by rcases List.mem_cons.1 hm with e' | e'; exact c e'.symm; exact m e')]
section
variable {N:Nat} [JA N]
theorem qz9 {α:Type} {l:List (List α)} {k:Nat} (h:k < l.length):(l.take (k + 1)).flatten=(l.take k).flatten++l.getD k []:=by
 rw [qiA (d:=[]) h,List.flatten_append]; simp
theorem qGB {α:Type} {l:List (List α)} {k:Nat}:(l.take k).flatten.length≤l.flatten.length:=by
 have:(l.take k).flatten++(l.drop k).flatten=l.flatten:=by rw [← List.flatten_append,List.take_append_drop]
 rw [← this,List.length_append]; omega
theorem qHp {l:List (List qa)} (hl:l.length≤1000) (hf:l.flatten.length≤1000):WD N l=some l.flatten:=by
 have hN:=big N
 have k1:YA N l l ((l.length:Nat):Int) 0 0=some (((l.flatten.length:Nat):Int),((l.length:Nat):Int),false):=by
  refine jY (σ:=Unit) (B:=JU N l l ((l.length:Nat):Int)) (g:=some) (at_:=fun k _=>((((l.take k).flatten.length:Nat):Int),(k:Int))) (I:=fun _ _=>True) (f:=fun _ s=>s) (n:=l.length)
   (fin:=fun _=>(((l.flatten.length:Nat):Int),((l.length:Nat):Int),false)) (fun k s hk _=>⟨?_,trivial⟩) (fun s _=>?_) N 0 () trivial (Nat.zero_le _) (by omega)
  ·have e1:(((l.take k).flatten.length:Nat):Int) + (((l.getD k []).length:Nat):Int)=(((l.take (k + 1)).flatten.length:Nat):Int):=by rw [qz9 hk,List.length_append]; omega
   have h2:=qGB (l:=l) (k:=k + 1)
   unfold JU
   refine w_t (dec_lt hk) (qy (zY (d:=[]) hk) ?_)
   dsimp only
   rw [e1]
   exact q9 (by unfold qt; omega) (w_f (decide_eq_false (by omega)) (q9 (jz (by omega)) (qU (by rw [zd]))))
  ·unfold JU
   exact w_f (zp (Nat.lt_irrefl _)) (qU (by rw [zp (Nat.lt_irrefl _),List.take_of_length_le (Nat.le_refl _)]))
 have k2:Vf N l ((l.length:Nat):Int) [] 0=some (l.flatten,((l.length:Nat):Int),false):=by
  refine jY (σ:=Unit) (B:=Jj N l ((l.length:Nat):Int)) (g:=some) (at_:=fun k _=>((l.take k).flatten,(k:Int))) (I:=fun _ _=>True) (f:=fun _ s=>s) (n:=l.length)
   (fin:=fun _=>(l.flatten,((l.length:Nat):Int),false)) (fun k s hk _=>⟨?_,trivial⟩) (fun s _=>?_) N 0 () trivial (Nat.zero_le _) (by omega)
  ·have h2:=qGB (l:=l) (k:=k + 1)
   unfold Jj
   refine w_t (dec_lt hk) (qy (zY (d:=[]) hk) ?_)
   dsimp only
   rw [← qz9 hk]
   exact q9 ⟨rfl,by unfold zc; omega⟩ (q9 (jz (by omega)) (qU (by rw [zd])))
  ·unfold Jj
   exact w_f (zp (Nat.lt_irrefl _)) (qU (by rw [zp (Nat.lt_irrefl _),List.take_of_length_le (Nat.le_refl _)]))
 unfold WD KQ
 refine qy k1 ?_
 by_cases h0:l.flatten.length=0
 ·have kg : J6 ((l.flatten.length : Nat) : Int) = some (.inr ()) := by
     unfold J6 WM
     exact w_f (decide_eq_false (by omega)) (q9 (by unfold qt; omega) (w_f (decide_eq_false (by omega)) (qU rfl)))
  exact qy kg (w_r rfl (qy ((zj rfl).trans k2) (q9 rfl (qU rfl))))
 ·have kg : J6 ((l.flatten.length : Nat) : Int) = some (.inl ()) := by
     unfold J6 WM
     exact w_f (decide_eq_false (by omega)) (q9 (by unfold qt; omega) (w_t (decide_eq_true (by omega)) (q9 ⟨by omega,by unfold zc; omega⟩ (qU rfl))))
  exact qy kg (w_l rfl (qy ((zj rfl).trans k2) (q9 rfl (qU rfl))))
theorem qPe {r:qa} (h:jb r=true):qm2 r=some ():=by
 unfold qm2 qof
 exact qy (qKw (by have:=Yj h; omega)) (qU rfl)
theorem qNA {L : List qa} (hl : L.length ≤ 1000) (hr : ∀ r ∈ L, jb r = true) :
    ∃ nm c M,qjf N [] L ((L.length:Nat):Int) [] 0 [] 0=some (nm,c,M,((L.length:Nat):Int),false)∧qNv L nm M:=by
 have hN:=big N
 have key:∃ y,qY (Ym N [] L ((L.length:Nat):Int)) some N ([],0,[],((0:Nat):Int))=some y∧∃ nm c M,y=(nm,c,M,((L.length:Nat):Int),false)∧qNv L nm M:=by
  refine Vq (I:=fun v=>∃ (k:Nat) (nm:List (Vector UInt8 16)) (c:Nat) (M:List (Vector UInt8 16×qa×Nat)),k≤L.length∧v=(nm,c,M,(k:Int))∧qNv (L.take k) nm M) (fun v=>L.length - v.2.2.2.toNat) ?_ N _ ⟨0,[],0,[],Nat.zero_le _,rfl,⟨List.nodup_nil,fun _=>rfl,fun id=>⟨fun h=>absurd h List.not_mem_nil,fun h=>(h rfl).elim⟩,fun _ _ h=>(by cases h),Nat.le_refl _⟩⟩ (by simp; omega)
  rintro v ⟨k,nm,c,M,hk,rfl,hi⟩
  by_cases h:k < L.length
  ·left
   have hmem:L.getD k zR∈L:=by rw [List.getD_eq_getElem?_getD,List.getElem?_eq_getElem h]; exact List.getElem_mem h
   have hrec:=hr _ hmem
   have et:∀ id,(L.take (k + 1)).foldl qsC (fun _=>none) id=qsC ((L.take k).foldl qsC fun _=>none) (L.getD k zR) id:=fun id=>by
    rw [qiA (d:=zR) h,List.foldl_append]; rfl
   have hlk:(L.take k).length=k:=by rw [List.length_take]; omega
   have hlk1:(L.take (k + 1)).length=k + 1:=by rw [List.length_take]; omega
   have hv:=hi.val (L.getD k zR).ID
   have hnl:=hi.len
   cases e:fnd (β:=qa) (.ba 16) (L.getD k zR).ID M with
   | none=>
    have hn:VW (L.getD k zR).ID M=none:=by unfold VW; rw [e]; rfl
    rw [hn] at hv
    refine ⟨(nm++[(L.getD k zR).ID],(ZB (.ba 16) (qa.ID (L.getD k zR)) (L.getD k zR) c M).1,(ZB (.ba 16) (qa.ID (L.getD k zR)) (L.getD k zR) c M).2,((k + 1:Nat):Int)),?_,⟨k + 1,_,_,_,h,rfl,?_⟩,by simp only [Int.toNat_natCast]; omega⟩
    ·unfold Ym
     exact w_t (dec_lt h) (qy (zY (d:=zR) h) (qCy e (q9 ⟨rfl,by rw [List.length_append]; unfold zc; simp; omega⟩ (qy (qPe hrec) (q9 (jz (by omega)) (qU (by rw [zd]; rfl)))))))
    ·have hpv:∀ id,VW id (ZB (.ba 16) (qa.ID (L.getD k zR)) (L.getD k zR) c M).2=if id=(L.getD k zR).ID then some (L.getD k zR) else VW id M:=fun id=>qCv
     refine ⟨?_,fun id=>?_,fun id=>?_,fun id r hr'=>?_,?_⟩
     ·refine List.nodup_append.2 ⟨hi.nd,List.nodup_cons.2 ⟨List.not_mem_nil,List.nodup_nil⟩,fun a ha b hb=>?_⟩
      obtain rfl:=List.mem_singleton.1 hb
      intro hab
      rw [hab] at ha
      exact (hi.mem _).1 ha hn
     ·rw [hpv,et,qvQ]
      by_cases q:id=(L.getD k zR).ID
      ·rw [if_pos q,if_pos q.symm,q,← hv]; rfl
      ·rw [if_neg q,if_neg (fun x=>q x.symm),hi.val]
     ·rw [hpv,List.mem_append,List.mem_singleton,hi.mem]
      by_cases q:id=(L.getD k zR).ID
      ·rw [if_pos q]; exact ⟨fun _=>by simp,fun _=>.inr q⟩
      ·rw [if_neg q]; exact ⟨fun x=>x.resolve_right q,fun x=>.inl x⟩
     ·rw [hpv] at hr'
      by_cases q:id=(L.getD k zR).ID
      ·rw [if_pos q] at hr'
       obtain rfl:=Option.some.inj hr'
       exact ⟨hrec,q.symm⟩
      ·rw [if_neg q] at hr'; exact hi.ok id r hr'
     ·rw [hlk1,List.length_append]; simp; omega
   | some x=>
    have hn:VW (L.getD k zR).ID M=some x.1:=by unfold VW; rw [e]; rfl
    rw [hn] at hv
    have hx:=hi.ok _ _ hn
    have ej:=qRa (N:=N) hx.1 hrec hx.2
    refine ⟨(nm,(ZB (.ba 16) (qa.ID (L.getD k zR)) (rJ x.1 (L.getD k zR)) c M).1,(ZB (.ba 16) (qa.ID (L.getD k zR)) (rJ x.1 (L.getD k zR)) c M).2,((k + 1:Nat):Int)),?_,⟨k + 1,_,_,_,h,rfl,?_⟩,by simp only [Int.toNat_natCast]; omega⟩
    ·unfold Ym
     exact w_t (dec_lt h) (qy (zY (d:=zR) h) (qw0 e (qy ej (q9 (jz (by omega)) (qU (by rw [zd]))))))
    ·have hpv:∀ id,VW id (ZB (.ba 16) (qa.ID (L.getD k zR)) (rJ x.1 (L.getD k zR)) c M).2=if id=(L.getD k zR).ID then some (rJ x.1 (L.getD k zR)) else VW id M:=fun id=>qCv
     refine ⟨hi.nd,fun id=>?_,fun id=>?_,fun id r hr'=>?_,?_⟩
     ·rw [hpv,et,qvQ]
      by_cases q:id=(L.getD k zR).ID
      ·rw [if_pos q,if_pos q.symm,q,← hv]; rfl
      ·rw [if_neg q,if_neg (fun x=>q x.symm),hi.val]
     ·rw [hpv,hi.mem]
      by_cases q:id=(L.getD k zR).ID
      ·rw [if_pos q,q,hn]; simp
      ·rw [if_neg q]
     ·rw [hpv] at hr'
      by_cases q:id=(L.getD k zR).ID
      ·rw [if_pos q] at hr'
       obtain rfl:=Option.some.inj hr'
       exact ⟨qjk hx.1 hrec,by rw [qQ7,hx.2,q]⟩
      ·rw [if_neg q] at hr'; exact hi.ok id r hr'
     ·rw [hlk1]; omega
  ·right
   obtain rfl:k=L.length:=by omega
   rw [List.take_of_length_le (Nat.le_refl _)] at hi
   refine ⟨(nm,c,M,((L.length:Nat):Int),false),_,?_,rfl,nm,c,M,rfl,hi⟩
   unfold Ym
   exact w_f (zp (Nat.lt_irrefl _)) (qU (by rw [zp (Nat.lt_irrefl _)]))
 obtain ⟨y,e,nm,c,M,rfl,h⟩:=key
 exact ⟨nm,c,M,e,h⟩
theorem qPa {nm : List (Vector UInt8 16)} {c n : Nat} {M : List (Vector UInt8 16 × qa × Nat)} (hn : nm.length = n) (hl : n ≤ 1000) (h : ∀ i ∈ nm, ∃ r, VW i M = some r ∧ r.ID = i) :
    qgp N [] nm c M n ((n:Nat):Int) [] 0=some (qb1 M nm,((n:Nat):Int),false):=by
 subst hn
 have hN:=big N
 refine jY (σ:=Unit) (B:=KT N [] nm c M nm.length ((nm.length:Nat):Int)) (g:=some) (at_:=fun k _=>(qb1 M (nm.take k),(k:Int))) (I:=fun _ _=>True) (f:=fun _ s=>s) (n:=nm.length)
  (fin:=fun _=>(qb1 M nm,((nm.length:Nat):Int),false)) (fun k s hk _=>⟨?_,trivial⟩) (fun s _=>?_) N 0 () trivial (Nat.zero_le _) (by omega)
 ·have hmem:nm.getD k (Vector.replicate 16 0)∈nm:=by rw [List.getD_eq_getElem?_getD,List.getElem?_eq_getElem hk]; exact List.getElem_mem hk
  obtain ⟨r,hr,_⟩:=h _ hmem
  have hf:∃ x,fnd (β:=qa) (.ba 16) (nm.getD k (Vector.replicate 16 0)) M=some x∧x.1=r:=by
   unfold VW at hr
   cases e:fnd (β:=qa) (.ba 16) (nm.getD k (Vector.replicate 16 0)) M with
   | none=>rw [e] at hr; cases hr
   | some x=>rw [e] at hr; exact ⟨x,rfl,Option.some.inj hr⟩
  obtain ⟨x,ex,hx⟩:=hf
  have eo:qb1 M (nm.take (k + 1))=qb1 M (nm.take k)++[x.1]:=by
   unfold qb1
   rw [qiA (d:=Vector.replicate 16 0) hk,List.map_append,List.map_cons,hr,hx]; rfl
  have cav:jx (qb1 M (nm.take k)).length (qb1 M (nm.take k)).length (qb1 M (nm.take k)++[x.1]).length 56:=⟨rfl,by
   rw [List.length_append]; unfold qb1; rw [List.length_map,List.length_take]; unfold zc; simp; omega⟩
  unfold KT
  exact w_t (dec_lt hk) (q9 ⟨by show (0:Int)≤(k:Int); omega,by show (k:Int) < _; omega⟩ (qy (qi7 rfl hk) (qw0 ex (q9 cav (q9 (jz (by omega)) (qU (by rw [zd,eo])))))))
 ·unfold KT
  exact w_f (zp (Nat.lt_irrefl _)) (qU (by rw [zp (Nat.lt_irrefl _),List.take_of_length_le (Nat.le_refl _)]))
theorem qfg {b:qb} (h:zS b=true):vF N b:=by
 have hN:=big N
 have hb:=qak.1 h
 exact ⟨by omega,by omega,fun k hk=>by have:=Yj (hb.1 k hk).1; exact ⟨by omega,by omega⟩⟩
def qxR (c:List qa):qb×Int:=if c.length≤10 then (qb.mk c,0) else (qb.mk [],4)
theorem qEB {a b:qb} (ha:zS a=true) (hb:zS b=true):∃ c,qxp a.R b.R c∧X8 N a b=some (qxR c):=by
 have hA:=ZP.1 ha
 have hB:=ZP.1 hb
 have hfl:[a.R,b.R].flatten=a.R++b.R:=by simp
 have hll:(a.R++b.R).length≤20:=by rw [List.length_append]; omega
 have ec:=qHp (N:=N) (l:=[a.R,b.R]) (by simp) (by rw [hfl]; omega)
 rw [hfl] at ec
 obtain ⟨nm,c,M,el,hi⟩:=qNA (N:=N) (L:=a.R++b.R) (by omega) (fun r hr=>by
  rcases List.mem_append.1 hr with h | h
  ·exact hA.1.2 r h
  ·exact hB.1.2 r h)
 have hval:∀ id,VW id M=jR (rO a.R id) (rO b.R id):=fun id=>by
  rw [hi.val,List.foldl_append,qyS hB.1.1,qyS hA.1.1]; rfl
 obtain ⟨hs,hp⟩:=qNp hi.nd
 have hin:∀ i∈Qx nm,∃ r,VW i M=some r∧r.ID=i:=fun i h=>by
  have:=(hi.mem i).1 (hp.mem_iff.1 h)
  cases e:VW i M with
  | none=>exact (this e).elim
  | some r=>exact ⟨r,rfl,(hi.ok i r e).2⟩
 have hlen:(qb1 M (Qx nm)).length=nm.length:=by unfold qb1; rw [List.length_map,hp.length_eq]
 refine ⟨qb1 M (Qx nm),⟨?_,fun id=>?_⟩,?_⟩
 ·unfold KD qb1
  rw [List.pairwise_map]
  refine (List.Pairwise.and_mem.1 hs).imp fun {i j} h=>?_
  obtain ⟨r,e1,h1⟩:=hin i h.1
  obtain ⟨s,e2,h2⟩:=hin j h.2.1
  rw [e1,e2]
  show lbB r.ID s.ID=true
  rw [h1,h2]; exact h.2.2
 ·rw [qLf hin,← hval]
  by_cases m:id∈Qx nm
  ·rw [if_pos m]
  ·rw [if_neg m]
   cases e:VW id M with
   | none=>rfl
   | some r=>exact (m (hp.mem_iff.2 ((hi.mem id).2 (by rw [e]; simp)))).elim
 ·have hnl:=hi.len
  unfold X8 qfx
  refine qy (qhu (qfg ha)) (w_f (by rw [ha]; rfl) (qy (qhu (qfg hb)) (w_f (by rw [hb]; rfl) (qy ec (qy ((zj rfl).trans ((zj rfl).trans el)) ?_)))))
  unfold qxR
  rw [hlen]
  by_cases h10:nm.length≤10
  ·rw [if_pos h10]
   exact w_f (decide_eq_false (by show ¬ (10:Int) < ((nm.length:Nat):Int); omega)) (qy ((zj rfl).trans (qO5 (by show nm.length≤12; omega))) (qy ((zj rfl).trans ((zj rfl).trans (qPa hp.length_eq (by show nm.length≤1000; omega) hin))) (q9 rfl (qU rfl))))
  ·rw [if_neg h10]
   exact w_t (decide_eq_true (by show (10:Int) < ((nm.length:Nat):Int); omega)) (q9 rfl (qU rfl))
theorem qER {a b:qb} (fa:vF N a) (fb:vF N b) (h:¬ (zS a=true∧zS b=true)):X8 N a b=some (qb.mk [],1):=by
 unfold X8 qfx
 refine qy (qhu fa) ?_
 cases ha:zS a with
 | false=>exact w_t rfl (q9 rfl (qU rfl))
 | true=>
  refine w_f rfl (qy (qhu fb) ?_)
  cases hb:zS b with
  | false=>exact w_t rfl (q9 rfl (qU rfl))
  | true=>exact (h ⟨ha,hb⟩).elim
end
end Go.Rx
end
set_option maxRecDepth 100000
noncomputable section
namespace Go.Rx
open Go.Proofs
def exB (c:qe) (x:ql) (no:Int):Bool:=slB x.qB c.S&&(match qpS x.F no with
 | none=>true
 | some i=>if (x.F.getD i zE).S=c.S then ltD (x.F.getD i zE).D (zK c.V) else slB (x.F.getD i zE).S c.S)
def partOf (m:qp) (r:qa):qa:=
 qa.mk r.ID (if slB (vY m r.ID).1.qB r.qB=true then r.qB else zSt) (r.F.filter fun f=>exB f.C (vY m r.ID).1 f.No)
def ji (p:qa):Bool:=decide (p.qB=zSt)&&decide (p.F.length=0)
def JR (m:qp) (r:qa):List qa:=if ji (partOf m r)=true then [] else [partOf m r]
def JX (m:qp) (l:List qa):List qa:=l.flatMap (JR m)
theorem qzJ {m:qp} {r:qa}:(JR m r).length≤1:=by
 unfold JR
 split
 ·exact Nat.zero_le _
 ·exact Nat.le_refl _
theorem qxq {m:qp}:∀ {l:List qa},(JX m l).length≤l.length
 | []=>Nat.le_refl _
 | r::l=>by
  unfold JX
  rw [List.flatMap_cons,List.length_append,List.length_cons]
  have h1:=qzJ (m:=m) (r:=r)
  have h2:=qxq (m:=m) (l:=l)
  unfold JX at h2
  omega
theorem qFx {α:Type} {p:α→Bool} {d:α} {l:List α} {k:Nat} (h:k < l.length):(l.take (k + 1)).filter p=(l.take k).filter p++(if p (l.getD k d)=true then [l.getD k d] else []):=by
 rw [List.take_succ_eq_append_getElem h,List.filter_append,List.getD_eq_getElem?_getD,List.getElem?_eq_getElem h]
 show _++List.filter p [l[k]]=_++(if p l[k]=true then [l[k]] else [])
 cases hp:p l[k]<;>simp [hp]
theorem qrh {α β:Type} {f:α→List β} {d:α} {l:List α} {k:Nat} (h:k < l.length):(l.take (k + 1)).flatMap f=(l.take k).flatMap f++f (l.getD k d):=by
 rw [List.take_succ_eq_append_getElem h,List.flatMap_append,List.getD_eq_getElem?_getD,List.getElem?_eq_getElem h]
 simp
end Go.Rx
end
set_option maxRecDepth 100000
noncomputable section
namespace Go.Rx
open Go.Proofs
def jB (N:Nat) (a b:qb):qb×Int:=(X8 N a b).getD (qb.mk [],0)
def Qw (p:qa):qa:=qa.mk p.ID p.qB []
def v3 (p:qa):qa:=qa.mk p.ID zSt p.F
def QA (N:Nat) (b:qb) (e:qa):qb×Int:=if ji e=true then (b,0) else jB N b (qb.mk [e])
theorem qCh {N:Nat} {b:qb} {e:qa} (h:ji e=true):QA N b e=(b,0):=if_pos h
theorem qCg {N:Nat} {b:qb} {e:qa} (h:ji e=false):QA N b e=jB N b (qb.mk [e]):=if_neg (by rw [h]; simp)
def qyH (N:Nat) (b:qb) (e1 e2:qa):qb×Int:=
 if (QA N b e1).2=0 then (if (QA N (QA N b e1).1 e2).2=0 then ((QA N (QA N b e1).1 e2).1,0) else (qb.mk [],(QA N (QA N b e1).1 e2).2)) else (qb.mk [],(QA N b e1).2)
def qDJ (b:qb) (p:qa):Bool:=zS b&&(!ji p&&(stB p.qB&&(decide (p.F.length=0)||jb (v3 p))))
def qcZ (N:Nat) (b:qb) (p:qa):qb×Int:=if qDJ b p=true then qyH N b (Qw p) (v3 p) else (qb.mk [],1)
section
variable {N:Nat} [JA N]
theorem qOH {a b:qb} (fa:vF N a) (fb:vF N b):X8 N a b=some (jB N a b):=by
 unfold jB
 by_cases h:zS a=true∧zS b=true
 ·obtain ⟨c,_,e⟩:=qEB (N:=N) h.1 h.2
  rw [e]; rfl
 ·rw [qER fa fb h]; rfl
theorem qKd {a b:qb} (ha:zS a=true) (hb:zS b=true):∃ c,qxp a.R b.R c∧jB N a b=qxR c:=by
 obtain ⟨c,hc,e⟩:=qEB (N:=N) ha hb
 exact ⟨c,hc,by unfold jB; rw [e]; rfl⟩
theorem qRj {a b:qb} (fa:vF N a) (fb:vF N b) (h:¬ (zS a=true∧zS b=true)):jB N a b=(qb.mk [],1):=by
 unfold jB
 rw [qER fa fb h]; rfl
theorem qzb {a b:qb} (fa:vF N a) (fb:vF N b) (h:(jB N a b).2=0):zS a=true∧zS b=true∧qxp a.R b.R (jB N a b).1.R∧zS (jB N a b).1=true:=by
 by_cases hab:zS a=true∧zS b=true
 ·obtain ⟨c,hc,e⟩:=qKd (N:=N) hab.1 hab.2
  rw [e] at h ⊢
  unfold qxR at h ⊢
  by_cases h10:c.length≤10
  ·rw [if_pos h10] at h ⊢
   exact ⟨hab.1,hab.2,hc,ZP.2 ⟨qK2 (ZP.1 hab.1).1 (ZP.1 hab.2).1 hc,h10⟩⟩
  ·rw [if_neg h10] at h; cases h
 ·rw [qRj fa fb hab] at h; cases h
theorem quJ {e:qa} (h1:e.F.length < N) (h2:e.F.length≤4611686018427387904):vF N (qb.mk [e]):=by
 have:=big N
 refine ⟨by show 1 < N; omega,by show 1≤4611686018427387904; omega,fun k hk=>?_⟩
 have hk:k < 1:=hk
 obtain rfl:k=0:=by omega
 exact ⟨h1,h2⟩
theorem qKK {b:qb} {e:qa} (fb:vF N b) (h1:e.F.length < N) (h2:e.F.length≤4611686018427387904) (h:(QA N b e).2=0):vF N (QA N b e).1:=by
 unfold QA at *
 split
 ·exact fb
 ·rename_i hn
  rw [if_neg hn] at h
  exact qfg (qzb fb (quJ h1 h2) h).2.2.2
theorem qAv {b : qb} {e : qa} {s47 : List qa} {k : Nat} (hk : k < s47.length) (hs : s47.length ≤ 10) (he : s47.getD k zR = e) (fb : vF N b) (h1 : e.F.length < N) (h2 : e.F.length ≤ 4611686018427387904) :
    (Yk N [] s47 ((s47.length:Nat):Int) (b,(k:Int))).run some=some (if (QA N b e).2=0 then .inl ((QA N b e).1,((k + 1:Nat):Int)) else .inr (.inr (QA N b e).2)):=by
 unfold Yk
 refine w_t (dec_lt hk) <| qy ((zY (d:=zR) hk).trans (by rw [he])) <| qy (by
  have e0:eqE qi (qa.qB e) (qd.mk 0 0)=decide (e.qB=zSt):=qiD _ _
  have e2:decide (((e.F.length:Nat):Int)=0)=decide (e.F.length=0):=decide_eq_decide.2 (by omega)
  show ZW e=some (ji e)
  unfold ZW qa5 ji
  refine qm9 e0 (fun h=>qU ?_) fun h=>qU ?_
  ·rw [h]; exact congrArg some e2
  ·rw [h]; rfl) ?_
 cases hn:ji e with
 | true=>
  rw [qCh hn]
  exact w_t rfl <| q9 (jz (by omega)) <| qU (by rw [zd]; rfl)
 | false=>
  rw [qCg hn]
  refine w_f rfl <| qy (qOH fb (quJ h1 h2)) ?_
  by_cases hz:(jB N b (qb.mk [e])).2=0
  ·rw [if_pos hz]
   exact w_f (by rw [decide_eq_true hz]; rfl) <| q9 (jz (by omega)) <| qU (by rw [zd])
  ·rw [if_neg hz]
   exact w_t (by rw [decide_eq_false hz]; rfl) <| qU rfl
theorem qMZ {b : qb} {e1 e2 : qa} (fb : vF N b) (h1 : e1.F.length < N ∧ e1.F.length ≤ 4611686018427387904) (h2 : e2.F.length < N ∧ e2.F.length ≤ 4611686018427387904) :
    ∃ z,Yo N [] [e1,e2] ((([e1,e2]:List qa).length:Nat):Int) b 0=some z∧(match z with | .inl w=>(w.1,(0:Int)) | .inr e=>(qb.mk [],e))=qyH N b e1 e2:=by
 obtain ⟨M,hM⟩:∃ M,N=M + 3:=⟨N - 3,by have:=big N; omega⟩
 have s0:Yo N [] [e1,e2] ((([e1,e2]:List qa).length:Nat):Int) b 0=qY (Yk N [] [e1,e2] ((([e1,e2]:List qa).length:Nat):Int)) some (M + 3) (b,((0:Nat):Int)):=by rw [← hM]; rfl
 rw [s0]
 have r1:=qAv (N:=N) (b:=b) (e:=e1) (s47:=[e1,e2]) (k:=0) (by simp) (by simp) rfl fb h1.1 h1.2
 unfold qyH
 by_cases z1:(QA N b e1).2=0
 ·rw [if_pos z1] at r1 ⊢
  rw [J1 r1]
  have r2:=qAv (N:=N) (b:=(QA N b e1).1) (e:=e2) (s47:=[e1,e2]) (k:=1) (by simp) (by simp) rfl (qKK fb h1.1 h1.2 z1) h2.1 h2.2
  by_cases z2:(QA N (QA N b e1).1 e2).2=0
  ·rw [if_pos z2] at r2 ⊢
   rw [J1 r2,zV (x:=.inl ((QA N (QA N b e1).1 e2).1,((2:Nat):Int),false)) (by
    unfold Yk
    exact w_f rfl (qU rfl))]
   exact ⟨_,rfl,rfl⟩
  ·rw [if_neg z2] at r2 ⊢
   rw [zV r2]
   exact ⟨_,rfl,rfl⟩
 ·rw [if_neg z1] at r1 ⊢
  rw [zV r1]
  exact ⟨_,rfl,rfl⟩
theorem qQF {b:qb} {p:qa} (fb:vF N b) (h1:p.F.length < N) (h2:p.F.length≤4611686018427387904):qkz N b p=some (qcZ N b p):=by
 have hN:=big N
 have hn:ZW p=some (ji p):=by
  have e0:eqE qi (qa.qB p) (qd.mk 0 0)=decide (p.qB=zSt):=qiD _ _
  have e2:decide (((p.F.length:Nat):Int)=0)=decide (p.F.length=0):=decide_eq_decide.2 (by omega)
  unfold ZW qa5 ji
  refine qm9 e0 (fun h=>qU ?_) fun h=>qU ?_
  ·rw [h]; exact congrArg some e2
  ·rw [h]; rfl
 obtain ⟨z,ez,hz⟩:=qMZ (N:=N) (b:=b) (e1:=Qw p) (e2:=v3 p) fb ⟨by show 0 < N; omega,Nat.zero_le _⟩ ⟨h1,h2⟩
 have fin:(Tree.bind (zO [(([]:List qa).length,0)] (Yo N [] [Qw p,v3 p] ((([Qw p,v3 p]:List qa).length:Nat):Int) b 0)) fun z5=>.sum z5 (fun z6=>.ret (z6.1,(0:Int))) fun z6=>.chk (0=0) (.ret (qb.mk [],z6))).run some=some (qyH N b (Qw p) (v3 p)):=by
  refine qy ((zj rfl).trans ez) ?_
  rw [← hz]
  cases z with
  | inl w=>rfl
  | inr e=>exact w_r rfl <| q9 rfl <| qU rfl
 unfold qkz qlt qcZ qDJ
 refine qy (qhu fb) ?_
 cases hb:zS b with
 | false=>exact w_t rfl <| q9 rfl <| qU rfl
 | true=>
  refine w_f rfl <| qy hn ?_
  cases hnp:ji p with
  | true=>exact w_t rfl <| q9 rfl <| qU rfl
  | false=>
   refine w_f rfl <| qy (qc1 _) ?_
   have hst:stB (qa.qB p)=stB p.qB:=rfl
   rw [hst]
   cases hs:stB p.qB with
   | false=>exact w_t rfl <| q9 rfl <| qU rfl
   | true=>
    refine w_f rfl ?_
    by_cases h0:p.F.length=0
    ·rw [decide_eq_true h0]
     exact w_f (decide_eq_false (by show ¬ (0:Int) < ((p.F.length:Nat):Int); omega)) fin
    ·rw [decide_eq_false h0]
     refine w_t (decide_eq_true (by show (0:Int) < ((p.F.length:Nat):Int); omega)) <| qy (qsn (r:=v3 p) h1 h2) ?_
     cases hr:jb (v3 p) with
     | false=>exact w_t rfl <| q9 rfl <| qU rfl
     | true=>exact w_f rfl fin
end
end Go.Rx
end
set_option maxRecDepth 100000
noncomputable section
namespace Go.Rx
open Go.Proofs
theorem qOK {l : Option (Unit ⊕ (Int × Bool))} {n m : Nat} {q : Nat → Bool} (h : n = m → l = some (if vW q n then .inr (((n : Nat) : Int), false) else .inl ())) :
    (Tree.cond (!decide (((n:Nat):Int)=((m:Nat):Int))) (.ret false) (.bind l fun z=>.sum z (fun _=>.ret false) fun _=>.ret true)).run some=some (decide (n=m)&&vW q n):=by
 have e:decide (((n:Nat):Int)=((m:Nat):Int))=decide (n=m):=decide_eq_decide.2 (by omega)
 rw [qF,e,qP,run_bind]
 by_cases hn:n=m
 ·rw [decide_eq_true hn,h hn]
  cases vW q n<;>rfl
 ·rw [decide_eq_false hn]; rfl
theorem qDR {α:Type} {d:α}:∀ {a b:List α},a.length=b.length→(∀ k,k < a.length→a.getD k d=b.getD k d)→a=b
 | [],[],_,_=>rfl
 | [],_::_,h,_=>by simp at h
 | _::_,[],h,_=>by simp at h
 | x::a,y::b,h,hk=>by
  have h0:=hk 0 (by simp)
  simp only [List.getD_cons_zero] at h0
  rw [h0,qDR (a:=a) (b:=b) (by simpa using h) fun k hk'=>by
   have:=hk (k + 1) (by simp; omega)
   simpa using this]
theorem qHc {t:Ty} {sz:Nat} (a b:List (El t)) (d:El t):(decide (a.length=b.length)&&vW (fun k=>eqE t (a.getD k d) (b.getD k d)) a.length)=eqE (.sl sz t) a b:=by
 refine Bool.eq_iff_iff.2 (Iff.trans ?_ (Zm (.sl sz t) a b).symm)
 rw [Bool.and_eq_true,decide_eq_true_iff,JC]
 constructor
 ·rintro ⟨h1,h2⟩
  exact qDR (d:=d) h1 fun k hk=>(Zm t _ _).1 (h2 k hk)
 ·intro h
  subst h
  exact ⟨rfl,fun k _=>(Zm t _ _).2 rfl⟩
end Go.Rx
end
set_option maxRecDepth 100000
noncomputable section
namespace Go.Rx
open Go.Proofs
section n
variable {N:Nat} [JA N]
theorem qE7 {a b:List qc} (hN:a.length < N) (h62:a.length≤4611686018427387904):XW N a b=some (eqE (.sl 4 qq) a b):=by
 unfold XW YE
 rw [qOK (q:=fun k=>eqE qq (a.getD k zF) (b.getD k zF)) fun hl=>?_]
 ·rw [show (decide (a.length=b.length)&&vW (fun k=>eqE qq (a.getD k zF) (b.getD k zF)) a.length)=eqE (.sl 4 qq) a b from qHc (t:=qq) a b zF]
 ·refine X4 (B:=Jl N a b ((a.length:Nat):Int)) (g:=some) (fun k hk=>?_) ?_ hN
  ·have hk2:k < b.length:=by omega
   unfold Jl
   rw [qF,dec_lt hk,cond_true,run_bind,zY (d:=zF) hk,Option.bind_some,run_bind,zY (d:=zF) hk2,Option.bind_some,qF,qP,qS,qg (show qt ((k:Int) + 1) by unfold qt; omega),qP,zd]
   cases eqE qq (a.getD k zF) (b.getD k zF)<;>rfl
  ·unfold Jl
   rw [qF,zp (Nat.lt_irrefl _),cond_false,qP]
theorem qRg (r s:qa):eqE qf r s=(eqE (.ba 16) r.ID s.ID&&(eqE qi r.qB s.qB&&eqE (.sl 4 qq) r.F s.F)):=by
 show (eqE (.ba 16) _ _&&(eqE qi _ _&&(eqE (.sl 4 qq) _ _&&true)))=_
 rw [Bool.and_true]
 rfl
theorem qHP {r s:qa} (hN:r.F.length < N) (h62:r.F.length≤4611686018427387904):qnk N r s=some (eqE qf r s):=by
 unfold qnk qnM
 rw [qRg,qF,qP,qF,qP,run_bind,qE7 hN h62,Option.bind_some,qP]
 cases eqE (.ba 16) r.ID s.ID<;>cases eqE qi r.qB s.qB<;>rfl
theorem qKL {a b:List qa} (hN:a.length < N) (h62:a.length≤4611686018427387904) (hF:∀ k,k < a.length→(a.getD k zR).F.length < N∧(a.getD k zR).F.length≤4611686018427387904):VU N a b=some (eqE (.sl 19 qf) a b):=by
 unfold VU Wg
 rw [qOK (q:=fun k=>eqE qf (a.getD k zR) (b.getD k zR)) fun hl=>?_]
 ·rw [show (decide (a.length=b.length)&&vW (fun k=>eqE qf (a.getD k zR) (b.getD k zR)) a.length)=eqE (.sl 19 qf) a b from qHc (t:=qf) a b zR]
 ·refine X4 (B:=Zz N b a ((a.length:Nat):Int)) (g:=some) (fun k hk=>?_) ?_ hN
  ·have hk2:k < b.length:=by omega
   unfold Zz
   rw [qF,dec_lt hk,cond_true,run_bind,zY (d:=zR) hk,Option.bind_some,run_bind,zY (d:=zR) hk2,Option.bind_some,run_bind,qHP (hF k hk).1 (hF k hk).2,Option.bind_some,qF,qP,qS,qg (show qt ((k:Int) + 1) by unfold qt; omega),qP,zd]
   cases eqE qf (a.getD k zR) (b.getD k zR)<;>rfl
  ·unfold Zz
   rw [qF,zp (Nat.lt_irrefl _),cond_false,qP]
theorem qCR {a b:qb} (hf:vF N a):qf7 N a b=some (eqE (.sl 19 qf) a.R b.R):=by
 unfold qf7 qkT
 rw [run_bind,qKL hf.1 hf.2.1 hf.2.2,Option.bind_some,qP]
end n
end Go.Rx
end
set_option maxRecDepth 100000
noncomputable section
namespace Go.Rx
open Go.Proofs
def oP (e:qa) (id:Vector UInt8 16):Option qa:=if ji e=true then none else rO [e] id
theorem qGn {p:qa} (hs:stB p.qB=true):ji (Qw p)=true∨jb (Qw p)=true:=by
 by_cases h:p.qB=zSt
 ·left
  show (decide (p.qB=zSt)&&true)=true
  rw [decide_eq_true h]; rfl
 ·right
  exact QS.2 ⟨hs,.inr h,List.Pairwise.nil,fun f hf=>absurd hf List.not_mem_nil⟩
theorem qOJ {e:qa} (he:ji e=true∨jb e=true) (id:Vector UInt8 16):VO id (oP e id):=by
 unfold oP
 split
 ·exact qO8
 ·rename_i hn
  have hr:=he.resolve_left hn
  exact qkf (fun r hr'=>by rw [List.mem_singleton.1 hr']; exact hr) id
section
variable {N:Nat} [JA N]
theorem qrO {b : qb} {e : qa} (hb : zS b = true) (h1 : e.F.length < N) (h2 : e.F.length ≤ 4611686018427387904) (h : (QA N b e).2 = 0) :
    zS (QA N b e).1=true∧∀ id,rO (QA N b e).1.R id=jR (rO b.R id) (oP e id):=by
 cases hn:ji e with
 | true=>
  rw [qCh hn]
  refine ⟨hb,fun id=>?_⟩
  unfold oP
  rw [if_pos hn,XM]
 | false=>
  rw [qCg hn] at h ⊢
  obtain ⟨_,_,hj,hv⟩:=qzb (qfg hb) (quJ h1 h2) h
  refine ⟨hv,fun id=>?_⟩
  rw [hj.2 id]
  unfold oP
  rw [if_neg (by rw [hn]; simp)]; rfl
theorem qLA {b:qb} {p:qa} (h:(qcZ N b p).2=0):qDJ b p=true∧(QA N b (Qw p)).2=0∧(QA N (QA N b (Qw p)).1 (v3 p)).2=0∧qcZ N b p=((QA N (QA N b (Qw p)).1 (v3 p)).1,0):=by
 unfold qcZ qyH at *
 split at h
 ·rename_i h1
  rw [if_pos h1]
  split at h
  ·rename_i h2
   rw [if_pos h2]
   split at h
   ·rename_i h3
    rw [if_pos h3]
    exact ⟨h1,h2,h3,rfl⟩
   ·rename_i h3
    exact (h3 h).elim
  ·rename_i h2
   exact (h2 h).elim
 ·cases h
theorem qDv {b:qb} {p:qa}:qDJ b p=true↔zS b=true∧ji p=false∧stB p.qB=true∧(p.F.length=0∨jb (v3 p)=true):=by
 unfold qDJ
 rw [Bool.and_eq_true,Bool.and_eq_true,Bool.and_eq_true,Bool.or_eq_true,Bool.not_eq_true',decide_eq_true_iff]
theorem qHi {p:qa} (h:p.F.length=0∨jb (v3 p)=true):ji (v3 p)=true∨jb (v3 p)=true:=by
 refine h.imp (fun h0=>?_) id
 show (true&&decide (p.F.length=0))=true
 rw [decide_eq_true h0]; rfl
theorem qO6 {b : qb} {p : qa} (h1 : p.F.length < N) (h2 : p.F.length ≤ 4611686018427387904) (h : (qcZ N b p).2 = 0) :
    zS b=true∧zS (qcZ N b p).1=true∧(∀ id,rO (qcZ N b p).1.R id=jR (jR (rO b.R id) (oP (Qw p) id)) (oP (v3 p) id)):=by
 obtain ⟨ha,z1,z2,e⟩:=qLA h
 obtain ⟨hb,hn,hs,hl⟩:=qDv.1 ha
 obtain ⟨v1,r1⟩:=qrO (e:=Qw p) hb (by have:=big N; show 0 < N; omega) (Nat.zero_le _) z1
 obtain ⟨v2,r2⟩:=qrO (e:=v3 p) v1 h1 h2 z2
 rw [e]
 exact ⟨hb,v2,fun id=>by rw [r2,r1]⟩
end
end Go.Rx
end
set_option maxRecDepth 100000
noncomputable section
namespace Go.Rx
open Go.Proofs
theorem qJF {r:qa} {no:Int} {c:qe} (h:cO r.F no=some c):∃ i,qu1 r.F no=some i∧(r.F.getD i zF).C=c:=by
 rw [← qJ2] at h
 obtain ⟨i,h1,h2⟩:=Option.map_eq_some_iff.1 h
 exact ⟨i,h1,h2⟩
theorem qJ0 {r:qa} {no:Int} (h:cO r.F no=none):qu1 r.F no=none:=by
 rw [← qJ2] at h
 exact Option.map_eq_none_iff.1 h
def zM:Option qa→qd
 | some r=>r.qB
 | none=>zSt
def vL (o:Option qa) (no:Int):Option qe:=o.bind fun r=>cO r.F no
def exK (c:qe) (o:Option qa) (no:Int):Bool:=slB (zM o) c.S&&(match vL o no with
 | none=>true
 | some d=>if d.S=c.S then ltD (zK d.V) (zK c.V) else slB d.S c.S)
theorem qOW {c:qe} {r:qa} {no:Int}:exB c (z_ r) no=exK c (some r) no:=by
 unfold exB exK
 have e:qpS (z_ r).F no=qu1 r.F no:=qO0 no
 rw [e]
 show (slB r.qB c.S&&_)=(slB r.qB c.S&&(match cO r.F no with | none=>true | some d=>if d.S=c.S then ltD (zK d.V) (zK c.V) else slB d.S c.S))
 cases h:cO r.F no with
 | none=>rw [qJ0 h]
 | some d=>
  obtain ⟨i,h1,h2⟩:=qJF h
  rw [h1]
  have hi:=(qp1 h1).1
  have eg:(z_ r).F.getD i zE=Zw (r.F.getD i zF):=Xp (d:=zF) hi
  show (_&&(if ((z_ r).F.getD i zE).S=c.S then _ else _))=_
  rw [eg]
  show (_&&(if (r.F.getD i zF).C.S=c.S then ltD (zK (r.F.getD i zF).C.V) (zK c.V) else slB (r.F.getD i zF).C.S c.S))=_
  rw [h2]
theorem qGN {b:qb} {D:Vector UInt8 32} {id:Vector UInt8 16}:(vY (Zl D b) id).1=match rO b.R id with | some r=>z_ r | none=>zL:=by
 rw [qIZ,← qQf]
 cases quK b.R id<;>rfl
theorem qLy {b:qb} {D:Vector UInt8 32} {id:Vector UInt8 16} {c:qe} {no:Int}:exB c (vY (Zl D b) id).1 no=exK c (rO b.R id) no:=by
 rw [qGN]
 cases rO b.R id with
 | none=>rfl
 | some r=>exact qOW
theorem qIg {b:qb} {D:Vector UInt8 32} {id:Vector UInt8 16}:(vY (Zl D b) id).1.qB=zM (rO b.R id):=by
 rw [qGN]
 cases rO b.R id<;>rfl
def jr (o:Option qa) (r:qa):qa:=qa.mk r.ID (if slB (zM o) r.qB=true then r.qB else zSt) (r.F.filter fun f=>exK f.C o f.No)
theorem qol {b:qb} {D:Vector UInt8 32} {r:qa}:partOf (Zl D b) r=jr (rO b.R r.ID) r:=by
 unfold partOf jr
 rw [qIg]
 congr 1
 refine List.filter_congr fun f _=>?_
 rw [qLy]
theorem qAi {m:qp} {r:qa} (h:ji (partOf m r)=true):JR m r=[]:=if_pos h
theorem qAd {m:qp} {r:qa} (h:ji (partOf m r)=false):JR m r=[partOf m r]:=if_neg (by rw [h]; simp)
theorem qHQ {a b:qb} {D:Vector UInt8 32} (h:∀ r∈a.R,ji (jr (rO b.R r.ID) r)=true):JX (Zl D b) a.R=[]:=by
 have key:∀ l:List qa,(∀ r∈l,ji (jr (rO b.R r.ID) r)=true)→JX (Zl D b) l=[]:=by
  intro l
  induction l with
  | nil=>intro _; rfl
  | cons r l ih=>
   intro h
   show JR _ r++JX _ l=_
   rw [qAi (by rw [qol]; exact h r (List.mem_cons_self ..)),ih fun x hx=>h x (List.mem_cons_of_mem _ hx)]; rfl
 exact key a.R h
end Go.Rx
end
set_option maxRecDepth 100000
noncomputable section
namespace Go.Rx
open Go.Proofs
section
variable {N:Nat} [JA N]
theorem qKS {l:List qn} {no:Int} (h:l.length≤600):Jf N no l=some (qQZ (qpS l no)):=by
 have key:=qj4 (B:=vi N no l ((l.length:Nat):Int)) (g:=some) (p:=fun k=>decide ((l.getD k zE).No=no)) (n:=l.length) (hit:=fun k=>.inl (k:Int)) (fin:=.inr (((l.length:Nat):Int),false)) (fun k hk=>by
  unfold vi
  refine w_t (dec_lt hk) <| qy (zY (d:=zE) hk) <| qy (show qd6 no (l.getD k zE)=some () from rfl) <| qm9 (c:=decide ((l.getD k zE).No=no)) rfl (fun h=>qU ?_) fun h=>q9 (jz (by omega)) <| qU ?_
  ·rw [h]; rfl
  ·rw [h,zd]; rfl) (by
  unfold vi
  exact w_f (zp (Nat.lt_irrefl _)) (qU (by rw [zp (Nat.lt_irrefl _)]))) N 0 (Nat.zero_le _) (by have:=big N; omega)
 rw [Nat.sub_zero] at key
 have e:Vy N no l ((l.length:Nat):Int) 0=qY (vi N no l ((l.length:Nat):Int)) some N ((0:Nat):Int):=rfl
 unfold Jf VN
 refine qy (e.trans key) ?_
 unfold qpS
 cases Qo (fun k=>decide ((l.getD k zE).No=no)) l.length 0<;>rfl
theorem qQe {c:qe} {x:ql} {no:Int} (hx:x.F.length≤600) (hc:c.V.length≤50000):Ky N c x no=some (exB c x no):=by
 unfold Ky qeC exB
 refine qy (qKS hx) (qy (V4 _ _) ?_)
 cases slB (ql.qB x) (qe.S c) with
 | false=>rfl
 | true=>
  refine w_f rfl ?_
  show _=some (match qpS x.F no with | none=>true | some i=>if (x.F.getD i zE).S=c.S then ltD (x.F.getD i zE).D (zK c.V) else slB (x.F.getD i zE).S c.S)
  cases e:qpS x.F no with
  | none=>rfl
  | some i=>
   have hi:=(qp1 e).1
   have g:=zY (d:=zE) hi
   refine w_f (decide_eq_false (by show ¬ ((i:Nat):Int) < 0; omega)) (qy g ?_)
   show _=some (if (x.F.getD i zE).S=c.S then ltD (x.F.getD i zE).D (zK c.V) else slB (x.F.getD i zE).S c.S)
   by_cases h:(x.F.getD i zE).S=c.S
   ·rw [if_pos h]
    exact w_f (by rw [qiD]; show (!decide ((x.F.getD i zE).S=c.S))=false; rw [decide_eq_true h]; rfl) <| qy g <| qy (qiW hc) <| qy (qox _ _) <| qU rfl
   ·rw [if_neg h]
    exact w_t (by rw [qiD]; show (!decide ((x.F.getD i zE).S=c.S))=true; rw [decide_eq_false h]; rfl) <| qy g <| qy (V4 _ _) <| qU rfl
end
end Go.Rx
end
set_option maxRecDepth 100000
noncomputable section
namespace Go.Rx
open Go.Proofs
section
variable {N:Nat} [JA N]
theorem qGP (p:qa):ZW p=some (ji p):=by
 have e:eqE qi (qa.qB p) (qd.mk 0 0)=decide (p.qB=zSt):=qiD _ _
 have e2:decide (((p.F.length:Nat):Int)=0)=decide (p.F.length=0):=decide_eq_decide.2 (by omega)
 unfold ZW qa5 ji
 refine qm9 e (fun h=>qU ?_) fun h=>qU ?_
 ·rw [h]; exact congrArg some e2
 ·rw [h]; rfl
theorem qGs {b : qb} {m : qp} {x : ql} {o5 : Vector UInt8 16} {o6 : qd} {s12 : List qa} {s13 s14 : Int} {l : List qc} (hx : x.F.length ≤ 600) (hl : l.length ≤ 600) (hV : ∀ k, k < l.length → (l.getD k zF).C.V.length ≤ 200) :
    X2 N b m x o5 o6 s12 s13 s14 l ((l.length:Nat):Int) [] 0=some (l.filter fun f=>exB f.C x f.No,((l.length:Nat):Int),false):=by
 refine jY (σ:=Unit) (B:=WC N b m x o5 o6 s12 s13 s14 l ((l.length:Nat):Int)) (g:=some) (at_:=fun k _=>((l.take k).filter fun f=>exB f.C x f.No,(k:Int))) (I:=fun _ _=>True) (f:=fun _ s=>s) (n:=l.length)
  (fin:=fun _=>(l.filter fun f=>exB f.C x f.No,((l.length:Nat):Int),false)) (fun k s hk _=>⟨?_,trivial⟩) (fun s _=>?_) N 0 () trivial (Nat.zero_le _) (by have:=big N; omega)
 ·have hle:((l.take k).filter fun f=>exB f.C x f.No).length≤600:=Nat.le_trans (List.length_filter_le _ _) (by rw [List.length_take]; omega)
  have hVk:=hV k hk
  unfold WC
  rw [qFx (d:=zF) hk]
  refine w_t (dec_lt hk) <| qy (zY (d:=zF) hk) <| qy (qQe hx (by show (l.getD k zF).C.V.length≤_; omega)) <| qm9 rfl (fun h=>?_) fun h=>?_
  ·rw [if_pos (show (fun f:qc=>exB f.C x f.No) (l.getD k zF)=true from h)]
   exact q9 ⟨rfl,by rw [List.length_append]; unfold zc; simp; omega⟩ <| q9 (jz (by omega)) <| qU (by rw [zd])
  ·rw [if_neg (show ¬ (fun f:qc=>exB f.C x f.No) (l.getD k zF)=true from fun h'=>by rw [show (fun f:qc=>exB f.C x f.No) (l.getD k zF)=false from h] at h'; cases h'),List.append_nil]
   exact q9 (jz (by omega)) <| qU (by rw [zd])
 ·unfold WC
  exact w_f (zp (Nat.lt_irrefl _)) (qU (by rw [zp (Nat.lt_irrefl _),List.take_of_length_le (Nat.le_refl _)]))
theorem qzL {o2 : List qa} {b : qb} {m : qp} {x : ql} {o5 : Vector UInt8 16} {o6 : qd} {s12 : List qa} {s13 s14 : Int} {l : List qc} (hx : x.F.length ≤ 600) (hl : l.length ≤ 600) (hV : ∀ k, k < l.length → (l.getD k zF).C.V.length ≤ 200) :
    WE N o2 b m x o5 o6 s12 s13 s14 l ((l.length:Nat):Int) [] 0=some (l.filter fun f=>exB f.C x f.No,((l.length:Nat):Int),false):=qGs (b:=b) (m:=m) (o5:=o5) (o6:=o6) (s12:=s12) (s13:=s13) (s14:=s14) hx hl hV
section f
variable {m:qp} (hf:qDw m=true)
include hf
theorem qNM {a:qb} (ha:zS a=true) (hm:qyK m=true):qfI N a m=some (JX m a.R):=by
 have hN:=big N
 have hA:=qak.1 ha
 have hfm:=qr_.1 hf
 have fits:vF N a:=⟨by omega,by omega,fun k hk=>by have:=Yj (hA.1 k hk).1; exact ⟨by omega,by omega⟩⟩
 have hpart:∀ k,k < a.R.length→∀ D,(qa.mk (a.R.getD k zR).ID D ((a.R.getD k zR).F.filter fun f=>exB f.C (vY m (a.R.getD k zR).ID).1 f.No))=partOf m (a.R.getD k zR)∨D≠(if slB (vY m (a.R.getD k zR).ID).1.qB (a.R.getD k zR).qB=true then (a.R.getD k zR).qB else zSt):=fun k hk D=>by
  by_cases h:D=(if slB (vY m (a.R.getD k zR).ID).1.qB (a.R.getD k zR).qB=true then (a.R.getD k zR).qB else zSt)
  ·left; rw [h]; rfl
  ·exact .inr h
 have hrec:∀ k,k < a.R.length→(a.R.getD k zR).F.length≤600∧∀ j,j < (a.R.getD k zR).F.length→((a.R.getD k zR).F.getD j zF).C.V.length≤200:=fun k hk=>⟨by have:=Yj (hA.1 k hk).1; omega,fun j hj=>qiL (qIO (hA.1 k hk).1 j hj)⟩
 have hlx:∀ id,(vY m id).1.F.length≤600:=fun id=>by have:=(qJk hf id).1; omega
 have s1:∀ (s:List qa) (k:Nat),s.length≤k→k≤a.R.length→qY (ZY N a m a.R ((a.R.length:Nat):Int)) some N (s,(k:Int))=some (.inr (s++(a.R.drop k).flatMap (JR m),((a.R.length:Nat):Int),false)):=fun s k hs hk=>by
  have:=jY (σ:=List qa) (B:=ZY N a m a.R ((a.R.length:Nat):Int)) (g:=some) (at_:=fun k s=>(s,(k:Int))) (I:=fun k s=>s.length≤k) (f:=fun k s=>s++JR m (a.R.getD k zR)) (n:=a.R.length)
   (fin:=fun s=>.inr (s,((a.R.length:Nat):Int),false)) (fun k s hk hs=>⟨?_,?_⟩) (fun s _=>?_) N k s hs hk (by omega)
  ·rw [this]
   have key:∀ (m' k:Nat) (s:List qa),k + m'=a.R.length→ZH (fun k s=>s++JR m (a.R.getD k zR)) m' k s=s++(a.R.drop k).flatMap (JR m):=by
    intro m'
    induction m' with
    | zero=>intro k s h; rw [List.drop_of_length_le (by omega)]; show s=s++[]; rw [List.append_nil]
    | succ m' ih=>
     intro k s h
     rw [qkd (d:=zR) (show k < a.R.length by omega),List.flatMap_cons]
     unfold ZH
     rw [ih (k + 1) _ (by omega),List.append_assoc]
   rw [key _ k s (by omega)]
  ·have hr:=hrec k hk
   have keep:∀ D,D=(if slB (vY m (a.R.getD k zR).ID).1.qB (a.R.getD k zR).qB=true then (a.R.getD k zR).qB else zSt)→Zh s a m (qa.mk (a.R.getD k zR).ID D ((a.R.getD k zR).F.filter fun f=>exB f.C (vY m (a.R.getD k zR).ID).1 f.No))=some (s++JR m (a.R.getD k zR)):=fun D hD=>by
    rw [(hpart k hk D).resolve_right (fun h=>h hD)]
    unfold Zh XH JR
    refine qy (qGP _) ?_
    cases ji (partOf m (a.R.getD k zR)) with
    | true=>exact w_f rfl <| qU (by rw [if_pos rfl,List.append_nil])
    | false=>exact w_t rfl <| q9 ⟨rfl,by rw [List.length_append]; unfold zc; simp; omega⟩ <| qU (by rw [if_neg (by simp)])
   unfold ZY
   refine w_t (dec_lt hk) <| qy (zY (d:=zR) hk) <| qy (qEQ hf _) <| qy (V4 _ _) <| qm9 rfl (fun h=>?_) fun h=>?_
   ·exact qy ((zj rfl).trans ((zj rfl).trans (qzL (hlx _) hr.1 hr.2))) <| q9 rfl <| qy ((zj rfl).trans (keep _ (by rw [if_pos (show slB (vY m (a.R.getD k zR).ID).1.qB (a.R.getD k zR).qB=true from h)]))) <| q9 (jz (by omega)) <| qU (by rw [zd])
   ·exact qy ((zj rfl).trans ((zj rfl).trans (qzL (hlx _) hr.1 hr.2))) <| q9 rfl <| qy ((zj rfl).trans (keep _ (by rw [if_neg (show ¬ slB (vY m (a.R.getD k zR).ID).1.qB (a.R.getD k zR).qB=true from fun h'=>by rw [show slB (vY m (a.R.getD k zR).ID).1.qB (a.R.getD k zR).qB=false from h] at h'; cases h')]; rfl))) <| q9 (jz (by omega)) <| qU (by rw [zd])
  ·rw [List.length_append]
   have:=qzJ (m:=m) (r:=a.R.getD k zR)
   omega
  ·unfold ZY
   exact w_f (zp (Nat.lt_irrefl _)) (qU (by rw [zp (Nat.lt_irrefl _)]))
 have l1:∃ z,qeu N a m a.R ((a.R.length:Nat):Int) 0=some z∧(match z with | .inl _=>[] | .inr w=>w.1)=JX m a.R:=by
  refine Vq (B:=VE N a m a.R ((a.R.length:Nat):Int)) (g:=qbT N N (a,m,a.R,((a.R.length:Nat):Int))) (I:=fun v=>∃ k:Nat,k≤a.R.length∧v=(k:Int)∧(a.R.take k).flatMap (JR m)=[]) (Q:=fun z=>(match z with | .inl _=>[] | .inr w=>w.1)=JX m a.R) (fun v=>a.R.length - v.toNat) ?_ N ((0:Nat):Int) ⟨0,Nat.zero_le _,rfl,rfl⟩ (by simp; omega)
  rintro v ⟨k,hk,rfl,h0⟩
  by_cases h:k < a.R.length
  ·have hr:=hrec k h
   have hall:JX m a.R=(a.R.take k).flatMap (JR m)++(JR m (a.R.getD k zR)++(a.R.drop (k + 1)).flatMap (JR m)):=by
    have:a.R=a.R.take k++(a.R.getD k zR::a.R.drop (k + 1)):=by rw [← qkd (d:=zR) h,List.take_append_drop]
    unfold JX
    conv=>lhs; rw [this]
    rw [List.flatMap_append,List.flatMap_cons]
   have roundS:∀ D,D=(if slB (vY m (a.R.getD k zR).ID).1.qB (a.R.getD k zR).qB=true then (a.R.getD k zR).qB else zSt)→QZ a m (qa.mk (a.R.getD k zR).ID D ((a.R.getD k zR).F.filter fun f=>exB f.C (vY m (a.R.getD k zR).ID).1 f.No))=some (if ji (partOf m (a.R.getD k zR))=true then .inr () else .inl ()):=fun D hD=>by
    rw [(hpart k h D).resolve_right (fun h=>h hD)]
    unfold QZ W1
    refine qy (qGP _) ?_
    cases ji (partOf m (a.R.getD k zR)) with
    | true=>rfl
    | false=>exact w_t rfl <| q9 (by unfold qyw; unfold zc; decide) <| qU rfl
   have both : ∀ D, D = (if slB (vY m (a.R.getD k zR).ID).1.qB (a.R.getD k zR).qB = true then (a.R.getD k zR).qB else zSt) →
       (Tree.bind (zO [(([]:List qc).length,0)] (X2 N a m (vY m (a.R.getD k zR).ID).1 (a.R.getD k zR).ID D a.R ((a.R.length:Nat):Int) (k:Int) (a.R.getD k zR).F (((a.R.getD k zR).F.length:Nat):Int) [] 0)) fun z4=>Tree.chk (z4.1.length=z4.1.length) <|
        .bind (QZ a m (qa.mk (a.R.getD k zR).ID D z4.1)) fun r5=>.sum r5 (fun _=>.chk (qt ((k:Int) + 1)) (.ret (.inr (.inl ([qa.mk (a.R.getD k zR).ID D z4.1],(k:Int) + 1))))) fun _=>.chk (qt ((k:Int) + 1)) (.ret (.inl ((k:Int) + 1):Int⊕WH))).run some =
       some (if ji (partOf m (a.R.getD k zR))=true then .inl ((k + 1:Nat):Int) else .inr (.inl ([partOf m (a.R.getD k zR)],((k + 1:Nat):Int)))):=fun D hD=>by
    refine qy ((zj rfl).trans (qGs (hlx _) hr.1 hr.2)) <| q9 rfl <| qy (roundS D hD) ?_
    cases hn:ji (partOf m (a.R.getD k zR)) with
    | true=>exact w_r rfl <| q9 (jz (by omega)) <| qU (by rw [zd]; rfl)
    | false=>
     refine w_l rfl <| q9 (jz (by omega)) <| qU ?_
     rw [zd,← (hpart k h D).resolve_right (fun h=>h hD)]; rfl
   have step:(VE N a m a.R ((a.R.length:Nat):Int) (k:Int)).run some=some (if ji (partOf m (a.R.getD k zR))=true then .inl ((k + 1:Nat):Int) else .inr (.inl ([partOf m (a.R.getD k zR)],((k + 1:Nat):Int)))):=by
    unfold VE
    refine w_t (dec_lt h) <| qy (zY (d:=zR) h) <| qy (qEQ hf _) <| qy (V4 _ _) <| qm9 rfl (fun h=>?_) fun h=>?_
    ·exact both _ (by rw [if_pos (show slB (vY m (a.R.getD k zR).ID).1.qB (a.R.getD k zR).qB=true from h)])
    ·exact both _ (by rw [if_neg (show ¬ slB (vY m (a.R.getD k zR).ID).1.qB (a.R.getD k zR).qB=true from fun h'=>by rw [show slB (vY m (a.R.getD k zR).ID).1.qB (a.R.getD k zR).qB=false from h] at h'; cases h')]; rfl)
   cases hn:ji (partOf m (a.R.getD k zR)) with
   | true=>
    left
    rw [hn,if_pos rfl] at step
    exact ⟨_,step,⟨k + 1,h,rfl,by rw [qrh (d:=zR) h,h0]; unfold JR; rw [if_pos hn]; rfl⟩,by simp only [Int.toNat_natCast]; omega⟩
   | false=>
    right
    rw [hn,if_neg (by simp)] at step
    refine ⟨_,_,step,s1 _ (k + 1) (by show (1:Nat)≤k + 1; omega) h,?_⟩
    show [partOf m (a.R.getD k zR)]++(a.R.drop (k + 1)).flatMap (JR m)=_
    rw [hall,h0]
    unfold JR
    rw [if_neg (by rw [hn]; simp)]; rfl
  ·right
   obtain rfl:k=a.R.length:=by omega
   rw [List.take_of_length_le (Nat.le_refl _)] at h0
   refine ⟨.inr (.inl (((a.R.length:Nat):Int),false)),_,?_,rfl,h0.symm⟩
   unfold VE
   exact w_f (zp (Nat.lt_irrefl _)) (qU (by rw [zp (Nat.lt_irrefl _)]))
 obtain ⟨z,ez,hz⟩:=l1
 unfold qfI qgy
 refine qy (qhu fits) <| w_f (by rw [ha]; rfl) <| qy (qQa (by omega) (fun k hk=>by have:=(hfm.2 k hk).1; omega)) <| w_f (by rw [hm]; rfl) <| qy (show qnx a m=some () from rfl) ?_
 rw [← hz]
 cases z with
 | inl w=>
  have e1:WU N a m=some (.inl ()):=by
   unfold WU qbl
   exact qy ez <| w_l rfl <| qU rfl
  exact qy e1 <| w_l rfl <| qU rfl
 | inr w=>
  have e1:WU N a m=some (.inr w.1):=by
   unfold WU qbl
   exact qy ez <| w_r rfl <| qU rfl
  exact qy e1 <| w_r rfl <| q9 rfl <| qU rfl
end f
end
end Go.Rx
end
set_option maxRecDepth 100000
noncomputable section
namespace Go.Rx
open Go.Proofs
theorem qno {α:Type} {d:α} {l:List α} {k:Nat} (h:k < l.length):l.getD k d∈l:=by
 rw [List.getD_eq_getElem?_getD,List.getElem?_eq_getElem h]; exact List.getElem_mem h
end Go.Rx
end
set_option maxRecDepth 100000
noncomputable section
namespace Go.Rx
open Go.Proofs
theorem qPt {id:Vector UInt8 16} {o p:Option qa} (ho:VO id o) (hp:VO id p) (h1:zM o=zM p) (h2:∀ no,vL o no=vL p no):o=p:=by
 have emp:∀ {r:qa},jb r=true→r.qB=zSt→(∀ no,cO r.F no=none)→False:=fun {r} hr hd hc=>by
  have hR:=QS.1 hr
  have hne:=hR.2.1.resolve_right (fun h=>h hd)
  obtain ⟨f,l,e⟩:=List.exists_cons_of_ne_nil hne
  have:=hc f.No
  rw [e,JI,if_pos rfl] at this; cases this
 cases o with
 | none=>
  cases p with
  | none=>rfl
  | some r=>exact (emp (hp r rfl).1 h1.symm fun no=>(h2 no).symm).elim
 | some r=>
  cases p with
  | none=>exact (emp (ho r rfl).1 h1 h2).elim
  | some s=>exact congrArg some (qGF (ho r rfl).1 (hp s rfl).1 ((ho r rfl).2.trans (hp s rfl).2.symm) h1 h2)
theorem qiC {id:Vector UInt8 16} {o:Option qa} (ho:VO id o):stB (zM o)=true:=by
 cases o with
 | none=>rfl
 | some r=>exact (QS.1 (ho r rfl).1).1
theorem qB9 {d:qd} (h:stB d=true):mxS zSt d=d:=by
 by_cases e:d=zSt
 ·rw [e,qCc]
 ·exact qmL (qob h e)
theorem qrH {d:qd} (h:stB d=true):mxS d zSt=d:=by rw [quw,qB9 h]
theorem qGu {id:Vector UInt8 16} {o:Option qa} (ho:VO id o) (no:Int):fl (zM o) (vL o no)=vL o no:=by
 cases o with
 | none=>rfl
 | some r=>exact qPB (ho r rfl).1 no
theorem qsc {id:Vector UInt8 16} {o p:Option qa} (ho:VO id o) (hp:VO id p):zM (jR o p)=mxS (zM o) (zM p):=by
 cases o with
 | none=>exact (qB9 (qiC hp)).symm
 | some r=>
  cases p with
  | none=>exact (qrH (qiC ho)).symm
  | some s=>rfl
theorem qGW (o:Option qe):jC o none=o:=by cases o<;>rfl
theorem qse {id:Vector UInt8 16} {o p:Option qa} (ho:VO id o) (hp:VO id p) (no:Int):vL (jR o p) no=fl (mxS (zM o) (zM p)) (jC (vL o no) (vL p no)):=by
 cases o with
 | none=>
  show vL p no=fl (mxS zSt (zM p)) (vL p no)
  rw [qB9 (qiC hp),qGu hp]
 | some r=>
  cases p with
  | none=>
   show vL (some r) no=fl (mxS (zM (some r)) zSt) (jC (vL (some r) no) none)
   rw [qrH (qiC ho),qGW,qGu ho]
  | some s=>exact qBX (ho r rfl).1 (hp s rfl).1 no
theorem qO2 {p:qa}:zM (oP (Qw p) p.ID)=p.qB∧∀ no,vL (oP (Qw p) p.ID) no=none:=by
 unfold oP
 by_cases h:p.qB=zSt
 ·rw [if_pos (by show (decide (p.qB=zSt)&&true)=true; rw [decide_eq_true h]; rfl)]
  exact ⟨h.symm,fun _=>rfl⟩
 ·rw [if_neg (by show ¬ (decide (p.qB=zSt)&&true)=true; rw [decide_eq_false h]; simp),Vn,if_pos (show (Qw p).ID=p.ID from rfl)]
  exact ⟨rfl,fun _=>rfl⟩
theorem qOZ {p:qa}:zM (oP (v3 p) p.ID)=zSt∧∀ no,vL (oP (v3 p) p.ID) no=cO p.F no:=by
 unfold oP
 by_cases h:p.F.length=0
 ·rw [if_pos (by show (true&&decide (p.F.length=0))=true; rw [decide_eq_true h]; rfl)]
  refine ⟨rfl,fun no=>?_⟩
  rw [List.length_eq_zero_iff.1 h]; rfl
 ·rw [if_neg (by show ¬ (true&&decide (p.F.length=0))=true; rw [decide_eq_false h]; simp),Vn,if_pos (show (v3 p).ID=p.ID from rfl)]
  exact ⟨rfl,fun _=>rfl⟩
theorem qCQ {e:qa} {id:Vector UInt8 16} (h:e.ID≠id):oP e id=none:=by
 unfold oP
 split
 ·rfl
 ·rw [Vn,if_neg h]; rfl
def qzt (o:Option qa) (r:qa):Prop:=∀ no d c,vL o no=some d→cO r.F no=some c→zK d.V=zK c.V→d.V=c.V
theorem qAl {q:qc→Bool} {no:Int}:∀ {l:List qc},qhT l→cO (l.filter q) no=(l.find? fun f=>decide (f.No=no)).bind fun f=>if q f=true then some f.C else none
 | [],_=>rfl
 | x::l,h=>by
  have hp:=List.pairwise_cons.1 h
  have ih:=qAl (q:=q) (no:=no) hp.2
  rw [List.filter_cons,List.find?_cons]
  by_cases e:x.No=no
  ·rw [decide_eq_true e]
   show _=if q x=true then some x.C else none
   by_cases hq:q x=true
   ·rw [if_pos hq,if_pos hq,JI,if_pos e]
   ·rw [if_neg hq,if_neg hq]
    cases hc:cO (l.filter q) no with
    | none=>rfl
    | some c=>
     obtain ⟨f,hf,h1,_⟩:=Yr hc
     have:=hp.1 f (List.mem_filter.1 hf).1
     omega
  ·rw [decide_eq_false e]
   show _=(l.find? fun f=>decide (f.No=no)).bind _
   by_cases hq:q x=true
   ·rw [if_pos hq,JI,if_neg e,ih]
   ·rw [if_neg hq,ih]
theorem qLq {o:Option qa} {r:qa} (hr:jb r=true) (no:Int):cO (jr o r).F no=(cO r.F no).filter fun c=>exK c o no:=by
 show cO (r.F.filter fun f=>exK f.C o f.No) no=_
 rw [qAl (QS.1 hr).2.2.1]
 unfold cO
 cases hf:r.F.find? fun f=>decide (f.No=no) with
 | none=>rfl
 | some f=>
  have hno:f.No=no:=of_decide_eq_true (List.find?_some (p:=fun f:qc=>decide (f.No=no)) hf)
  subst hno
  show (if exK f.C o f.No=true then some f.C else none)=(some f.C).filter fun c=>exK c o f.No
  rw [Option.filter_some]
theorem qPz {id:Vector UInt8 16} {o:Option qa} (ho:VO id o) {no:Int} {d:qe} (h:vL o no=some d):slB (zM o) d.S=true:=by
 cases o with
 | none=>cases h
 | some r=>exact (qix (ho r rfl).1 h).2.2.2
theorem qKc {id : Vector UInt8 16} {o : Option qa} {c : qe} {D : qd} {no : Int} (hD : slB D (zM o) = false) (ho : VO id o) (hx : exK c o no = false) (hc : ∀ d, vL o no = some d → zK d.V = zK c.V → d.V = c.V) :
    fl D (jC (vL o no) none)=fl D (jC (vL o no) (some c)):=by
 unfold exK at hx
 cases e:vL o no with
 | none=>
  rw [e] at hx
  have hx:(slB (zM o) c.S&&true)=false:=hx
  rw [Bool.and_true] at hx
  show none=fl D (some c)
  rw [qdq,if_neg (by rw [qnE hD hx]; simp)]
 | some d=>
  rw [e] at hx
  have hd:=qPz ho e
  have key:Qc d c=false:=by
   cases hs:slB (zM o) c.S with
   | false=>
    have hcd:slB c.S d.S=true:=by
     rcases KJ c.S (zM o) with h | h | h
     ·exact qgj h.1 hd
     ·rw [h]; exact hd
     ·rw [hs] at h; exact absurd h.1 (by simp)
    unfold Qc
    rw [if_neg (fun h=>qQW hcd h.symm)]
    rcases KJ d.S c.S with h | h | h
    ·have:=qgj hcd h.1; rw [Qv] at this; cases this
    ·rw [h,Qv]
    ·exact h.2
   | true=>
    rw [hs,Bool.true_and] at hx
    have hx:(if d.S=c.S then ltD (zK d.V) (zK c.V) else slB d.S c.S)=false:=hx
    unfold Qc
    by_cases h1:d.S=c.S
    ·rw [if_pos h1] at hx ⊢
     by_cases h2:zK d.V=zK c.V
     ·rw [if_pos h2,hc d e h2,XP]
     ·rw [if_neg h2]; exact hx
    ·rw [if_neg h1] at hx ⊢; exact hx
  show fl D (some d)=fl D (some (cJ d c))
  rw [qx0 key]
theorem qz5 {o:Option qa} {r:qa}:mxS (zM o) (jr o r).qB=mxS (zM o) r.qB∨stB (zM o)=false:=by
 show mxS (zM o) (if slB (zM o) r.qB=true then r.qB else zSt)=_∨_
 cases hs:stB (zM o) with
 | false=>exact .inr rfl
 | true=>
  left
  cases h:slB (zM o) r.qB with
  | true=>rfl
  | false=>
   show mxS (zM o) zSt=_
   rw [ql_ h,qrH hs]
theorem qGv {o:Option qa} {r:qa} (hr:jb r=true):stB (jr o r).qB=true∧((jr o r).F.length=0∨jb (v3 (jr o r))=true):=by
 have hR:=QS.1 hr
 refine ⟨?_,?_⟩
 ·show stB (if slB (zM o) r.qB=true then r.qB else zSt)=true
  split
  ·exact hR.1
  ·rfl
 ·by_cases h0:(jr o r).F.length=0
  ·exact .inl h0
  ·right
   refine QS.2 ⟨rfl,.inl (fun h=>h0 (by rw [show (jr o r).F=[] from h]; rfl)),hR.2.2.1.sublist (List.filter_sublist),fun f hf=>?_⟩
   have h1:=hR.2.2.2 f (List.mem_filter.1 hf).1
   have hc:=h1.2.2.1
   unfold XC at hc
   simp only [Bool.and_eq_true,Bool.not_eq_true',decide_eq_false_iff_not] at hc
   exact ⟨h1.1,h1.2.1,h1.2.2.1,qob hc.2.1 hc.1⟩
theorem qzY {o : Option qa} {r : qa} (hr : jb r = true) (ho : VO r.ID o) (hn : qzt o r) :
    jR (jR o (oP (Qw (jr o r)) r.ID)) (oP (v3 (jr o r)) r.ID)=jR o (some r):=by
 obtain ⟨hs,hl⟩:=qGv (o:=o) hr
 have vh:VO r.ID (oP (Qw (jr o r)) r.ID):=qOJ (qGn hs) _
 have vl:VO r.ID (oP (v3 (jr o r)) r.ID):=qOJ (qHi hl) _
 have vr:VO r.ID (some r):=fun x hx=>by obtain rfl:=Option.some.inj hx; exact ⟨hr,rfl⟩
 have h1:=qO2 (p:=jr o r)
 have h2:=qOZ (p:=jr o r)
 have hp:(jr o r).ID=r.ID:=rfl
 rw [hp] at h1 h2
 have so:=qiC ho
 have d1:zM (jR o (oP (Qw (jr o r)) r.ID))=mxS (zM o) r.qB:=by
  rw [qsc ho vh,h1.1]
  exact (qz5 (o:=o) (r:=r)).resolve_right (by rw [so]; simp)
 have sd:stB (mxS (zM o) r.qB)=true:=by
  rcases qLl (zM o) r.qB with e | e
  ·rw [e]; exact so
  ·rw [e]; exact (QS.1 hr).1
 refine qPt (qyb (qyb ho vh) vl) (qyb ho vr) ?_ fun no=>?_
 ·rw [qsc (qyb ho vh) vl,d1,h2.1,qrH sd,qsc ho vr]; rfl
 ·rw [qse (qyb ho vh) vl,qse ho vr,d1,h2.1,qrH sd,h2.2,qse ho vh,h1.2]
  have e1:mxS (zM o) (zM (oP (Qw (jr o r)) r.ID))=mxS (zM o) r.qB:=by
   rw [h1.1]; exact (qz5 (o:=o) (r:=r)).resolve_right (by rw [so]; simp)
  rw [e1]
  have e2:=qPm (d:=mxS (zM o) r.qB) (d1:=mxS (zM o) r.qB) (Qv _) (jC (vL o no) none) (cO (jr o r).F no)
  have e3:fl (mxS (zM o) r.qB) (jC (fl (mxS (zM o) r.qB) (jC (vL o no) none)) (cO (jr o r).F no))=fl (mxS (zM o) r.qB) (jC (vL o no) (cO (jr o r).F no)):=by
   rw [e2,qGW]
  rw [e3,qLq hr]
  show fl (mxS (zM o) r.qB) (jC (vL o no) ((cO r.F no).filter fun c=>exK c o no))=fl (mxS (zM o) r.qB) (jC (vL o no) (cO r.F no))
  cases ec:cO r.F no with
  | none=>rfl
  | some c=>
   rw [Option.filter_some]
   by_cases hx:exK c o no=true
   ·rw [if_pos hx]
   ·rw [if_neg hx]
    exact qKc (qQ2 _ _) ho (by cases h:exK c o no with | false=>rfl | true=>exact (hx h).elim) fun d hd=>hn no d c hd ec
end Go.Rx
end
set_option maxRecDepth 100000
noncomputable section
namespace Go.Rx
open Go.Proofs
def qom (N:Nat) (fin:qb→Prop):List qa→qb→Prop
 | [],c=>zS c=true∧fin c
 | p::l,c=>zS c=true∧p.F.length≤8∧(qcZ N c p).2=0∧qom N fin l (qcZ N c p).1
theorem qrV {N:Nat} {fin fin':qb→Prop} (h:∀ c,fin c→fin' c):∀ {l:List qa} {c:qb},qom N fin l c→qom N fin' l c
 | [],_,g=>⟨g.1,h _ g.2⟩
 | _::_,_,g=>⟨g.1,g.2.1,g.2.2.1,qrV h g.2.2.2⟩
theorem qPW {c J:List qa} (hc:KD c) (h:∀ id,rO c id≠none→rO J id≠none):c.length≤J.length:=by
 have:=qDq (l:=c.map fun r=>r.ID) (m:=J.map fun r=>r.ID) (qJw hc) fun id hid=>by
  obtain ⟨r,hr,rfl⟩:=List.mem_map.1 hid
  have hn:=h r.ID (by rw [qkh hc hr]; simp)
  cases e:rO J r.ID with
  | none=>exact (hn e).elim
  | some s=>exact List.mem_map.2 ⟨s,(Qa e).1,(Qa e).2⟩
 rwa [List.length_map,List.length_map] at this
section
variable {N:Nat} [JA N]
theorem qEN {c:qb} {e:qa} {J:List qa} (hJ:J.length≤10) (hc:zS c=true) (he:ji e=true∨jb e=true) (hsub:∀ id,jR (rO c.R id) (oP e id)≠none→rO J id≠none):(QA N c e).2=0:=by
 cases hn:ji e with
 | true=>rw [qCh hn]
 | false=>
  have hr:jb e=true:=he.resolve_left (by rw [hn]; simp)
  have hb1:zS (qb.mk [e])=true:=ZP.2 ⟨⟨List.pairwise_singleton _ _,fun r hr'=>by rw [List.mem_singleton.1 hr']; exact hr⟩,by show 1≤10; omega⟩
  obtain ⟨d,hd,ed⟩:=qKd (N:=N) hc hb1
  have hl:d.length≤J.length:=qPW hd.1 fun id hid=>hsub id (by
   rw [hd.2] at hid
   unfold oP
   rw [if_neg (by rw [hn]; simp)]; exact hid)
  rw [qCg hn,ed]
  unfold qxR
  rw [if_pos (by omega)]
theorem qOs {c : qb} {p : qa} {J : List qa} (hJ : J.length ≤ 10) (hc : zS c = true) (h8 : p.F.length ≤ 8) (hn : ji p = false) (hs : stB p.qB = true) (hl : p.F.length = 0 ∨ jb (v3 p) = true)
    (hsub:∀ id,jR (jR (rO c.R id) (oP (Qw p) id)) (oP (v3 p) id)≠none→rO J id≠none):(qcZ N c p).2=0:=by
 have hN:=big N
 have mono:∀ {o q:Option qa},o≠none→jR o q≠none:=fun {o q} h=>by
  cases o with
  | none=>exact (h rfl).elim
  | some r=>cases q<;>simp [jR]
 have z1:(QA N c (Qw p)).2=0:=qEN hJ hc (qGn hs) fun id hid=>hsub id (mono hid)
 obtain ⟨v1,r1⟩:=qrO (e:=Qw p) hc (by show 0 < N; omega) (Nat.zero_le _) z1
 have z2:(QA N (QA N c (Qw p)).1 (v3 p)).2=0:=qEN hJ v1 (qHi hl) fun id hid=>hsub id (by rw [r1] at hid; exact hid)
 unfold qcZ qyH
 rw [if_pos (qDv.2 ⟨hc,hn,hs,hl⟩),if_pos z1,if_pos z2]
theorem qC0 {p:qa} (h:ji p=true) (id:Vector UInt8 16):oP (Qw p) id=none∧oP (v3 p) id=none:=by
 unfold ji at h
 rw [Bool.and_eq_true] at h
 exact ⟨if_pos (by show (decide (p.qB=zSt)&&true)=true; rw [h.1]; rfl),if_pos (by show (true&&decide (p.F.length=0))=true; rw [h.2]; rfl)⟩
theorem qyD {J : List qa} (hJ : J.length ≤ 10) {m : qp} : ∀ (rs : List qa) (c : qb), zS c = true → KD rs → (∀ r ∈ rs, jb r = true) →
    (∀ r∈rs,partOf m r=jr (rO c.R r.ID) r)→(∀ r∈rs,qzt (rO c.R r.ID) r)→(∀ id,rO c.R id≠none→rO J id≠none)→(∀ r∈rs,rO J r.ID≠none)→
    qom N (fun c'=>∀ id,rO c'.R id=jR (rO c.R id) (rO rs id)) (rs.flatMap (JR m)) c
 | [],c,hc,_,_,_,_,_,_=>⟨hc,fun id=>by rw [qwz,XM]⟩
 | r::rs,c,hc,hs,hr,hp,hn,hsub,hin=>by
  have ps:=List.pairwise_cons.1 hs
  have hrr:=hr r (List.mem_cons_self ..)
  have hC:=ZP.1 hc
  have vo:VO r.ID (rO c.R r.ID):=qkf hC.1.2 _
  have hjp:=qzY hrr vo (hn r (List.mem_cons_self ..))
  have hpr:=hp r (List.mem_cons_self ..)
  have hne:∀ x∈rs,r.ID≠x.ID:=fun x hx e=>by
   have:=ps.1 x hx
   rw [e,qcS] at this; cases this
  have hrest:rO rs r.ID=none:=by
   cases e:rO rs r.ID with
   | none=>rfl
   | some x=>exact (hne x (Qa e).1 (Qa e).2.symm).elim
  rw [List.flatMap_cons]
  cases hno:ji (partOf m r) with
  | true=>
   rw [qAi hno]
   rw [hpr] at hno
   have ho:=qC0 hno r.ID
   rw [ho.1,ho.2,XM,XM] at hjp
   refine qrV (fun c' h id=>?_) (qyD hJ rs c hc ps.2 (fun x hx=>hr x (List.mem_cons_of_mem _ hx)) (fun x hx=>hp x (List.mem_cons_of_mem _ hx)) (fun x hx=>hn x (List.mem_cons_of_mem _ hx)) hsub fun x hx=>hin x (List.mem_cons_of_mem _ hx))
   rw [h id,Vn]
   by_cases e:r.ID=id
   ·subst e
    rw [if_pos rfl,hrest,XM]; exact hjp
   ·rw [if_neg e]
  | false=>
   rw [qAd hno]
   show qom N _ (partOf m r::rs.flatMap (JR m)) c
   rw [hpr] at hno ⊢
   obtain ⟨hst,hlv⟩:=qGv (o:=rO c.R r.ID) hrr
   have h8:(jr (rO c.R r.ID) r).F.length≤8:=Nat.le_trans (List.length_filter_le _ _) (Yj hrr)
   have hnew:∀ id,jR (jR (rO c.R id) (oP (Qw (jr (rO c.R r.ID) r)) id)) (oP (v3 (jr (rO c.R r.ID) r)) id)=if r.ID=id then jR (rO c.R id) (some r) else rO c.R id:=fun id=>by
    by_cases e:r.ID=id
    ·subst e; rw [if_pos rfl]; exact hjp
    ·rw [if_neg e,qCQ (show (Qw (jr (rO c.R r.ID) r)).ID≠id from e),qCQ (show (v3 (jr (rO c.R r.ID) r)).ID≠id from e),XM,XM]
   have hsub':∀ id,jR (jR (rO c.R id) (oP (Qw (jr (rO c.R r.ID) r)) id)) (oP (v3 (jr (rO c.R r.ID) r)) id)≠none→rO J id≠none:=fun id h=>by
    rw [hnew] at h
    by_cases e:r.ID=id
    ·rw [← e]; exact hin r (List.mem_cons_self ..)
    ·rw [if_neg e] at h; exact hsub id h
   have hz:=qOs (N:=N) hJ hc h8 hno hst hlv hsub'
   have hN:=big N
   obtain ⟨_,hv,hrO⟩:=qO6 (N:=N) (by omega) (by omega) hz
   have hrO':∀ id,rO (qcZ N c (jr (rO c.R r.ID) r)).1.R id=if r.ID=id then jR (rO c.R id) (some r) else rO c.R id:=fun id=>(hrO id).trans (hnew id)
   have same:∀ x∈rs,rO (qcZ N c (jr (rO c.R r.ID) r)).1.R x.ID=rO c.R x.ID:=fun x hx=>by rw [hrO',if_neg (hne x hx)]
   refine ⟨hc,h8,hz,qrV (fun c' h id=>?_) (qyD hJ rs _ hv ps.2 (fun x hx=>hr x (List.mem_cons_of_mem _ hx)) (fun x hx=>by rw [same x hx]; exact hp x (List.mem_cons_of_mem _ hx)) (fun x hx=>by rw [same x hx]; exact hn x (List.mem_cons_of_mem _ hx)) (fun id h=>by rw [hrO] at h; exact hsub' id h) fun x hx=>hin x (List.mem_cons_of_mem _ hx))⟩
   rw [h id,hrO',Vn]
   by_cases e:r.ID=id
   ·subst e
    rw [if_pos rfl,if_pos rfl,hrest,XM]
   ·rw [if_neg e,if_neg e]
theorem qKj {b j : qb} {l : List qa} {fin : qb → Prop} (hl : l.length ≤ 1000) (h : qom N fin l b) :
    ∃ c,J3 N b j l b 0=some (.inr (c,((l.length:Nat):Int),false))∧zS c=true∧fin c:=by
 have hN:=big N
 have key:∃ y,qY (Qd N b j l) some N (b,((0:Nat):Int))=some y∧∃ c,y=.inr (c,((l.length:Nat):Int),false)∧zS c=true∧fin c:=by
  refine Vq (I:=fun v=>∃ (k:Nat) (c:qb),k≤l.length∧v=(c,(k:Int))∧qom N fin (l.drop k) c) (fun v=>l.length - v.2.toNat) ?_ N _ ⟨0,b,Nat.zero_le _,rfl,h⟩ (by simp; omega)
  rintro v ⟨k,c,hk,rfl,hg⟩
  by_cases h:k < l.length
  ·left
   rw [qkd (d:=zR) h] at hg
   obtain ⟨g1,g2,g3,g4⟩:=hg
   refine ⟨((qcZ N c (l.getD k zR)).1,((k + 1:Nat):Int)),?_,⟨k + 1,_,h,rfl,g4⟩,by simp only [Int.toNat_natCast]; omega⟩
   unfold Qd
   exact w_t (dec_lt h) <| qy (zY (d:=zR) h) <| qy (qQF (qfg g1) (by omega) (by omega)) <| w_f (by rw [decide_eq_true g3]; rfl) <| q9 (jz (by omega)) <| qU (by rw [zd])
  ·right
   obtain rfl:k=l.length:=by omega
   rw [List.drop_of_length_le (Nat.le_refl _)] at hg
   refine ⟨.inr (c,((l.length:Nat):Int),false),_,?_,rfl,c,rfl,hg.1,hg.2⟩
   unfold Qd
   exact w_f (zp (Nat.lt_irrefl _)) (qU (by rw [zp (Nat.lt_irrefl _)]))
 obtain ⟨y,e,c,rfl,h⟩:=key
 exact ⟨c,e,h⟩
end
end Go.Rx
end
set_option maxRecDepth 100000
noncomputable section
namespace Go.Rx
open Go.Proofs
def qnF (r:qa):List (List UInt8):=r.F.map fun f=>f.C.V
def jK (l:List qa):List (List UInt8):=l.flatMap qnF
def qb7 (b:qb):Prop:=b.R.length≤1048576∧∀ r∈b.R,r.F.length≤1468006∧∀ f∈r.F,f.C.V.length≤58720256
theorem qfM:∀ {l:List qa},(∀ r∈l,r.F.length≤1468006)→(jK l).length≤l.length * 1468006
 | [],_=>Nat.zero_le _
 | r::l,h=>by
  have h1:=h r (List.mem_cons_self ..)
  have h2:=qfM (l:=l) fun x hx=>h x (List.mem_cons_of_mem _ hx)
  unfold jK at h2 ⊢
  rw [List.flatMap_cons,List.length_append,List.length_cons]
  have:(qnF r).length=r.F.length:=by unfold qnF; rw [List.length_map]
  rw [this,Nat.succ_mul]; omega
theorem qAt {l:List qa} {k:Nat} (h:k < l.length):jK (l.take (k + 1))=jK (l.take k)++qnF (l.getD k zR):=qrh (d:=zR) h
def okV (l:List (List UInt8)) (k:Nat):Bool:=vW (fun j=>decide (l.getD k []=l.getD j [])||!decide (zK (l.getD k [])=zK (l.getD j []))) k
theorem qyd {V W Y : Type} {B : V → Tree (V ⊕ W)} {g : W → Option Y} {at_ : Nat → V} {q : Nat → Bool} {n : Nat} {hit fin : W}
    (h1:∀ k,k < n→(B (at_ k)).run some=some (if q k then .inl (at_ (k + 1)) else .inr hit)) (h2:(B (at_ n)).run some=some (.inr fin)) :
    ∀ (m k:Nat),k + m=n→∀ N,m < N→(∀ j,j < k→q j=true)→qY B g N (at_ k)=g (if vW q n then fin else hit)
 | 0,k,hk,N + 1,_,hq=>by
  obtain rfl:k=n:=by omega
  rw [zV h2,if_pos (JC.2 hq)]
 | m + 1,k,hk,N + 1,hN,hq=>by
  have h:=h1 k (by omega)
  cases e:q k with
  | true=>
   rw [e,if_pos rfl] at h
   rw [J1 h]
   exact qyd h1 h2 m (k + 1) (by omega) N (by omega) fun j hj=>by
    by_cases ej:j=k
    ·rw [ej]; exact e
    ·exact hq j (by omega)
  | false=>
   rw [e,if_neg (by simp)] at h
   rw [zV h,if_neg (fun ha=>by have:=JC.1 ha k (by omega); rw [e] at this; cases this)]
 | _,_,_,0,hN,_=>by omega
section
variable {N:Nat} [JA N] (hN:100000000000000≤N)
include hN
theorem qLx {l:List UInt8} (h:l.length≤58720256):qaq N l=some (zK l):=by
 unfold qaq qnQ
 exact q9 (show qkq l.length by unfold qkq; omega) <| qy (qD2 (by omega) (by omega)) <| qU rfl
theorem qDm {a b : qb} {i : Nat} (hi : i < a.R.length) (hF : (a.R.getD i zR).F.length ≤ 1468006) {acc : List (List UInt8)} (ha : acc.length ≤ 4000000000000) :
    J_ N a b (i:Int) acc 0=some (acc++qnF (a.R.getD i zR),(((a.R.getD i zR).F.length:Nat):Int),false):=by
 have e0:J_ N a b (i:Int) acc 0=qY (QJ N a b (i:Int)) some N (acc++((a.R.getD i zR).F.take 0).map (fun f=>f.C.V),((0:Nat):Int)):=by rw [List.take_zero,List.map_nil,List.append_nil]; rfl
 rw [e0]
 refine jY (σ:=Unit) (B:=QJ N a b (i:Int)) (g:=some) (at_:=fun k _=>(acc++((a.R.getD i zR).F.take k).map (fun f=>f.C.V),(k:Int))) (I:=fun _ _=>True) (f:=fun _ s=>s) (n:=(a.R.getD i zR).F.length)
  (fin:=fun _=>(acc++qnF (a.R.getD i zR),(((a.R.getD i zR).F.length:Nat):Int),false)) (fun k s hk _=>⟨?_,trivial⟩) (fun s _=>?_) N 0 () trivial (Nat.zero_le _) (by omega)
 ·have eT : acc ++ ((a.R.getD i zR).F.take k).map (fun f => f.C.V) ++ [((a.R.getD i zR).F.getD k zF).C.V] = acc ++ ((a.R.getD i zR).F.take (k + 1)).map (fun f => f.C.V) := by
     rw [qiA (d:=zF) hk,List.map_append,List.append_assoc]; rfl
  have hlen:(acc++((a.R.getD i zR).F.take (k + 1)).map (fun f=>f.C.V)).length≤4000001468006:=by rw [List.length_append,List.length_map,List.length_take]; omega
  unfold QJ
  refine qy (zY (d:=zR) hi) <| w_t (dec_lt hk) <| qy (zY (d:=zR) hi) <| qy (zY (d:=zF) hk) ?_
  show (Tree.chk (jx _ _ (acc++((a.R.getD i zR).F.take k).map (fun f=>f.C.V)++[((a.R.getD i zR).F.getD k zF).C.V]).length 16) _).run some=_
  refine q9 ⟨rfl,by rw [eT]; unfold zc; omega⟩ <| q9 (jz (by omega)) <| qU ?_
  rw [zd,← eT]
 ·unfold QJ
  exact qy (zY (d:=zR) hi) <| w_f (zp (Nat.lt_irrefl _)) (qU (by rw [zp (Nat.lt_irrefl _),List.take_of_length_le (Nat.le_refl _)]; rfl))
theorem qKX {b : qb} {i : Nat} (hi : i < b.R.length) (hF : (b.R.getD i zR).F.length ≤ 1468006) {acc : List (List UInt8)} (ha : acc.length ≤ 4000000000000) :
    Wh N b (i:Int) acc 0=some (acc++qnF (b.R.getD i zR),(((b.R.getD i zR).F.length:Nat):Int),false):=qDm hN (a:=b) (b:=b) hi hF ha
theorem qMi {a b:qb} (ha:qb7 a):WS N a b [] 0=some (jK a.R,((a.R.length:Nat):Int),false):=by
 refine jY (σ:=Unit) (B:=Ji N a b) (g:=some) (at_:=fun k _=>(jK (a.R.take k),(k:Int))) (I:=fun _ _=>True) (f:=fun _ s=>s) (n:=a.R.length)
  (fin:=fun _=>(jK a.R,((a.R.length:Nat):Int),false)) (fun k s hk _=>⟨?_,trivial⟩) (fun s _=>?_) N 0 () trivial (Nat.zero_le _) (by have:=ha.1; omega)
 ·have hF:=(ha.2 _ (qno (d:=zR) hk)).1
  have hl:=qfM (l:=a.R.take k) fun x hx=>(ha.2 x (List.mem_of_mem_take hx)).1
  have hk2:(a.R.take k).length≤1048576:=by rw [List.length_take]; have:=ha.1; omega
  have hl2:(jK (a.R.take k)).length≤4000000000000:=by
   have:(a.R.take k).length * 1468006≤1048576 * 1468006:=Nat.mul_le_mul_right _ hk2
   omega
  unfold Ji
  exact w_t (dec_lt hk) <| qy ((zj rfl).trans (qDm hN hk hF hl2)) <| q9 (jz (by have:=ha.1; omega)) <| qU (by rw [zd,qAt hk])
 ·unfold Ji
  exact w_f (zp (Nat.lt_irrefl _)) (qU (by rw [zp (Nat.lt_irrefl _),List.take_of_length_le (Nat.le_refl _)]))
theorem qJv {b:qb} (hb:qb7 b) {acc:List (List UInt8)} (ha:acc.length≤1600000000000):JK N b acc 0=some (acc++jK b.R,((b.R.length:Nat):Int),false):=by
 have e0:JK N b acc 0=qY (Qm N b) some N (acc++jK (b.R.take 0),((0:Nat):Int)):=by rw [List.take_zero,show jK []=[] from rfl,List.append_nil]; rfl
 rw [e0]
 refine jY (σ:=Unit) (B:=Qm N b) (g:=some) (at_:=fun k _=>(acc++jK (b.R.take k),(k:Int))) (I:=fun _ _=>True) (f:=fun _ s=>s) (n:=b.R.length)
  (fin:=fun _=>(acc++jK b.R,((b.R.length:Nat):Int),false)) (fun k s hk _=>⟨?_,trivial⟩) (fun s _=>?_) N 0 () trivial (Nat.zero_le _) (by have:=hb.1; omega)
 ·have hF:=(hb.2 _ (qno (d:=zR) hk)).1
  have hl:=qfM (l:=b.R.take k) fun x hx=>(hb.2 x (List.mem_of_mem_take hx)).1
  have hk2:(b.R.take k).length≤1048576:=by rw [List.length_take]; have:=hb.1; omega
  have hl2:(acc++jK (b.R.take k)).length≤4000000000000:=by
   have:(b.R.take k).length * 1468006≤1048576 * 1468006:=Nat.mul_le_mul_right _ hk2
   rw [List.length_append]; omega
  unfold Qm
  exact w_t (dec_lt hk) <| qy ((zj rfl).trans (qKX hN hk hF hl2)) <| q9 (jz (by have:=hb.1; omega)) <| qU (by rw [zd,qAt hk,List.append_assoc])
 ·unfold Qm
  exact w_f (zp (Nat.lt_irrefl _)) (qU (by rw [zp (Nat.lt_irrefl _),List.take_of_length_le (Nat.le_refl _)]))
theorem qKy {l : List (List UInt8)} {i : Nat} (hi : i < l.length) (hl : l.length ≤ 4000000000000) :
    Wj N l ((l.take (i + 1)).map zK) (i:Int) 0=some (if okV l i then .inr ((i:Int),false) else .inl ()):=by
 have hdl:((l.take (i + 1)).map zK).length=i + 1:=by rw [List.length_map,List.length_take]; omega
 have gd:∀ j,j≤i→((l.take (i + 1)).map zK).getD j (Vector.replicate 32 0)=zK (l.getD j []):=fun j hj=>by
  have hjl:j < (l.take (i + 1)).length:=by rw [List.length_take]; omega
  rw [Xp (d:=[]) hjl,List.getD_eq_getElem?_getD,List.getD_eq_getElem?_getD,List.getElem?_take,if_pos (by omega)]
 refine X4 (B:=ZU N l ((l.take (i + 1)).map zK) (i:Int)) (g:=some) (q:=fun j=>decide (l.getD i []=l.getD j [])||!decide (zK (l.getD i [])=zK (l.getD j []))) (fun j hj=>?_) ?_ (by omega)
 ·have g1:Zd l l.length ((i:Nat):Int).toNat=some (l.getD i []):=qi7 rfl hi
  have g2:Zd l l.length ((j:Nat):Int).toNat=some (l.getD j []):=qi7 rfl (by omega)
  have g3:Zd ((l.take (i + 1)).map zK) ((l.take (i + 1)).map zK).length ((i:Nat):Int).toNat=some (zK (l.getD i [])):=by rw [← gd i (Nat.le_refl _)]; exact qi7 rfl (by rw [hdl,Int.toNat_natCast]; omega)
  have g4:Zd ((l.take (i + 1)).map zK) ((l.take (i + 1)).map zK).length ((j:Nat):Int).toNat=some (zK (l.getD j [])):=by rw [← gd j (by omega)]; exact qi7 rfl (by rw [hdl,Int.toNat_natCast]; omega)
  unfold ZU
  refine w_t (dec_lt hj) <| q9 ⟨by show (0:Int)≤(i:Int); omega,by show (i:Int) < _; omega⟩ <| qy g1 <| q9 ⟨by show (0:Int)≤(j:Int); omega,by show (j:Int) < _; omega⟩ <| qy g2 <| qm9 rfl (fun h=>?_) fun h=>?_
  ·have h':decide (l.getD i []=l.getD j [])=false:=by rw [Bool.not_eq_true'] at h; exact h
   rw [h',Bool.false_or]
   refine q9 ⟨by show (0:Int)≤(i:Int); omega,by show (i:Int) < _; have:=hdl; omega⟩ <| qy g3 <| q9 ⟨by show (0:Int)≤(j:Int); omega,by show (j:Int) < _; have:=hdl; omega⟩ <| qy g4 <| qm9 (eqD _ _) (fun h2=>qU ?_) fun h2=>q9 (jz (by omega)) <| qU ?_
   ·rw [h2]; rfl
   ·rw [h2,zd]; rfl
  ·have h':decide (l.getD i []=l.getD j [])=true:=by rw [Bool.not_eq_false'] at h; exact h
   rw [h',Bool.true_or]
   exact q9 (jz (by omega)) <| qU (by rw [zd]; rfl)
 ·unfold ZU
  exact w_f (zp (Nat.lt_irrefl _)) (qU (by rw [zp (Nat.lt_irrefl _)]))
theorem qJ3 {l : List (List UInt8)} (hl : l.length ≤ 4000000000000) (hV : ∀ v ∈ l, v.length ≤ 58720256) :
    ∃ z,Wo N l [] 0=some (if vW (okV l) l.length then .inr z else .inl ()):=by
 refine ⟨(l.map zK,((l.length:Nat):Int),false),?_⟩
 refine (qyd (B:=ZK N l) (g:=some) (at_:=fun k=>((l.take k).map zK,(k:Int))) (q:=okV l) (n:=l.length) (hit:=.inl ()) (fin:=.inr (l.map zK,((l.length:Nat):Int),false)) (fun k hk=>?_) ?_ l.length 0 (by omega) N (by omega) (fun j hj=>by omega)).trans ?_
 ·have g1:Zd l l.length ((k:Nat):Int).toNat=some (l.getD k []):=qi7 rfl hk
  have eT:(l.take k).map zK++[zK (l.getD k [])]=(l.take (k + 1)).map zK:=by rw [qiA (d:=[]) hk,List.map_append]; rfl
  have e22:=qKy hN hk hl
  unfold ZK
  refine w_t (dec_lt hk) <| q9 ⟨by show (0:Int)≤(k:Int); omega,by show (k:Int) < _; omega⟩ <| qy g1 <| qy (qLx hN (hV _ (qno hk))) ?_
  dsimp only
  rw [eT]
  refine q9 ⟨rfl,by rw [List.length_map,List.length_take]; unfold zc; omega⟩ <| qy ((zj rfl).trans ((zj rfl).trans e22)) ?_
  cases okV l k with
  | false=>rfl
  | true=>exact w_r rfl <| q9 (jz (by omega)) <| qU (by rw [zd]; rfl)
 ·unfold ZK
  exact w_f (zp (Nat.lt_irrefl _)) (qU (by rw [zp (Nat.lt_irrefl _),List.take_of_length_le (Nat.le_refl _)]))
 ·split<;>rfl
theorem qJp {a b:qb} (ha:qb7 a) (hb:qb7 b):X6 N a b=some (!vW (okV (jK a.R++jK b.R)) (jK a.R++jK b.R).length):=by
 have la:=qfM (l:=a.R) fun x hx=>(ha.2 x hx).1
 have lb:=qfM (l:=b.R) fun x hx=>(hb.2 x hx).1
 have la2:(jK a.R).length≤1600000000000:=by
  have:a.R.length * 1468006≤1048576 * 1468006:=Nat.mul_le_mul_right _ ha.1
  omega
 have lb2:(jK b.R).length≤1600000000000:=by
  have:b.R.length * 1468006≤1048576 * 1468006:=Nat.mul_le_mul_right _ hb.1
  omega
 have hV:∀ v∈jK a.R++jK b.R,v.length≤58720256:=fun v hv=>by
  rcases List.mem_append.1 hv with h | h
  ·obtain ⟨r,hr,hv⟩:=List.mem_flatMap.1 h
   obtain ⟨f,hf,rfl⟩:=List.mem_map.1 hv
   exact (ha.2 r hr).2 f hf
  ·obtain ⟨r,hr,hv⟩:=List.mem_flatMap.1 h
   obtain ⟨f,hf,rfl⟩:=List.mem_map.1 hv
   exact (hb.2 r hr).2 f hf
 obtain ⟨z,ez⟩:=qJ3 hN (l:=jK a.R++jK b.R) (by rw [List.length_append]; omega) hV
 unfold X6 YR
 refine qy ((zj rfl).trans (qMi hN ha)) <| qy ((zj rfl).trans (qJv hN hb la2)) <| qy ((zj rfl).trans ((zj rfl).trans ez)) ?_
 cases vW (okV (jK a.R++jK b.R)) (jK a.R++jK b.R).length<;>rfl
end
theorem qPQ {l:List (List UInt8)} (h:vW (okV l) l.length=true):∀ u∈l,∀ v∈l,zK u=zK v→u=v:=by
 have key:∀ i j,i < l.length→j < i→zK (l.getD i [])=zK (l.getD j [])→l.getD i []=l.getD j []:=fun i j hi hj hs=>by
  have:=JC.1 (JC.1 h i hi) j hj
  rw [Bool.or_eq_true,decide_eq_true_iff,Bool.not_eq_true',decide_eq_false_iff_not] at this
  exact this.resolve_right (fun h=>h hs)
 intro u hu v hv hs
 obtain ⟨i,hi,rfl⟩:=List.getElem_of_mem hu
 obtain ⟨j,hj,rfl⟩:=List.getElem_of_mem hv
 have gi:l.getD i []=l[i]:=by rw [List.getD_eq_getElem?_getD,List.getElem?_eq_getElem hi]; rfl
 have gj:l.getD j []=l[j]:=by rw [List.getD_eq_getElem?_getD,List.getElem?_eq_getElem hj]; rfl
 rcases Nat.lt_trichotomy i j with h1 | h1 | h1
 ·have:=key j i hj h1 (by rw [gi,gj]; exact hs.symm)
  rw [gi,gj] at this; exact this.symm
 ·subst h1; rfl
 ·have:=key i j hi h1 (by rw [gi,gj]; exact hs)
  rw [gi,gj] at this; exact this
theorem qLo {o:Option qa} {r:qa} (hr:jb r=true) (ho:VO r.ID o) (hn:ji (jr o r)=false):jR o (some r)≠o:=fun h=>by
 have vr:VO r.ID (some r):=fun x hx=>by obtain rfl:=Option.some.inj hx; exact ⟨hr,rfl⟩
 have hR:=QS.1 hr
 have hd:mxS (zM o) r.qB=zM o:=by
  have:=qsc ho vr
  rw [h] at this; exact this.symm
 have hnd:slB (zM o) r.qB=false:=by
  cases e:slB (zM o) r.qB with
  | false=>rfl
  | true=>rw [qmL e] at hd; rw [hd,Qv] at e; cases e
 have hpd:(jr o r).qB=zSt:=by
  show (if slB (zM o) r.qB=true then r.qB else zSt)=zSt
  rw [hnd]; rfl
 unfold ji at hn
 rw [hpd,decide_eq_true rfl,Bool.true_and,decide_eq_false_iff_not] at hn
 have hne:(jr o r).F≠[]:=fun e=>hn (by rw [e]; rfl)
 obtain ⟨f,l,e⟩:=List.exists_cons_of_ne_nil hne
 have hf:f∈r.F.filter fun f=>exK f.C o f.No:=by
  have:f∈(jr o r).F:=by rw [e]; exact List.mem_cons_self ..
  exact this
 obtain ⟨hfr,hx⟩:=List.mem_filter.1 hf
 have hc:=qzX hR.2.2.1 hfr
 have hS:=(hR.2.2.2 f hfr).2.2.2
 have hcell:=qse ho vr f.No
 have hcell:vL (jR o (some r)) f.No=fl (mxS (zM o) r.qB) (jC (vL o f.No) (cO r.F f.No)):=hcell
 rw [h,hd] at hcell
 have hcell:vL o f.No=fl (zM o) (jC (vL o f.No) (cO r.F f.No)):=hcell
 rw [hc] at hcell
 unfold exK at hx
 rw [Bool.and_eq_true] at hx
 cases ec:vL o f.No with
 | none=>
  rw [ec] at hcell
  have hcell:none=fl (zM o) (some f.C):=hcell
  rw [qdq,if_pos hx.1] at hcell; cases hcell
 | some d=>
  rw [ec] at hcell hx
  have hx2:(if d.S=f.C.S then ltD (zK d.V) (zK f.C.V) else slB d.S f.C.S)=true:=hx.2
  have hl:Qc d f.C=true:=by
   unfold Qc
   by_cases h1:d.S=f.C.S
   ·rw [if_pos h1] at hx2 ⊢
    rw [if_neg (qQh hx2)]; exact hx2
   ·rw [if_neg h1] at hx2 ⊢; exact hx2
  have hcell:some d=fl (zM o) (some (cJ d f.C)):=hcell
  rw [qwT hl,qdq,if_pos hx.1] at hcell
  rw [Option.some.inj hcell,qLh] at hl; cases hl
section
variable {N:Nat} [JA N]
theorem qAU (hN:100000000000000≤N) {a b:qb} (fa:vF N a) (fb:vF N b) (sa:qb7 a) (sb:qb7 b):vv N a b=some true:=by
 obtain ⟨x,ex⟩:=qGK (N:=N) a
 obtain ⟨y,ey⟩:=qGK (N:=N) b
 have ofx:∃ q,Wr N b=some q∧(q.2=true→zS b=true∧∃ D,q.1=Zl D b):=by
  cases hc:zS b with
  | false=>exact ⟨_,qRl fb hc,fun h=>by cases h⟩
  | true=>
   obtain ⟨D,eD⟩:=qQu fb hc
   exact ⟨_,qP9 fb hc eD,fun _=>⟨rfl,D,rfl⟩⟩
 obtain ⟨q1,eq1,hq1⟩:=ofx
 unfold vv VR
 refine qy (show qIu=some true from rfl) <| qy ex <| qy ey <| qy eq1 <| qy (qOH fa fb) <| qy (qJp hN sa sb) <| w_f rfl ?_
 cases x with
 | false=>rfl
 | true=>
  refine w_f rfl ?_
  cases y with
  | false=>rfl
  | true=>
   refine w_f rfl ?_
   cases h1:q1.2 with
   | false=>exact w_t rfl rfl
   | true=>
    refine w_f rfl ?_
    by_cases hz:(jB N a b).2=0
    ·refine w_f (by rw [decide_eq_true hz]; rfl) ?_
     cases hk:vW (okV (jK a.R++jK b.R)) (jK a.R++jK b.R).length with
     | false=>rfl
     | true=>
      refine w_f rfl ?_
      obtain ⟨ha,hb,hJ,hj⟩:=qzb fa fb hz
      obtain ⟨_,D,e1⟩:=hq1 h1
      have hA:=ZP.1 ha
      have hB:=ZP.1 hb
      have hJl:=(ZP.1 hj).2
      have hv:=qPQ hk
      have hva:∀ r∈a.R,∀ f∈r.F,f.C.V∈jK a.R++jK b.R:=fun r hr f hf=>List.mem_append_left _ (List.mem_flatMap.2 ⟨r,hr,List.mem_map.2 ⟨f,hf,rfl⟩⟩)
      have hvb:∀ r∈b.R,∀ f∈r.F,f.C.V∈jK a.R++jK b.R:=fun r hr f hf=>List.mem_append_right _ (List.mem_flatMap.2 ⟨r,hr,List.mem_map.2 ⟨f,hf,rfl⟩⟩)
      have clash:∀ r∈a.R,qzt (rO b.R r.ID) r:=fun r hr no d c hd hc hs=>by
       cases eo:rO b.R r.ID with
       | none=>rw [eo] at hd; cases hd
       | some s=>
        rw [eo] at hd
        obtain ⟨f,hf,_,rfl⟩:=Yr (show cO s.F no=some d from hd)
        obtain ⟨g,hg,_,rfl⟩:=Yr hc
        exact hv _ (hvb s (Qa eo).1 f hf) _ (hva r hr g hg) hs
      have hJa:∀ r∈a.R,rO (jB N a b).1.R r.ID≠none:=fun r hr=>by
       rw [hJ.2,qkh hA.1.1 hr]
       cases rO b.R r.ID<;>simp [jR]
      have hJb:∀ id,rO b.R id≠none→rO (jB N a b).1.R id≠none:=fun id h=>by
       rw [hJ.2]
       cases eb:rO b.R id with
       | none=>exact (h eb).elim
       | some s=>cases rO a.R id<;>simp [jR]
      have g:=qyD (N:=N) hJl (m:=Zl D b) a.R b hb hA.1.1 hA.1.2 (fun r _=>qol) clash hJb hJa
      have p1:=qNM (N:=N) (qKO hb D) ha (qLe hb D)
      have hlen:(JX (Zl D b) a.R).length≤10:=Nat.le_trans qxq hA.2
      obtain ⟨c,ec,hc,hfin⟩:=qKj (N:=N) (j:=(jB N a b).1) (l:=JX (Zl D b) a.R) (by omega) g
      have hcJ:c.R=(jB N a b).1.R:=qvU (ZP.1 hc).1.1 hJ.1 fun id=>by
       rw [hfin id,hJ.2,qyB (qkf hB.1.2 id) (qkf hA.1.2 id)]
      refine qy (by rw [e1]; exact p1) <| qy ec <| w_r rfl <| qy (qCR (qfg hc)) <| w_t (by rw [hcJ]; exact (Zm (.sl 19 qf) _ _).2 rfl) <| qy (qCR (qfg hj)) <| qU ?_
      refine congrArg some ((Zm .b _ _).2 ?_)
      have hiff:(((JX (Zl D b) a.R).length:Nat):Int)=0↔(jB N a b).1.R=b.R:=by
       constructor
       ·intro h0
        have hnil:JX (Zl D b) a.R=[]:=List.length_eq_zero_iff.1 (by omega)
        refine qvU hJ.1 hB.1.1 fun id=>?_
        rw [hJ.2]
        cases ea:rO a.R id with
        | none=>rfl
        | some r=>
         have hr:=Qa ea
         have hno:ji (jr (rO b.R r.ID) r)=true:=by
          cases hno:ji (jr (rO b.R r.ID) r) with
          | true=>rfl
          | false=>
           have:partOf (Zl D b) r∈JX (Zl D b) a.R:=List.mem_flatMap.2 ⟨r,hr.1,by rw [qAd (by rw [qol]; exact hno)]; exact List.mem_singleton.2 rfl⟩
           rw [hnil] at this
           exact absurd this List.not_mem_nil
         have hjp:=qzY (hA.1.2 r hr.1) (qkf hB.1.2 _) (clash r hr.1)
         have hoo:=qC0 hno r.ID
         rw [hoo.1,hoo.2,XM,XM] at hjp
         rw [← hr.2,qyB (id:=r.ID) (fun x hx=>by obtain rfl:=Option.some.inj hx; exact ⟨hA.1.2 r hr.1,rfl⟩) (qkf hB.1.2 _)]
         exact hjp.symm
       ·intro he
        have hnil:JX (Zl D b) a.R=[]:=by
         refine qHQ fun r hr=>?_
         cases hno:ji (jr (rO b.R r.ID) r) with
         | true=>rfl
         | false=>
          exfalso
          refine qLo (hA.1.2 r hr) (qkf hB.1.2 _) hno ?_
          have h2:=hJ.2 r.ID
          rw [he,qkh hA.1.1 hr,qyB (id:=r.ID) (fun x hx=>by obtain rfl:=Option.some.inj hx; exact ⟨hA.1.2 r hr,rfl⟩) (qkf hB.1.2 _)] at h2
          exact h2.symm
        rw [hnil]; rfl
      refine Bool.eq_iff_iff.2 ?_
      rw [decide_eq_true_iff]
      exact hiff.trans (Zm (.sl 19 qf) _ _).symm
    ·exact w_t (by rw [decide_eq_false hz]; rfl) <| qU rfl
end
theorem qHO (a b:qb) (sa:qb7 a) (sb:qb7 b):∃ N:Nat,vv N a b=some true:=by
 have f:∀ {c:qb},qb7 c→vF 100000000000000 c:=fun {c} h=>⟨by have:=h.1; omega,by have:=h.1; omega,fun k hk=>by have:=(h.2 _ (qno (d:=zR) hk)).1; exact ⟨by omega,by omega⟩⟩
 have:JA 100000000000000:=JA.of (by omega)
 exact ⟨_,qAU (Nat.le_refl _) (f sa) (f sb) sa sb⟩
end Go.Rx
end
noncomputable section
namespace Go.Rx
variable {P:Program} {H:Type}
def okB (P:Program) (C:Nat):Nat→TypeId→Bool
 | 0,_=>false
 | n + 1,t=>match P.underlying t with
  | some (.slice e)=>Nat.ble (P.bytesOf e) C&&okB P C n e
  | some (.struct fs)=>fs.toList.all fun f=>okB P C n f.type
  | some (.array _ e)=>okB P C n e
  | some (.pointer e)=>okB P C n e
  | some (.map _ _)=>false
  | _=>true
structure qCs (ub:DataW H→Nat):Prop where
 str:∀ s,s.length≤ub (.lit (.string s))
 ptr:∀ d,ub d≤ub (.ptr d)
 sl:∀ a b,a.length + b.length≤ub (.slice a b)∧∀ d∈a++b,ub d≤ub (.slice a b)
 ag:∀ l,∀ d∈l,ub d≤ub (.agg l)
theorem qbf {e:TypeId} {m:Nat}:∀ {l:List (DataW H)},m∈DataW.weightsAll P e l→∃ d∈l,m∈d.weights P e
 | [],h=>by simp [DataW.weightsAll] at h
 | x::l,h=>by
  simp only [DataW.weightsAll,List.mem_append] at h
  rcases h with h | h
  ·exact ⟨x,List.mem_cons_self ..,h⟩
  ·obtain ⟨d,h1,h2⟩:=qbf h
   exact ⟨d,List.mem_cons_of_mem _ h1,h2⟩
theorem qd7 {m:Nat}:∀ {ts:List TypeId} {l:List (DataW H)},m∈DataW.weightsEach P ts l→∃ t∈ts,∃ d∈l,m∈d.weights P t
 | [],l,h=>by simp [DataW.weightsEach] at h
 | t::ts,[],h=>by simp [DataW.weightsEach] at h
 | t::ts,x::l,h=>by
  simp only [DataW.weightsEach,List.mem_append] at h
  rcases h with h | h
  ·exact ⟨t,List.mem_cons_self ..,x,List.mem_cons_self ..,h⟩
  ·obtain ⟨t',h1,d,h2,h3⟩:=qd7 h
   exact ⟨t',List.mem_cons_of_mem _ h1,d,List.mem_cons_of_mem _ h2,h3⟩
theorem qa_ {ub:DataW H→Nat} (hu:qCs ub) {C:Nat} (hC:1≤C):∀ (n:Nat) (t:TypeId) (d:DataW H),okB P C n t=true→∀ m∈d.weights P t,m≤ub d * C
 | 0,t,d,h,m,hm=>by simp [okB] at h
 | n + 1,t,d,h,m,hm=>by
  have up:∀ {d':DataW H},ub d'≤ub d→m≤ub d' * C→m≤ub d * C:=fun h1 h2=>Nat.le_trans h2 (Nat.mul_le_mul_right _ h1)
  unfold okB at h
  cases d with
  | lit l=>
   cases l with
   | string s=>
    simp only [DataW.weights,List.mem_singleton] at hm
    subst hm
    exact Nat.le_trans (hu.str s) (Nat.le_mul_of_pos_right _ hC)
   | _=>simp [DataW.weights] at hm
  | nil=>simp [DataW.weights] at hm
  | ptr d=>
   simp only [DataW.weights] at hm
   split at hm
   ·rename_i e he
    rw [he] at h
    exact up (hu.ptr d) (qa_ hu hC n e d h m hm)
   ·simp at hm
  | slice a b=>
   simp only [DataW.weights] at hm
   split at hm
   ·rename_i e he
    rw [he] at h
    simp only [Bool.and_eq_true] at h
    rcases List.mem_cons.1 hm with rfl | hm
    ·exact Nat.mul_le_mul (hu.sl a b).1 (Nat.le_of_ble_eq_true h.1)
    ·rcases List.mem_append.1 hm with hm | hm
     ·obtain ⟨x,h1,h2⟩:=qbf hm
      exact up ((hu.sl a b).2 x (List.mem_append_left _ h1)) (qa_ hu hC n e x h.2 m h2)
     ·obtain ⟨x,h1,h2⟩:=qbf hm
      exact up ((hu.sl a b).2 x (List.mem_append_right _ h1)) (qa_ hu hC n e x h.2 m h2)
   ·simp at hm
  | agg l=>
   simp only [DataW.weights] at hm
   split at hm
   ·rename_i fs he
    rw [he] at h
    obtain ⟨t',h1,x,h2,h3⟩:=qd7 hm
    obtain ⟨f,hf,rfl⟩:=List.mem_map.1 h1
    exact up (hu.ag l x h2) (qa_ hu hC n f.type x (List.all_eq_true.1 h f hf) m h3)
   ·rename_i k e he
    rw [he] at h
    obtain ⟨x,h1,h2⟩:=qbf hm
    exact up (hu.ag l x h1) (qa_ hu hC n e x h m h2)
   ·simp at hm
  | iface a b=>simp [DataW.weights] at hm
  | map es=>
   simp only [DataW.weights] at hm
   split at hm
   ·rename_i k e he
    rw [he] at h
    simp at h
   ·simp at hm
  | held x=>simp [DataW.weights] at hm
theorem qA2 {ub:DataW H→Nat} (hu:qCs ub) {C n B:Nat} (hC:1≤C) {ts:List TypeId} {ds:List (DataW H)} (ht:ts.all (okB P C n)=true) (hd:∀ d∈ds,ub d≤B):(DataW.weightsEach P ts ds).all (·≤B * C)=true:=by
 refine List.all_eq_true.2 fun m hm=>?_
 obtain ⟨t,h1,d,h2,h3⟩:=qd7 hm
 exact decide_eq_true (Nat.le_trans (qa_ hu hC n t d (List.all_eq_true.1 ht t h1) m h3) (Nat.mul_le_mul_right _ (hd d h2)))
end Go.Rx
end
