/- A part of the proof of ManifestTells: the law returns true for every input, and its arguments read as before. No condition. -/
import Derived.Test.YthflaibfpmgkfaaGreatManifestTellsF
set_option linter.unusedSimpArgs false
set_option linter.unusedVariables false
set_option linter.unusedSectionVars false
set_option maxRecDepth 100000
noncomputable section
namespace Go.Rx
open Go.Proofs
def iniS:Vector UInt32 8:=#v[1779033703,3144134277,1013904242,2773480762,1359893119,2600822924,528734635,1541459225]
def tabK:Vector UInt32 64:=#v[1116352408,1899447441,3049323471,3921009573,961987163,1508970993,2453635748,2870763221,
  3624381080,310598401,607225278,1426881987,1925078388,2162078206,2614888103,3248222580,
  3835390401,4022224774,264347078,604807628,770255983,1249150122,1555081692,1996064986,
  2554220882,2821834349,2952996808,3210313671,3336571891,3584528711,113926993,338241895,
  666307205,773529912,1294757372,1396182291,1695183700,1986661051,2177026350,2456956037,
  2730485921,2820302411,3259730800,3345764771,3516065817,3600352804,4094571909,275423344,
  430227734,506948616,659060556,883997877,958139571,1322822218,1537002063,1747873779,
  1955562222,2024104815,2227730452,2361852424,2428436474,2756734187,3204031479,3329325298]
def padZ (L:Nat):Nat:=(119 - L % 64) % 64
theorem qbc (n:Int):inB (IntKind.u8.wrap n):=by
  unfold inB
  have:IntKind.u8.wrap n=n % 256:=by simp [IntKind.wrap,IntKind.bits,IntKind.signed]
  rw [this]; omega
theorem qt5 (a b:Nat):((a:Nat):Int).tmod ((b:Nat):Int)=((a % b:Nat):Int):=rfl
theorem qrF (a b:Nat):((a:Nat):Int).tdiv ((b:Nat):Int)=((a / b:Nat):Int):=rfl
theorem zS {n k:Nat} (h:k≤2000000000):avOK n n k 1:=⟨rfl,by unfold maxBytes; omega⟩
theorem qz8 {N:Nat} {o:Vector UInt8 32} {b:List UInt8} (hb:b.length≤1000000000) (hN:64 < N):qiY N o b (b++[128])=some (b++[128]++List.replicate (padZ b.length) 0,false):=by
  have hz:padZ b.length < 64:=Nat.mod_lt _ (by omega)
  have h56:(b.length + 1 + padZ b.length) % 64=56:=by unfold padZ; omega
  have hlen:∀ k,(b++[128]++List.replicate k (0:UInt8)).length=b.length + 1 + k:=fun k=>by simp; omega
  have hne:∀ k,k < padZ b.length→(b.length + 1 + k) % 64≠56:=fun k hk=>by unfold padZ at *; omega
  have e0:qiY N o b (b++[128])=loopG (qea N o b) some N (b++[128]++List.replicate 0 (0:UInt8)):=by rw [List.replicate_zero,List.append_nil]; rfl
  rw [e0]
  refine (qz (σ:=Unit) (B:=qea N o b) (g:=some) (at_:=fun k _=>b++[128]++List.replicate k (0:UInt8)) (I:=fun _ _=>True) (f:=fun _ s=>s) (n:=padZ b.length)
    (fin:=fun _=>(b++[128]++List.replicate (padZ b.length) 0,false)) (fun k s hk _=>⟨?_,trivial⟩) (fun s _=>?_) N 0 () trivial (Nat.zero_le _) (by omega))
  · unfold qea
    have c1:(64:Int)≠0:=by omega
    have e:decide ((((b++[128]++List.replicate k (0:UInt8)).length:Nat):Int).tmod 64=56)=false:=decide_eq_false (by
      rw [hlen]
      have:=hne k hk
      show ¬ (((b.length + 1 + k) % 64:Nat):Int)=56
      omega)
    have c2:avOK (b++[128]++List.replicate k (0:UInt8)).length (b++[128]++List.replicate k (0:UInt8)).length ((b++[128]++List.replicate k (0:UInt8))++[UInt8.ofNat 0]).length 1:=zS (by rw [List.length_append,hlen]; simp; omega)
    rw [qg,qa c1,qj,e,Bool.not_false,cond_true,qg,qa c2,ql]
    rw [List.replicate_succ',← List.append_assoc]
    rfl
  · unfold qea
    have c1:(64:Int)≠0:=by omega
    have e:decide ((((b++[128]++List.replicate (padZ b.length) (0:UInt8)).length:Nat):Int).tmod 64=56)=true:=decide_eq_true (by
      rw [hlen]
      show (((b.length + 1 + padZ b.length) % 64:Nat):Int)=56
      omega)
    rw [qg,qa c1,qj,e,Bool.not_true,cond_false,ql]
def lenB (L k:Nat):UInt8:=UInt8.ofNat (IntKind.u8.wrap (uShr (uMul .u64 (IntKind.u64.wrap ((L:Nat):Int)) 8) (min ((8:Int) * ((7:Int) - (k:Int))).toNat 64))).toNat
def lenF (L k:Nat) (l:List UInt8):List UInt8:=l++[lenB L k]
theorem qqZ {L:Nat}:∀ (m k:Nat) (l:List UInt8),(qy (lenF L) m k l).length=l.length + m
  | 0,_,_=>rfl
  | m + 1,k,l=>by
    show (qy (lenF L) m (k + 1) (lenF L k l)).length=_
    rw [qqZ m]; unfold lenF; rw [List.length_append]; simp; omega
theorem qzG {N:Nat} {o:Vector UInt8 32} {b l:List UInt8} (hl:l.length≤1500000000) (hN:64 < N):qmK N o b l 0=some (qy (lenF b.length) 8 0 l,(8:Int),false):=by
  refine (qz (σ:=List UInt8) (B:=qgM N o b) (g:=some) (at_:=fun k s=>(s,(k:Int))) (I:=fun k s=>s.length=l.length + k) (f:=lenF b.length) (n:=8)
    (fin:=fun s=>(s,(8:Int),false)) (fun k s hk hs=>⟨?_,?_⟩) (fun s _=>?_) N 0 l rfl (Nat.zero_le _) (by omega))
  · have d1:decide ((k:Int) < 8)=true:=decide_eq_true (by omega)
    have c1:in64 ((7:Int) - (k:Int)):=by unfold in64; omega
    have c2:in64 ((8:Int) * ((7:Int) - (k:Int))):=by unfold in64; omega
    have c3:(0:Int)≤(8:Int) * ((7:Int) - (k:Int)):=by omega
    have c4:in64 ((k:Int) + 1):=by unfold in64; omega
    have c5:avOK s.length s.length (s++[lenB b.length k]).length 1:=zS (by rw [List.length_append,hs]; simp; omega)
    unfold qgM
    rw [qj,d1,cond_true]
    simp only [qg,ql]
    rw [qa c1,qa c2,qa c3,qa (qbc _)]
    show chk (avOK s.length s.length (s++[lenB b.length k]).length 1) _=_
    rw [qa c5,qa c4,int_succ]
    rfl
  · unfold lenF; rw [List.length_append,hs]; simp; omega
  · unfold qgM
    rfl
def chF (K:Vector UInt32 64):Nat→Vector UInt32 8→List UInt8→Vector UInt32 8
  | 0,s,_=>s
  | m + 1,s,l=>chF K m (qmP s K (l.take 64)) (l.drop 64)
theorem qy8 {N : Nat} {o : List UInt8} {o2 : Vector UInt8 32} {o3 : Vector UInt32 8} {K : Vector UInt32 64} (hN : 64 < N) : ∀ (m n : Nat) (s : Vector UInt32 8) (l : List UInt8), l.length = 64 * m → m < n →
    loopG (qcv N o o2 o3 K) some n (s,l)=some (.inr (chF K m s l,[],false))
  | 0,n + 1,s,l,hl,_=>by
    have:l=[]:=List.length_eq_zero_iff.1 (by omega)
    subst this
    exact qX (by unfold qcv; rfl) n
  | m + 1,n + 1,s,l,hl,hn=>by
    have d1:decide ((0:Int) < ((l.length:Nat):Int))=true:=decide_eq_true (by omega)
    have c1:(0:Int)≤0∧(0:Int)≤64∧(64:Int)≤((l.length:Nat):Int):=by omega
    have c2:(0:Int)≤64∧(64:Int)≤((l.length:Nat):Int):=by omega
    have ht:((l.take 64).drop 0).length=64:=by rw [List.drop_zero,List.length_take]; omega
    rw [Z1 (v':=(qmP s K (l.take 64),l.drop 64)) (by
      unfold qcv
      rw [qj,d1,cond_true,qg,qa c1,run_bind,qve hN ht,Option.bind_some,qg,qa c2,ql,List.drop_zero]) n]
    exact qy8 hN m n _ _ (by rw [List.length_drop]; omega) (by omega)
  | _,0,_,_,_,hn=>by omega
theorem qwI {N m : Nat} {all : List UInt8} {o2 : Vector UInt8 32} {s : Vector UInt32 8} {K : Vector UInt32 64} (hN : 64 < N) (hm : m + 1 < N) (hl : all.length = 64 * (m + 1)) :
    qe3 N all o2 s K=some (.inr (chF K (m + 1) s all,[],false)):=by
  have d1:decide ((0:Int) < ((all.length:Nat):Int))=true:=decide_eq_true (by omega)
  have c1:(0:Int)≤0∧(0:Int)≤64∧(64:Int)≤((all.length:Nat):Int):=by omega
  have c2:(0:Int)≤64∧(64:Int)≤((all.length:Nat):Int):=by omega
  have ht:((all.take 64).drop 0).length=64:=by rw [List.drop_zero,List.length_take]; omega
  have hrun:(qfw N all o2 s K ()).run some=some (.inr (.inl (qmP s K (all.take 64),all.drop 64))):=by
    unfold qfw
    rw [qj,d1,cond_true,qg,qa c1,qg,qa rfl,run_bind,qve hN ht,Option.bind_some,qg,qa c2,qg,qa rfl,ql,List.drop_zero]
  obtain ⟨N',rfl⟩:∃ N',N=N' + 1:=⟨N - 1,by omega⟩
  have e:qe3 (N' + 1) all o2 s K=loopG (qfw (N' + 1) all o2 s K) (qiv (N' + 1) (N' + 1) (all,o2,s,K)) (N' + 1) ():=rfl
  rw [e,qX hrun]
  exact qy8 (o:=all) (o2:=o2) (o3:=s) hN m (N' + 1) _ _ (by rw [List.length_drop]; omega) (by omega)
def outB (s:Vector UInt32 8) (k:Nat):UInt8:=UInt8.ofNat (IntKind.u8.wrap (c32 (wAt s (k / 4) >>> UInt32.ofNat (24 - 8 * (k % 4))))).toNat
def outF (s:Vector UInt32 8) (k:Nat) (o:Vector UInt8 32):Vector UInt8 32:=o.setIfInBounds k (outB s k)
def outS (s:Vector UInt32 8):Vector UInt8 32:=qy (outF s) 32 0 (Vector.replicate 32 0)
theorem qz3 {N:Nat} {o:Vector UInt8 32} {s:Vector UInt32 8} (hN:64 < N):qhJ N o s (Vector.replicate 32 0) 0=some (outS s,(32:Int),false):=by
  refine (qz (σ:=Vector UInt8 32) (B:=qfm N o s) (g:=some) (at_:=fun k s=>(s,(k:Int))) (I:=fun _ _=>True) (f:=outF s) (n:=32)
    (fin:=fun s=>(s,(32:Int),false)) (fun k x hk _=>⟨?_,trivial⟩) (fun x _=>?_) N 0 (Vector.replicate 32 0) trivial (Nat.zero_le _) (by omega))
  · have d1:decide ((k:Int) < 32)=true:=decide_eq_true (by omega)
    have e1:(k:Int).tdiv 4=((k / 4:Nat):Int):=qrF k 4
    have e2:(k:Int).tmod 4=((k % 4:Nat):Int):=qt5 k 4
    have h4:(4:Int)≠0:=by omega
    have c1:in64 (((k / 4:Nat)):Int):=by unfold in64; omega
    have c2:(0:Int)≤((k / 4:Nat):Int)∧((k / 4:Nat):Int) < ((8:Nat):Int):=by omega
    have c3:k / 4 < 8:=by omega
    have c4:in64 ((8:Int) * ((k % 4:Nat):Int)):=by unfold in64; omega
    have e3:(24:Int) - (8:Int) * ((k % 4:Nat):Int)=((24 - 8 * (k % 4):Nat):Int):=by omega
    have c5:in64 ((24 - 8 * (k % 4):Nat):Int):=by unfold in64; omega
    have c6:(0:Int)≤((24 - 8 * (k % 4):Nat):Int):=by omega
    have c7:(0:Int)≤(k:Int)∧(k:Int) < ((32:Nat):Int):=by omega
    have c8:in64 ((k:Int) + 1):=by unfold in64; omega
    unfold qfm outF outB
    rw [qj,d1,cond_true]
    simp only [qg,ql]
    rw [e1,e2,e3,qa h4,qa c1,qa c2,Int.toNat_natCast,qa c3,qa h4,qa c4,qa c5,qa c6,qa c7,qa (qbc _),Int.toNat_natCast,qa hk,qa c8,Int.toNat_natCast,Nat.min_eq_left (show 24 - 8 * (k % 4)≤32 by omega)]
    rw [int_succ]
    show some (Sum.inl (x.setIfInBounds k (UInt8.ofNat (IntKind.u8.wrap (uShr (c32 (wAt s (k / 4))) (24 - 8 * (k % 4)))).toNat),_))=_
    rw [qni _ _ (by omega)]
  · unfold qfm
    rfl
def msgS (b:List UInt8):List UInt8:=qy (lenF b.length) 8 0 (b++[128]++List.replicate (padZ b.length) 0)
def sumS (b:List UInt8):Vector UInt8 32:=outS (chF tabK ((msgS b).length / 64) iniS (msgS b))
theorem qvq (b:List UInt8):∃ m,(msgS b).length=64 * (m + 1)∧m≤b.length:=by
  have h:(msgS b).length=b.length + 1 + padZ b.length + 8:=by unfold msgS; rw [qqZ]; simp; omega
  rw [h]
  refine ⟨(b.length + 1 + padZ b.length + 8) / 64 - 1,?_,?_⟩
  · unfold padZ; omega
  · unfold padZ; omega
theorem qxa {l:List UInt8} (h:l.length≤1000000000):qbY l=some ():=by
  unfold qbY
  cases l with
  | nil=>kernel_rfl
  | cons x r=>
    show qhM (x::r)=_
    unfold qhM qip
    have h2:avOK ([]:List UInt8).length 0 ([]++x::r).length 1:=⟨rfl,by rw [List.nil_append]; unfold maxBytes; omega⟩
    rw [qg,qa (List.isEmpty_cons),qg,qa h2,ql]
theorem qdI {Z:Type} {a:Nat} {o:Option Z}:chkLs [(a,a)] o=o:=(qS rfl).trans (qok o)
theorem qxu:qos=some ():=by kernel_rfl
theorem qxK:qox=some ():=by kernel_rfl
theorem qup {N:Nat} {b:List UInt8} (hb:b.length≤1000000000) (hN:b.length + 100 < N):qb_ N b=some (sumS b):=by
  obtain ⟨m,hm,hmb⟩:=qvq b
  have c1:avOK (([]:List UInt8)++b).length (([]:List UInt8)++b).length ((([]:List UInt8)++b)++[UInt8.ofNat 128]).length 1:=zS (by rw [List.nil_append,List.length_append]; simp; omega)
  have hpad:=qz8 (N:=N) (o:=Vector.replicate 32 0) hb (by omega)
  have hlen:=qzG (N:=N) (o:=Vector.replicate 32 0) (b:=b) (l:=b++[128]++List.replicate (padZ b.length) 0) (by have:padZ b.length < 64:=Nat.mod_lt _ (by omega); simp; omega) (by omega)
  have hch:∀ (s:Vector UInt32 8) (K:Vector UInt32 64),qe3 N (qy (lenF b.length) 8 0 (b++[128]++List.replicate (padZ b.length) 0)) (Vector.replicate 32 0) s K=some (.inr (chF K (m + 1) s (msgS b),[],false)):=fun s K=>qwI (by omega) (by omega) hm
  have hd:(msgS b).length / 64=m + 1:=by rw [hm]; omega
  have e1:(([]:List UInt8)++b)++[UInt8.ofNat 128]=b++[128]:=rfl
  unfold qb_ qoY sumS
  rw [run_bind,qxa hb,Option.bind_some,qg,qa c1,run_bind,e1,qdI,hpad,Option.bind_some]
  dsimp only
  rw [run_bind,qdI,hlen,Option.bind_some]
  dsimp only
  rw [run_bind,qxu,Option.bind_some,run_bind,qxK,Option.bind_some,run_bind,qdI,hch,Option.bind_some,qmV,run_bind,qz3 (by omega),Option.bind_some,ql,hd]
  rfl
end Go.Rx
end
set_option maxRecDepth 100000
noncomputable section
namespace Go.Rx
open Go.Proofs
section n
variable {N:Nat} [BigN N]
theorem qws {n:Int} (h0:0≤n) (h1:n < 18446744073709551616):∃ r:Nat,qcW N n=some (r:Int)∧1≤r∧r≤10:=by
  have key:∃ y,qes N (uShr n 7) 1=some y∧1≤y.2.1∧y.2.1≤10:=by
    refine qd7 (B:=QJ N) (g:=some) (I:=fun v=>0≤v.1∧1≤v.2∧v.2≤10∧v.1 < (128:Int) ^ (10 - v.2.toNat)) (fun v=>11 - v.2.toNat) ?_ N _ ⟨?_,by omega,by omega,?_⟩ (by have:=big N; simp; omega)
    · rintro ⟨a,k⟩ ⟨g0,g1,g2,g3⟩
      simp only at g0 g1 g2 g3
      by_cases h:0 < a
      · left
        have hk:k≤9:=by
          by_cases e:k=10
          · subst e
            have:(128:Int) ^ (10 - (10:Int).toNat)=1:=rfl
            omega
          · omega
        have c1:in64 (k + 1):=by unfold in64; omega
        have c2:(0:Int)≤7:=by omega
        refine ⟨(uShr a 7,k + 1),?_,⟨?_,?_,?_,?_⟩,?_⟩
        · unfold QJ
          rw [qj,decide_eq_true h,cond_true,qg,qa c1,qg,qa c2,ql]
        · show 0≤a.fdiv (2 ^ 7)
          rw [Int.fdiv_eq_ediv_of_nonneg _ (by omega)]; omega
        · simp only; omega
        · simp only; omega
        · show a.fdiv (2 ^ 7) < (128:Int) ^ (10 - (k + 1).toNat)
          rw [Int.fdiv_eq_ediv_of_nonneg _ (by omega)]
          have e:10 - k.toNat=(10 - (k + 1).toNat) + 1:=by omega
          rw [e,Int.pow_succ] at g3
          have:(2:Int) ^ 7=128:=rfl
          omega
        · simp only; omega
      · right
        refine ⟨(a,k,false),_,?_,rfl,g1,g2⟩
        unfold QJ
        rw [qj,decide_eq_false h,cond_false,ql]
    · show 0≤n.fdiv (2 ^ 7)
      rw [Int.fdiv_eq_ediv_of_nonneg _ (by omega)]; omega
    · show n.fdiv (2 ^ 7) < (128:Int) ^ (10 - (1:Int).toNat)
      rw [Int.fdiv_eq_ediv_of_nonneg _ (by omega)]
      have:(128:Int) ^ (10 - (1:Int).toNat)=9223372036854775808:=rfl
      rw [this]; omega
  obtain ⟨y,e,h2,h3⟩:=key
  refine ⟨y.2.1.toNat,?_,by omega,by omega⟩
  unfold qcW qfr
  rw [qg,qa (by omega),run_bind,e,Option.bind_some,ql,Int.toNat_of_nonneg (by omega)]
theorem qsZ (a b:Int):inB (uOr .u8 a b):=qbc _
theorem qs5 (a b:Int):inB (uAndNot .u8 a b):=qbc _
theorem qAe {n:Int} {r:Nat} (hr:r≤10):∀ l:List UInt8,l.length=r→∃ y,qcX N n (r:Int) r (r:Int) l 0=some y∧y.1.length=r:=fun l hl=>by
  refine qd7 (B:=qaB N n (r:Int) r (r:Int)) (g:=some) (I:=fun v=>v.1.length=r∧∃ k:Nat,k≤r∧v.2=(k:Int)) (fun v=>r - v.2.toNat) ?_ N _ ⟨hl,0,Nat.zero_le _,rfl⟩ (by have:=big N; simp; omega)
  rintro ⟨l,v⟩ ⟨hl,k,hk,hv⟩
  simp only at hl hv
  subst hv
  by_cases h:k < r
  · left
    have c1:in64 ((r:Int) - 1):=by unfold in64; omega
    have c2:in64 ((r:Int) - 1 - (k:Int)):=by unfold in64; omega
    have c3:in64 ((7:Int) * (k:Int)):=by unfold in64; omega
    have c4:(0:Int)≤(7:Int) * (k:Int):=by omega
    have c5:(0:Int)≤(r:Int) - 1 - (k:Int)∧(r:Int) - 1 - (k:Int) < ((r:Nat):Int):=by omega
    have c6:vecOK l.length r ((r:Int) - 1 - (k:Int)).toNat:=⟨hl,by omega⟩
    have c7:in64 ((k:Int) + 1):=by unfold in64; omega
    refine ⟨(l.set ((r:Int) - 1 - (k:Int)).toNat (UInt8.ofNat (uOr .u8 (IntKind.u8.wrap (uShr n (min ((7:Int) * (k:Int)).toNat 64))) 128).toNat),((k + 1:Nat):Int)),?_,⟨?_,k + 1,h,rfl⟩,?_⟩
    · unfold qaB
      rw [qj,dec_lt h,cond_true,qg,qa c1,qg,qa c2,qg,qa c3,qg,qa c4]
      show chk _ (chk _ (chk _ (chk _ _)))=_
      rw [qa c5,qa c6,qa (qsZ _ _),qa c7,int_succ]
      rfl
    · simp only [List.length_set]; exact hl
    · simp only [Int.toNat_natCast]; omega
  · right
    obtain rfl:k=r:=by omega
    refine ⟨(l,((k:Nat):Int),false),_,?_,rfl,hl⟩
    unfold qaB
    rw [qj,dec_nlt (Nat.lt_irrefl k),cond_false,ql]
theorem qzP {α:Type} {l:List α} {n k:Nat} (hn:l.length=n) (hk:k < n):∃ x,getV l n k=some x:=by
  unfold getV; rw [if_pos hn,List.getElem?_eq_getElem (by omega)]; exact ⟨_,rfl⟩
theorem qlC {n:Int} (h0:0≤n) (h1:n < 18446744073709551616):∃ l:List UInt8,qO N n=some (l,l.length)∧l.length≤10:=by
  obtain ⟨r,e1,h2,h3⟩:=qws (N:=N) h0 h1
  obtain ⟨y,e2,hy⟩:=qAe (N:=N) (n:=n) h3 (List.replicate r 0) (by simp)
  have hrl:(List.replicate ((r:Nat):Int).toNat (0:UInt8)).length=r:=by simp
  have c1:mkOK ((r:Nat):Int) ((r:Nat):Int) 1:=⟨rfl,by omega,by unfold maxBytes; omega⟩
  have c2:in64 (((r:Nat):Int) - 1):=by unfold in64; omega
  have c3:(0:Int)≤((r:Nat):Int) - 1∧((r:Nat):Int) - 1 < ((r:Nat):Int):=by omega
  obtain ⟨x,hx⟩:=qzP (l:=y.1) (n:=r) (k:=(((r:Nat):Int) - 1).toNat) hy (by omega)
  have c4:vecOK y.1.length r (((r:Nat):Int) - 1).toNat:=⟨hy,by omega⟩
  unfold qO qi0
  rw [run_bind,e1,Option.bind_some,qg,qa c1,run_bind]
  rw [show qcX N n ((r:Nat):Int) (List.replicate ((r:Nat):Int).toNat (0:UInt8)).length ((r:Nat):Int) (List.replicate ((r:Nat):Int).toNat (0:UInt8)) 0=some y by rw [hrl]; exact e2,Option.bind_some,qg,qa c2,hrl,qg,qa c3,run_bind,hx,Option.bind_some]
  have hs:(y.1.set (((r:Nat):Int) - 1).toNat (UInt8.ofNat (uAndNot .u8 ((x.toNat:Nat):Int) 128).toNat)).length=r:=by rw [List.length_set]; exact hy
  refine ⟨y.1.set (((r:Nat):Int) - 1).toNat (UInt8.ofNat (uAndNot .u8 ((x.toNat:Nat):Int) 128).toNat),?_,by rw [hs]; exact h3⟩
  show chk _ (chk _ (chk _ _))=_
  rw [qa c3,qa c4,qa (qs5 _ _),hs]
  rfl
theorem qL (n:Int):0≤IntKind.u64.wrap n∧IntKind.u64.wrap n < 18446744073709551616:=by
  have:IntKind.u64.wrap n=n % 18446744073709551616:=by simp [IntKind.wrap,IntKind.bits,IntKind.signed]
  rw [this]; omega
theorem qzf {l:List UInt8} (h:l.length≤1000000):∃ r:List UInt8,qd3 N l=some r∧r.length≤l.length + 10:=by
  obtain ⟨p,e,hp⟩:=qlC (N:=N) (qL ((l.length:Nat):Int)).1 (qL ((l.length:Nat):Int)).2
  refine ⟨p++l,?_,by rw [List.length_append]; omega⟩
  unfold qd3 qhO
  show Option.bind (qO N (IntKind.u64.wrap ((l.length:Nat):Int))) _=_
  have hpl:(p++l).length≤2000000000:=by rw [List.length_append]; omega
  rw [e,Option.bind_some,qg,qa (zS hpl),qg,qa rfl,ql]
theorem qx6 (s:qc):∃ r:List UInt8×Bool,qce N s=some r∧r.1.length≤10:=by
  unfold qce qhN
  rw [run_bind,qdY,Option.bind_some]
  cases stB s with
  | false=>exact ⟨([],false),rfl,Nat.zero_le _⟩
  | true=>
    obtain ⟨p,e,hp⟩:=qlC (N:=N) (n:=uOr .u64 (uShl .u64 (IntKind.u64.wrap (qc.N s)) 3) (IntKind.u64.wrap (qc.Rep s))) (qL _).1 (qL _).2
    refine ⟨(p,true),?_,hp⟩
    rw [qj,Bool.not_true,cond_false,qg,qa (by omega)]
    show Option.bind (qO N (uOr .u64 (uShl .u64 (IntKind.u64.wrap (qc.N s)) 3) (IntKind.u64.wrap (qc.Rep s)))) _=_
    rw [e,Option.bind_some,qg,qa rfl,ql]
theorem qwu (s:qc):qaT N s=some (.inl ())∨∃ p:List UInt8,qaT N s=some (.inr (p,p.length))∧p.length≤10:=by
  unfold qaT qfn
  rw [run_bind,qdY,Option.bind_some]
  cases stB s with
  | false=>exact .inl rfl
  | true=>
    right
    obtain ⟨p,e,hp⟩:=qlC (N:=N) (n:=uOr .u64 (uShl .u64 (IntKind.u64.wrap (qc.N s)) 3) (IntKind.u64.wrap (qc.Rep s))) (qL _).1 (qL _).2
    refine ⟨p,?_,hp⟩
    rw [qj,Bool.not_true,cond_false,qg,qa (by omega)]
    show Option.bind (qO N (uOr .u64 (uShl .u64 (IntKind.u64.wrap (qc.N s)) 3) (IntKind.u64.wrap (qc.Rep s)))) _=_
    rw [e,Option.bind_some,ql]
def Zh (c:qr):Bool:=!decide (c.S=zSt)&&(stB c.S&&decide (c.V.length≤200))
theorem qsH (c:qr):qd9 c=some (Zh c):=by
  unfold qd9 qm0 Zh
  have e:eqE qo c.S (qc.mk 0 0)=decide (c.S=zSt):=eqSt _ _
  have e2:decide (((c.V.length:Nat):Int)≤200)=decide (c.V.length≤200):=decide_eq_decide.2 (by omega)
  rw [qj,e,run_bind,qdY,Option.bind_some,qj,ql,e2,ql]
  cases decide (c.S=zSt)<;>cases stB c.S<;>rfl
theorem qzx {c:qr} (h:Zh c=true):∃ r:List UInt8×Bool,qdx N c=some r∧r.1.length≤220:=by
  have hV:c.V.length≤200:=by
    unfold Zh at h
    simp only [Bool.and_eq_true,decide_eq_true_iff] at h
    exact h.2.2
  obtain ⟨t,et,ht⟩:=qzf (N:=N) (l:=c.V) (by omega)
  unfold qdx qiW
  rw [run_bind,qsH,h,Option.bind_some,qj,Bool.not_true,cond_false,run_bind]
  rcases qwu (N:=N) c.S with e | ⟨p,e,hp⟩
  · refine ⟨(t,true),?_,by simp only; omega⟩
    have c1:avOK ([]:List UInt8).length 0 ([]++t).length 1:=⟨rfl,by rw [List.nil_append]; unfold maxBytes; omega⟩
    rw [e,Option.bind_some,qrx,run_bind,et,Option.bind_some,qg,qa c1,qg,qa rfl,ql]
    rfl
  · refine ⟨(p++t,true),?_,by simp only [List.length_append]; omega⟩
    have hpl:(p++t).length≤2000000000:=by rw [List.length_append]; omega
    rw [e,Option.bind_some,qmV,run_bind,et,Option.bind_some,qg,qa (zS hpl),qg,qa rfl,ql]
end n
end Go.Rx
end
set_option maxRecDepth 100000
noncomputable section
namespace Go.Rx
open Go.Proofs
abbrev zF:qk:=qk.mk 0 (qr.mk zSt [])
abbrev zR:qf:=qf.mk (Vector.replicate 16 0) zSt []
def fldQ (l:List qk) (dead:qc) (k:Nat):Bool:=
  (if k=0 then decide (0≤(l.getD k zF).No) else decide ((l.getD (k - 1) zF).No < (l.getD k zF).No))&&(!decide (8≤(l.getD k zF).No)&&(Zh (l.getD k zF).C&&slB dead (l.getD k zF).C.S))
def recB (r:qf):Bool:=stB r.Dead&&(!(decide (r.F.length=0)&&decide (r.Dead=zSt))&&allN (fldQ r.F r.Dead) r.F.length)
def recQ (l:List qf) (k:Nat):Bool:=recB (l.getD k zR)&&(decide (k=0)||lbB (l.getD (k - 1) zR).ID (l.getD k zR).ID)
def qbv (b:qh):Bool:=allN (recQ b.R) b.R.length&&decide (b.R.length≤10)
section n
variable {N:Nat} [BigN N]
theorem qxh {f : qk} {dead : qc} {k : Nat} (h64 : in64 ((k : Int) + 1)) :
    (Tree.cond (decide (((8:Int))≤(qk.No f))) (.ret (.inr (.inl ())))
      (Tree.bind (qd9 (qk.C f)) fun r2=>Tree.cond (!r2) (.ret (.inr (.inl ())))
        (Tree.bind (qbH N dead (qr.S (qk.C f))) fun r3=>Tree.cond (!r3) (.ret (.inr (.inl ())))
          (Tree.chk (in64 ((k:Int) + 1)) (.ret (.inl ((k:Int) + 1):Int⊕(Unit⊕(Int×Bool)))))))).run some =
    some (if (!decide (8≤f.No)&&(Zh f.C&&slB dead f.C.S))=true then .inl ((k:Int) + 1) else .inr (.inl ())):=by
  rw [qj,ql,run_bind,qsH,Option.bind_some,qj,ql,run_bind,qs2,Option.bind_some,qj,ql,qg,qa h64,ql]
  cases decide (8≤f.No)<;>cases Zh f.C<;>cases slB dead f.C.S<;>rfl
theorem qzI {r : qf} (hN : r.F.length < N) (h62 : r.F.length ≤ 4611686018427387904) :
    qiZ N r r.F ((r.F.length:Nat):Int) 0=some (if allN (fldQ r.F r.Dead) r.F.length then .inr (((r.F.length:Nat):Int),false) else .inl ()):=by
  refine zm (B:=qhb N r r.F ((r.F.length:Nat):Int)) (g:=some) (q:=fldQ r.F r.Dead) (fun k hk=>?_) ?_ hN
  · have h64:in64 ((k:Int) + 1):=by unfold in64; omega
    have ht:=qxh (N:=N) (f:=r.F.getD k zF) (dead:=r.Dead) h64
    unfold qhb
    rw [qj,dec_lt hk,cond_true,run_bind,getI_D (d:=zF) hk,Option.bind_some,← int_succ]
    unfold fldQ
    by_cases h0:k=0
    · have d0:decide ((k:Int)=0)=true:=decide_eq_true (by omega)
      rw [qj,d0,cond_true,if_pos h0,qj]
      by_cases h1:(0:Int)≤(r.F.getD k zF).No
      · rw [decide_eq_true h1,cond_true,ht,Bool.true_and]
      · have d1:decide ((0:Int) < (k:Int))=false:=decide_eq_false (by omega)
        rw [decide_eq_false h1,cond_false,qj,d1,cond_false,ql]
        rfl
    · have d0:decide ((k:Int)=0)=false:=decide_eq_false (by omega)
      have d1:decide ((0:Int) < (k:Int))=true:=decide_eq_true (by omega)
      have hp:in64 ((k:Int) - 1):=by unfold in64; omega
      have hk1:k - 1 < r.F.length:=by omega
      rw [qj,d0,cond_false,if_neg h0,qj,d1,cond_true,qg,qa hp,run_bind,qhF (Nat.pos_of_ne_zero h0),getI_D (d:=zF) hk1,Option.bind_some,qj]
      by_cases h2:(r.F.getD (k - 1) zF).No < (r.F.getD k zF).No
      · rw [decide_eq_true h2,Bool.not_true,cond_false,ht,Bool.true_and]
      · rw [decide_eq_false h2,Bool.not_false,cond_true,ql]
        rfl
  · unfold qhb
    rw [qj,dec_nlt (Nat.lt_irrefl _),cond_false,ql]
theorem qzs {r:qf} (hN:r.F.length < N) (h62:r.F.length≤4611686018427387904):qpO N r=some (recB r):=by
  have e0:eqE qo r.Dead (qc.mk 0 0)=decide (r.Dead=zSt):=eqSt _ _
  have d0:decide (((r.F.length:Nat):Int)=0)=decide (r.F.length=0):=decide_eq_decide.2 (by omega)
  unfold qpO qo9 recB
  rw [run_bind,qdY,Option.bind_some,qj,ql,qj,d0,qj,e0,ql,run_bind,qzI hN h62,Option.bind_some]
  cases stB r.Dead<;>cases decide (r.F.length=0)<;>cases decide (r.Dead=zSt)<;>cases allN (fldQ r.F r.Dead) r.F.length<;>rfl
theorem qzo {b : qh} (hN : b.R.length < N) (h62 : b.R.length ≤ 4611686018427387904) (hF : ∀ k, k < b.R.length → (b.R.getD k zR).F.length < N ∧ (b.R.getD k zR).F.length ≤ 4611686018427387904) :
    qkJ N b b.R ((b.R.length:Nat):Int) 0=some (if allN (recQ b.R) b.R.length then .inr (((b.R.length:Nat):Int),false) else .inl ()):=by
  refine zm (B:=qft N b b.R ((b.R.length:Nat):Int)) (g:=some) (q:=recQ b.R) (fun k hk=>?_) ?_ hN
  · have h64:in64 ((k:Int) + 1):=by unfold in64; omega
    unfold qft
    rw [qj,dec_lt hk,cond_true,run_bind,getI_D (d:=zR) hk,Option.bind_some,run_bind,qzs (hF k hk).1 (hF k hk).2,Option.bind_some,qj,ql,qj,qlt,qg,qg,qa h64,ql,int_succ]
    unfold recQ
    cases recB (b.R.getD k zR) with
    | false=>rfl
    | true=>
      by_cases h0:k=0
      · rw [decide_eq_true h0]; rfl
      · have hp:in64 ((k:Int) - 1):=by unfold in64; omega
        have hk1:k - 1 < b.R.length:=by omega
        rw [decide_eq_false h0,Bool.not_true,cond_false,Bool.not_false,cond_true,qa hp,run_bind,qhF (Nat.pos_of_ne_zero h0),getI_D (d:=zR) hk1,Option.bind_some,run_bind,qui,Option.bind_some,qj,ql,qg,qa (show in64 ((k + 1:Nat):Int) by rw [← int_succ]; exact h64),ql]
        cases lbB (b.R.getD (k - 1) zR).ID (b.R.getD k zR).ID<;>rfl
  · unfold qft
    rw [qj,dec_nlt (Nat.lt_irrefl _),cond_false,ql]
theorem qzJ {b:qh} (hN:b.R.length < N) (h62:b.R.length≤4611686018427387904) (hF:∀ k,k < b.R.length→(b.R.getD k zR).F.length < N∧(b.R.getD k zR).F.length≤4611686018427387904):qhG N b=some (qbv b):=by
  have e2:decide (((b.R.length:Nat):Int)≤10)=decide (b.R.length≤10):=decide_eq_decide.2 (by omega)
  unfold qhG qnn qbv
  rw [run_bind,qzo hN h62 hF,Option.bind_some]
  cases allN (recQ b.R) b.R.length with
  | false=>rfl
  | true=>show (Tree.run some (Tree.ret (decide (((b.R.length:Nat):Int)≤10))))=_; rw [ql,e2]; rfl
end n
theorem qfD {r:qf}:recB r=true↔stB r.Dead=true∧(r.F.length≠0∨r.Dead≠zSt)∧∀ k,k < r.F.length→fldQ r.F r.Dead k=true:=by
  unfold recB
  rw [Bool.and_eq_true,Bool.and_eq_true,ZD,Bool.not_eq_true',Bool.and_eq_false_iff,decide_eq_false_iff_not,decide_eq_false_iff_not]
theorem qfE {l:List qk} {dead:qc} {k:Nat}:fldQ l dead k=true↔(if k=0 then 0≤(l.getD k zF).No else (l.getD (k - 1) zF).No < (l.getD k zF).No)∧(l.getD k zF).No < 8∧Zh (l.getD k zF).C=true∧slB dead (l.getD k zF).C.S=true:=by
  unfold fldQ
  rw [Bool.and_eq_true,Bool.and_eq_true,Bool.and_eq_true,Bool.not_eq_true',decide_eq_false_iff_not,Int.not_le]
  refine and_congr ?_ Iff.rfl
  split<;>exact decide_eq_true_iff
theorem qwZ {r:qf} (h:recB r=true):∀ k,k < r.F.length→(k:Int)≤(r.F.getD k zF).No
  | 0,hk=>by
    have:=(qfE.1 ((qfD.1 h).2.2 0 hk)).1
    rw [if_pos rfl] at this; exact this
  | k + 1,hk=>by
    have:=(qfE.1 ((qfD.1 h).2.2 (k + 1) hk)).1
    rw [if_neg (by omega)] at this
    have ih:=qwZ h k (by omega)
    rw [show k + 1 - 1=k by omega] at this
    omega
theorem qhI {r:qf} (h:recB r=true):r.F.length≤8:=by
  by_cases e:r.F.length=0
  · omega
  · have h1:=qwZ h (r.F.length - 1) (by omega)
    have h2:=(qfE.1 ((qfD.1 h).2.2 (r.F.length - 1) (by omega))).2.1
    omega
theorem qhS {b:qh}:qbv b=true↔(∀ k,k < b.R.length→recB (b.R.getD k zR)=true∧(k=0∨lbB (b.R.getD (k - 1) zR).ID (b.R.getD k zR).ID=true))∧b.R.length≤10:=by
  unfold qbv
  rw [Bool.and_eq_true,decide_eq_true_iff,ZD]
  refine and_congr (forall_congr' fun k=>imp_congr_right fun _=>?_) Iff.rfl
  show (recB (b.R.getD k zR)&&(decide (k=0)||lbB (b.R.getD (k - 1) zR).ID (b.R.getD k zR).ID))=true↔_
  rw [Bool.and_eq_true,Bool.or_eq_true,decide_eq_true_iff]
theorem qqV {c:qr} (h:Zh c=true):c.V.length≤200:=by
  unfold Zh at h
  simp only [Bool.and_eq_true,decide_eq_true_iff] at h
  exact h.2.2
end Go.Rx
end
set_option maxRecDepth 100000
noncomputable section
namespace Go.Rx
open Go.Proofs
section n
variable {N:Nat} [BigN N]
theorem qyS {l : List qk} {R : List qf} {s23 s24 : Int} (h8 : l.length ≤ 8) (hc : ∀ k, k < l.length → Zh (l.getD k zF).C = true) {o : List UInt8} (ho : o.length ≤ 1000000) :
    ∃ p:List UInt8,qfu N R s23 s24 l ((l.length:Nat):Int) o o.length 0=some (p,p.length,((l.length:Nat):Int),false)∧p.length≤o.length + 221 * l.length:=by
  have key:∃ y,loopG (Zi N R s23 s24 l ((l.length:Nat):Int)) some N (o,o.length,((0:Nat):Int))=some y∧∃ p:List UInt8,y=(p,p.length,((l.length:Nat):Int),false)∧p.length≤o.length + 221 * l.length:=by
    refine qd7 (I:=fun v=>∃ (k:Nat) (p:List UInt8),k≤l.length∧v=(p,p.length,(k:Int))∧p.length≤o.length + 221 * k) (fun v=>l.length - v.2.2.toNat) ?_ N _ ⟨0,o,Nat.zero_le _,rfl,by omega⟩ (by have:=big N; simp; omega)
    rintro v ⟨k,p,hk,rfl,hp⟩
    by_cases h:k < l.length
    · left
      obtain ⟨r,er,hr⟩:=qzx (N:=N) (hc k h)
      have h64:in64 ((k:Int) + 1):=by unfold in64; omega
      have l1:(p++[UInt8.ofNat (IntKind.u8.wrap (qk.No (l.getD k zF))).toNat]).length=p.length + 1:=by rw [List.length_append]; rfl
      have l2:((p++[UInt8.ofNat (IntKind.u8.wrap (qk.No (l.getD k zF))).toNat])++r.1).length=p.length + 1 + r.1.length:=by rw [List.length_append,l1]
      refine ⟨((p++[UInt8.ofNat (IntKind.u8.wrap (qk.No (l.getD k zF))).toNat])++r.1,((p++[UInt8.ofNat (IntKind.u8.wrap (qk.No (l.getD k zF))).toNat])++r.1).length,((k + 1:Nat):Int)),?_,⟨k + 1,_,h,rfl,by rw [l2]; omega⟩,by simp only [Int.toNat_natCast]; omega⟩
      unfold Zi
      rw [qj,dec_lt h,cond_true,run_bind,getI_D (d:=zF) h,Option.bind_some,run_bind,er,Option.bind_some,qg,qa (qbc _),qg,qa (zS (by rw [l1]; omega)),qg,qa (zS (by rw [l2]; omega)),qg,qa h64,ql,int_succ]
    · right
      obtain rfl:k=l.length:=by omega
      refine ⟨(p,p.length,((l.length:Nat):Int),false),_,?_,rfl,p,rfl,hp⟩
      unfold Zi
      rw [qj,dec_nlt (Nat.lt_irrefl _),cond_false,ql]
  obtain ⟨y,e,p,rfl,hp⟩:=key
  exact ⟨p,e,hp⟩
theorem qzD {R : List qf} (h10 : R.length ≤ 10) (hr : ∀ k, k < R.length → recB (R.getD k zR) = true) {o : List UInt8} (ho : o.length ≤ 10) :
    ∃ p:List UInt8,qgJ N R ((R.length:Nat):Int) o o.length 0=some (p,p.length,((R.length:Nat):Int),false)∧p.length≤30000:=by
  have key:∃ y,loopG (ZC N R ((R.length:Nat):Int)) some N (o,o.length,((0:Nat):Int))=some y∧∃ p:List UInt8,y=(p,p.length,((R.length:Nat):Int),false)∧p.length≤30000:=by
    refine qd7 (I:=fun v=>∃ (k:Nat) (p:List UInt8),k≤R.length∧v=(p,p.length,(k:Int))∧p.length≤10 + 2000 * k) (fun v=>R.length - v.2.2.toNat) ?_ N _ ⟨0,o,Nat.zero_le _,rfl,by omega⟩ (by have:=big N; simp; omega)
    rintro v ⟨k,p,hk,rfl,hp⟩
    by_cases h:k < R.length
    · left
      have hrec:=hr k h
      have h8:=qhI hrec
      obtain ⟨s,es,hs⟩:=qx6 (N:=N) (R.getD k zR).Dead
      obtain ⟨w,ew,hw⟩:=qlC (N:=N) (qL (((R.getD k zR).F.length:Nat):Int)).1 (qL (((R.getD k zR).F.length:Nat):Int)).2
      have h64:in64 ((k:Int) + 1):=by unfold in64; omega
      have l1:(p++(R.getD k zR).ID.toList).length=p.length + 16:=by rw [List.length_append]; simp
      have l2:(p++(R.getD k zR).ID.toList++s.1).length=p.length + 16 + s.1.length:=by rw [List.length_append,l1]
      have l3:(p++(R.getD k zR).ID.toList++s.1++w).length=p.length + 16 + s.1.length + w.length:=by rw [List.length_append,l2]
      obtain ⟨q,eq,hq⟩:=qyS (N:=N) (l:=(R.getD k zR).F) (R:=R) (s23:=((R.length:Nat):Int)) (s24:=(k:Int)) h8 (fun j hj=>(qfE.1 ((qfD.1 hrec).2.2 j hj)).2.2.1) (o:=p++(R.getD k zR).ID.toList++s.1++w) (by rw [l3]; omega)
      refine ⟨(q,q.length,((k + 1:Nat):Int)),?_,⟨k + 1,q,h,rfl,by rw [l3] at hq; omega⟩,by simp only [Int.toNat_natCast]; omega⟩
      unfold ZC
      rw [qj,dec_lt h,cond_true,run_bind,getI_D (d:=zR) h,Option.bind_some,run_bind,es,Option.bind_some,qg,qa (zS (by rw [l1]; omega)),qg,qa (zS (by rw [l2]; omega))]
      show Option.bind (qO N (IntKind.u64.wrap (((R.getD k zR).F.length:Nat):Int))) _=_
      rw [ew,Option.bind_some,qg,qa rfl,qg,qa (zS (by rw [l3]; omega)),run_bind,eq,Option.bind_some,qg,qa h64,ql,int_succ]
    · right
      obtain rfl:k=R.length:=by omega
      refine ⟨(p,p.length,((R.length:Nat):Int),false),_,?_,rfl,p,rfl,by omega⟩
      unfold ZC
      rw [qj,dec_nlt (Nat.lt_irrefl _),cond_false,ql]
  obtain ⟨y,e,p,rfl,hp⟩:=key
  exact ⟨p,e,hp⟩
def qcG (N:Nat) (b:qh):Prop:=b.R.length < N∧b.R.length≤4611686018427387904∧∀ k,k < b.R.length→(b.R.getD k zR).F.length < N∧(b.R.getD k zR).F.length≤4611686018427387904
theorem qtL {b:qh} (h:qcG N b):qhG N b=some (qbv b):=qzJ h.1 h.2.1 h.2.2
theorem qzO {b:qh} (hf:qcG N b) (h:qbv b=true):∃ p:List UInt8,qfO N b=some (p,true)∧p.length≤30000:=by
  have hb:=qhS.1 h
  obtain ⟨w,ew,hw⟩:=qlC (N:=N) (qL ((b.R.length:Nat):Int)).1 (qL ((b.R.length:Nat):Int)).2
  obtain ⟨p,ep,hp⟩:=qzD (N:=N) hb.2 (fun k hk=>(hb.1 k hk).1) hw
  refine ⟨p,?_,hp⟩
  unfold qfO qhL
  rw [run_bind,qtL hf,h,Option.bind_some,qj,Bool.not_true,cond_false]
  show Option.bind (qO N (IntKind.u64.wrap ((b.R.length:Nat):Int))) _=_
  rw [ew,Option.bind_some,run_bind,ep,Option.bind_some,qg,qa rfl,ql]
theorem qAA {b:qh} (hf:qcG N b) (h:qbv b=true):∃ D:Vector UInt8 32,qaZ N b=some D:=by
  obtain ⟨p,e,hp⟩:=qzO hf h
  refine ⟨sumS p,?_⟩
  unfold qaZ qep
  have hs:qb_ N p=some (sumS p):=qup (by omega) (by have:=big N; omega)
  rw [run_bind,e,Option.bind_some,run_bind]
  show Option.bind (qb_ N p) _=_
  rw [hs,Option.bind_some,ql]
theorem qtQ {l:List UInt8} (h:l.length≤50000):qoP N l=some (sumS l):=by
  unfold qoP qra
  rw [qg,qa (show lenOK l.length by unfold lenOK; omega),run_bind,qup (by omega) (by have:=big N; omega),Option.bind_some,ql]
def qgX (l:List UInt8) (k:Nat) (s:Int×Int):Int×Int:=(uAdd .u16 s.1 (IntKind.u16.wrap (((l.getD k 0).toNat:Nat):Int)),uAdd .u16 s.2 (uAdd .u16 s.1 (IntKind.u16.wrap (((l.getD k 0).toNat:Nat):Int))))
def qtK (l:List UInt8):Int:=uOr .u32 (uShl .u32 (IntKind.u32.wrap (qy (qgX l) l.length 0 (0,0)).2) 16) (IntKind.u32.wrap (qy (qgX l) l.length 0 (0,0)).1)
theorem qze {l:List UInt8} (h:l.length≤50000):qnm N l=some (qtK l):=by
  have key:qkY N l ((l.length:Nat):Int) 0 0 0=some ((qy (qgX l) l.length 0 (0,0)).1,(qy (qgX l) l.length 0 (0,0)).2,((l.length:Nat):Int),false):=by
    refine (qz (σ:=Int×Int) (B:=qfA N l ((l.length:Nat):Int)) (g:=some) (at_:=fun k s=>(s.1,s.2,(k:Int))) (I:=fun _ _=>True) (f:=qgX l) (n:=l.length)
      (fin:=fun s=>(s.1,s.2,((l.length:Nat):Int),false)) (fun k s hk _=>⟨?_,trivial⟩) (fun s _=>?_) N 0 (0,0) trivial (Nat.zero_le _) (by have:=big N; omega))
    · have h64:in64 ((k:Int) + 1):=by unfold in64; omega
      unfold qfA
      rw [qj,dec_lt hk,cond_true,run_bind,getI_D (d:=0) hk,Option.bind_some]
      show chk (in64 ((k:Int) + 1)) _=_
      rw [qa h64,int_succ]
      rfl
    · unfold qfA
      rw [qj,dec_nlt (Nat.lt_irrefl _),cond_false,ql]
  unfold qnm qmU qoM qkW
  rw [run_bind,key,Option.bind_some,run_bind,qg,qa (by omega)]
  rfl
def qb5 (l:List UInt8):qp:=qp.mk (qtK l) (sumS l)
theorem qz6 {l:List UInt8} (h:l.length≤50000):qmS N l=some (qb5 l):=by
  unfold qmS qmI
  rw [run_bind,qze h,Option.bind_some,run_bind,qtQ h,Option.bind_some,ql]
  rfl
def sigL:Nat→List UInt8→List qp
  | 0,_=>[]
  | m + 1,l=>qb5 (l.take 8)::sigL m (l.drop 8)
theorem quq:∀ (m:Nat) (l:List UInt8),(sigL m l).length=m
  | 0,_=>rfl
  | m + 1,l=>by unfold sigL; rw [List.length_cons,quq m]
def sigS (l:List UInt8):List qp:=if l.length < 24 then [] else sigL (l.length / 8) l
theorem qwo:∀ (m n:Nat) (l:List UInt8) (acc:List qp),l.length / 8=m→l.length≤50000→acc.length + m≤50000→m < n→∃ r,loopG (qg2 N) some n (acc,l)=some (acc++sigL m l,r,false)
  | 0,n + 1,l,acc,hm,_,_,_=>by
    have d:decide ((8:Int)≤((l.length:Nat):Int))=false:=decide_eq_false (by omega)
    refine ⟨l,?_⟩
    rw [qX (x:=(acc,l,false)) (by unfold qg2; rw [qj,d,cond_false,ql]) n]
    show some (acc,l,false)=some (acc++[],l,false)
    rw [List.append_nil]
  | m + 1,n + 1,l,acc,hm,hl,ha,hn=>by
    have d:decide ((8:Int)≤((l.length:Nat):Int))=true:=decide_eq_true (by omega)
    have c1:(0:Int)≤0∧(0:Int)≤8∧(8:Int)≤((l.length:Nat):Int):=by omega
    have c2:(0:Int)≤8∧(8:Int)≤((l.length:Nat):Int):=by omega
    have ht:(l.take 8).length≤50000:=by rw [List.length_take]; omega
    have hacc:(acc++[qb5 (l.take 8)]).length=acc.length + 1:=by rw [List.length_append]; rfl
    have cav:avOK acc.length acc.length (acc++[qb5 (l.take 8)]).length 36:=⟨rfl,by rw [hacc]; unfold maxBytes; omega⟩
    obtain ⟨r,e⟩:=qwo m n (l.drop 8) (acc++[qb5 (l.take 8)]) (by rw [List.length_drop]; omega) (by rw [List.length_drop]; omega) (by rw [hacc]; omega) (by omega)
    refine ⟨r,?_⟩
    rw [Z1 (v':=(acc++[qb5 (l.take 8)],l.drop 8)) (by
      unfold qg2
      rw [qj,d,cond_true,qg,qa c1,run_bind,List.drop_zero,qz6 ht,Option.bind_some,qg,qa cav,qg,qa c2,ql]) n,e]
    show some (acc++[qb5 (l.take 8)]++sigL m (l.drop 8),r,false)=some (acc++sigL (m + 1) l,r,false)
    rw [List.append_assoc]
    rfl
  | _,0,_,_,_,_,_,hn=>by omega
theorem qwM {l:List UInt8} (h:l.length≤50000):qpM N l=some (sigS l):=by
  unfold qpM qol sigS
  by_cases h24:l.length < 24
  · have d:decide (((l.length:Nat):Int) < 24)=true:=decide_eq_true (by omega)
    rw [qj,d,cond_true,ql,if_pos h24]
  · have d:decide (((l.length:Nat):Int) < 24)=false:=decide_eq_false (by omega)
    obtain ⟨r,e⟩:=qwo (N:=N) (l.length / 8) N l [] rfl h (by simp; omega) (by have:=big N; omega)
    have e':chkLs [(([]:List qp).length,0)] (qmz N [] l)=some ([]++sigL (l.length / 8) l,r,false):=(qS rfl).trans e
    rw [qj,d,cond_false,if_neg h24,run_bind,e',Option.bind_some,qg,qa rfl,ql]
    rfl
def zr (f:qk):qe:=qe.mk f.No f.C.S ((f.C.V.length:Nat):Int) (sumS f.C.V) (sigS f.C.V)
def qC (r:qf):qd:=qd.mk r.ID r.Dead (r.F.map zr)
theorem qAj {l : List qk} (h8 : l.length ≤ 8) (hc : ∀ k, k < l.length → Zh (l.getD k zF).C = true) (o1 o2 : List qd) (o3 o4 : Vector UInt8 32) (o5 : Vector UInt8 16) (o6 : qc) (R : List qf) (s20 s21 : Int) :
    qet N o1 o2 o3 o4 o5 o6 R s20 s21 l ((l.length:Nat):Int) [] 0=some (l.map zr,((l.length:Nat):Int),false):=by
  have key:∃ y,loopG (qcm N o1 o2 o3 o4 o5 o6 R s20 s21 l ((l.length:Nat):Int)) some N ([],((0:Nat):Int))=some y∧y=(l.map zr,((l.length:Nat):Int),false):=by
    refine qd7 (I:=fun v=>∃ k:Nat,k≤l.length∧v=((l.take k).map zr,(k:Int))) (fun v=>l.length - v.2.toNat) ?_ N _ ⟨0,Nat.zero_le _,rfl⟩ (by have:=big N; simp; omega)
    rintro v ⟨k,hk,rfl⟩
    by_cases h:k < l.length
    · left
      have hV:(l.getD k zF).C.V.length≤50000:=by have:=qqV (hc k h); omega
      have h64:in64 ((k:Int) + 1):=by unfold in64; omega
      have el:(l.take (k + 1)).map zr=(l.take k).map zr++[zr (l.getD k zF)]:=by
        rw [List.take_succ_eq_append_getElem h,List.map_append,List.getD_eq_getElem?_getD,List.getElem?_eq_getElem h]; rfl
      have hlen:((l.take k).map zr++[zr (l.getD k zF)]).length≤8:=by rw [← el,List.length_map,List.length_take]; omega
      have cav:avOK ((l.take k).map zr).length ((l.take k).map zr).length ((l.take k).map zr++[zr (l.getD k zF)]).length 88:=⟨rfl,by unfold maxBytes; omega⟩
      refine ⟨((l.take (k + 1)).map zr,((k + 1:Nat):Int)),?_,⟨k + 1,h,rfl⟩,by simp only [Int.toNat_natCast]; omega⟩
      unfold qcm
      rw [qj,dec_lt h,cond_true,run_bind,getI_D (d:=zF) h,Option.bind_some,run_bind,qtQ hV,Option.bind_some,run_bind,qwM hV,Option.bind_some,qg,el]
      show chk (avOK ((l.take k).map zr).length ((l.take k).map zr).length ((l.take k).map zr++[zr (l.getD k zF)]).length 88) _=_
      rw [qa cav,qg,qa h64,ql,int_succ]
      rfl
    · right
      obtain rfl:k=l.length:=by omega
      refine ⟨(l.map zr,((l.length:Nat):Int),false),_,?_,rfl,rfl⟩
      unfold qcm
      rw [qj,dec_nlt (Nat.lt_irrefl _),cond_false,ql,List.take_of_length_le (Nat.le_refl _)]
  obtain ⟨y,e,rfl⟩:=key
  exact e
theorem qAs {R : List qf} (h10 : R.length ≤ 10) (hr : ∀ k, k < R.length → recB (R.getD k zR) = true) (o1 : List qd) (o3 o4 : Vector UInt8 32) (ho : o1 = []) :
    qeq N o1 o3 o4 R ((R.length:Nat):Int) [] 0=some (R.map qC,((R.length:Nat):Int),false):=by
  have key:∃ y,loopG (qcn N o1 o3 o4 R ((R.length:Nat):Int)) some N ([],((0:Nat):Int))=some y∧y=(R.map qC,((R.length:Nat):Int),false):=by
    refine qd7 (I:=fun v=>∃ k:Nat,k≤R.length∧v=((R.take k).map qC,(k:Int))) (fun v=>R.length - v.2.toNat) ?_ N _ ⟨0,Nat.zero_le _,rfl⟩ (by have:=big N; simp; omega)
    rintro v ⟨k,hk,rfl⟩
    by_cases h:k < R.length
    · left
      have hrec:=hr k h
      have h64:in64 ((k:Int) + 1):=by unfold in64; omega
      have el:(R.take (k + 1)).map qC=(R.take k).map qC++[qC (R.getD k zR)]:=by
        rw [List.take_succ_eq_append_getElem h,List.map_append,List.getD_eq_getElem?_getD,List.getElem?_eq_getElem h]; rfl
      have hlen:((R.take k).map qC++[qC (R.getD k zR)]).length≤10:=by rw [← el,List.length_map,List.length_take]; omega
      have cav:avOK ((R.take k).map qC).length ((R.take k).map qC).length ((R.take k).map qC++[qC (R.getD k zR)]).length 56:=⟨rfl,by unfold maxBytes; omega⟩
      have e9:=qAj (N:=N) (qhI hrec) (fun j hj=>(qfE.1 ((qfD.1 hrec).2.2 j hj)).2.2.1) o1 ((R.take k).map qC) o3 o4 (R.getD k zR).ID (R.getD k zR).Dead R ((R.length:Nat):Int) (k:Int)
      refine ⟨((R.take (k + 1)).map qC,((k + 1:Nat):Int)),?_,⟨k + 1,h,rfl⟩,by simp only [Int.toNat_natCast]; omega⟩
      unfold qcn
      rw [qj,dec_lt h,cond_true,run_bind,getI_D (d:=zR) h,Option.bind_some,run_bind]
      rw [show chkLs [(o1.length,o1.length),(((R.take k).map qC,(k:Int)).1.length,((R.take k).map qC,(k:Int)).1.length),(([]:List qe).length,0)] (qet N o1 ((R.take k).map qC,(k:Int)).1 o3 o4 (qf.ID (R.getD k zR)) (qf.Dead (R.getD k zR)) R ((R.length:Nat):Int) ((R.take k).map qC,(k:Int)).2 (qf.F (R.getD k zR)) (((qf.F (R.getD k zR)).length:Nat):Int) [] 0)=some ((R.getD k zR).F.map zr,(((R.getD k zR).F.length:Nat):Int),false) from (qS rfl).trans ((qS rfl).trans ((qS rfl).trans e9)),Option.bind_some,qg,qa rfl,qg,el]
      show chk (avOK ((R.take k).map qC).length ((R.take k).map qC).length ((R.take k).map qC++[qC (R.getD k zR)]).length 56) _=_
      rw [qa cav,qg,qa h64,ql,int_succ]
      rfl
    · right
      obtain rfl:k=R.length:=by omega
      refine ⟨(R.map qC,((R.length:Nat):Int),false),_,?_,rfl,rfl⟩
      unfold qcn
      rw [qj,dec_nlt (Nat.lt_irrefl _),cond_false,ql,List.take_of_length_le (Nat.le_refl _)]
  obtain ⟨y,e,rfl⟩:=key
  exact e
theorem qAi {b:qh} (hf:qcG N b) (h:qbv b=false):qbO N b=some (qb.mk (Vector.replicate 32 0) [],false):=by
  unfold qbO qfB
  rw [run_bind,qtL hf,h,Option.bind_some,qj,Bool.not_false,cond_true,qg,qa rfl,ql]
theorem qAb {b:qh} (hf:qcG N b) (h:qbv b=true) {D:Vector UInt8 32} (hD:qaZ N b=some D):qbO N b=some (qb.mk D (b.R.map qC),true):=by
  have hb:=qhS.1 h
  have e5:=qAs (N:=N) hb.2 (fun k hk=>(hb.1 k hk).1) [] (Vector.replicate 32 0) D rfl
  unfold qbO qfB
  rw [run_bind,qtL hf,h,Option.bind_some,qj,Bool.not_true,cond_false,run_bind,hD,Option.bind_some,run_bind]
  rw [show chkLs [(([]:List qd).length,0),(([]:List qd).length,0)] (qeq N [] (Vector.replicate 32 0) D (qh.R b) (((qh.R b).length:Nat):Int) [] 0)=some (b.R.map qC,((b.R.length:Nat):Int),false) from (qS rfl).trans ((qS rfl).trans e5),Option.bind_some,qg,qa rfl,ql]
end n
end Go.Rx
end
set_option maxRecDepth 100000
noncomputable section
namespace Go.Rx
open Go.Proofs
theorem zl (x:UInt32) (n:Nat) (h:n < 32) (h0:0 < n):qw (c32 x) ((n:Nat):Int)=some (c32 (rot x n)):=by
  have e:uSub .u32 (32:Int) ((n:Nat):Int)=((32 - n:Nat):Int):=by
    unfold uSub
    rw [show (32:Int) - ((n:Nat):Int)=((32 - n:Nat):Int) by omega,qaY,Nat.mod_eq_of_lt (by omega)]
  unfold qw qb4
  simp only [qg,ql,e]
  rw [qa (show (0:Int)≤((n:Nat):Int) by omega),qa (show (0:Int)≤((32 - n:Nat):Int) by omega),Int.toNat_natCast,Int.toNat_natCast,Nat.min_eq_left (show 32 - n≤32 by omega),Nat.min_eq_left (show n≤32 by omega),qpN x _ (by omega),qni x n h,or32]
  unfold rot
  rw [UInt32.or_comm]
theorem qvQ (x y:UInt32):uMul .u32 (c32 x) (c32 y)=c32 (x * y):=by
  unfold uMul
  show IntKind.u32.wrap (((x.toNat:Nat):Int) * ((y.toNat:Nat):Int))=_
  rw [← Int.natCast_mul,qaY,c32,UInt32.toNat_mul]
theorem qzz {a b c d:Nat} (hb:b < 256) (hc:c < 256) (hd:d < 256):(((a <<< 24) ||| (b <<< 16)) ||| (c <<< 8)) ||| d=16777216 * a + 65536 * b + 256 * c + d:=by
  rw [Nat.shiftLeft_eq,Nat.shiftLeft_eq,Nat.shiftLeft_eq]
  have e1:a * 2 ^ 24 ||| b * 2 ^ 16=2 ^ 24 * a + b * 2 ^ 16:=by rw [Nat.mul_comm a,← Nat.two_pow_add_eq_or_of_lt (by omega)]
  have e2:(2 ^ 24 * a + b * 2 ^ 16) ||| c * 2 ^ 8=2 ^ 16 * (256 * a + b) + c * 2 ^ 8:=by
    rw [show 2 ^ 24 * a + b * 2 ^ 16=2 ^ 16 * (256 * a + b) by omega,← Nat.two_pow_add_eq_or_of_lt (by omega)]
  have e3:(2 ^ 16 * (256 * a + b) + c * 2 ^ 8) ||| d=2 ^ 8 * (256 * (256 * a + b) + c) + d:=by
    rw [show 2 ^ 16 * (256 * a + b) + c * 2 ^ 8=2 ^ 8 * (256 * (256 * a + b) + c) by omega,← Nat.two_pow_add_eq_or_of_lt (by omega)]
  rw [e1,e2,e3]; omega
theorem qzT (a b c d : UInt8) : (a.toUInt32 <<< UInt32.ofNat 24) ||| (b.toUInt32 <<< UInt32.ofNat 16) ||| (c.toUInt32 <<< UInt32.ofNat 8) ||| d.toUInt32
    = 16777216 * a.toUInt32 + 65536 * b.toUInt32 + 256 * c.toUInt32 + d.toUInt32:=by
  have ha:=a.toNat_lt; have hb:=b.toNat_lt; have hc:=c.toNat_lt; have hd:=d.toNat_lt
  apply UInt32.toNat_inj.1
  simp only [UInt32.toNat_or,UInt32.toNat_add,UInt32.toNat_mul,UInt32.toNat_shiftLeft,UInt8.toNat_toUInt32]
  show (((a.toNat <<< 24 % 4294967296) ||| (b.toNat <<< 16 % 4294967296)) ||| (c.toNat <<< 8 % 4294967296)) ||| d.toNat=_
  have l1:a.toNat <<< 24 % 4294967296=a.toNat <<< 24:=by rw [Nat.shiftLeft_eq]; exact Nat.mod_eq_of_lt (by omega)
  have l2:b.toNat <<< 16 % 4294967296=b.toNat <<< 16:=by rw [Nat.shiftLeft_eq]; exact Nat.mod_eq_of_lt (by omega)
  have l3:c.toNat <<< 8 % 4294967296=c.toNat <<< 8:=by rw [Nat.shiftLeft_eq]; exact Nat.mod_eq_of_lt (by omega)
  rw [l1,l2,l3,qzz hb hc hd]
  show _=(((16777216 * a.toNat % 4294967296 + 65536 * b.toNat % 4294967296) % 4294967296 + 256 * c.toNat % 4294967296) % 4294967296 + d.toNat) % 4294967296
  omega
abbrev lAt (l:List UInt32) (k:Nat):UInt32:=l.getD k 0
def schW (b:List UInt8) (k:Nat) (w:List UInt32):UInt32:=
  if k < 16 then (bAt b (4 * k) <<< UInt32.ofNat 24) ||| (bAt b (4 * k + 1) <<< UInt32.ofNat 16) ||| (bAt b (4 * k + 2) <<< UInt32.ofNat 8) ||| bAt b (4 * k + 3)
  else lAt w (k - 16) + (rot (lAt w (k - 15)) 7 ^^^ rot (lAt w (k - 15)) 18 ^^^ (lAt w (k - 15) >>> UInt32.ofNat 3)) + lAt w (k - 7) + (rot (lAt w (k - 2)) 17 ^^^ rot (lAt w (k - 2)) 19 ^^^ (lAt w (k - 2) >>> UInt32.ofNat 10))
def schG (b:List UInt8) (k:Nat) (w:List UInt32):List UInt32:=w++[schW b k w]
theorem qrX {l:List UInt32} {k j:Nat} (h:j < k):lAt (l.take k) j=l.getD j 0:=by
  unfold lAt
  simp [List.getD,List.getElem?_take,h]
theorem qya {b:List UInt8} {k:Nat} {w:Vector UInt32 64} (hk:k < 64):(schF b k w).toList.take (k + 1)=schG b k (w.toList.take k):=by
  have hl:w.toList.length=64:=by simp
  have key:∀ x:UInt32,(w.setIfInBounds k x).toList.take (k + 1)=w.toList.take k++[x]:=fun x=>by
    rw [Vector.toList_setIfInBounds]
    rw [List.take_add_one]
    congr 1
    · rw [List.take_set_of_le (Nat.le_refl k)]
    · rw [List.getElem?_set_self (by omega)]; rfl
  unfold schF schG schW
  by_cases h:k < 16
  · rw [if_pos h,if_pos h,key]
  · rw [if_neg h,if_neg h,key,qrX (by omega),qrX (by omega),qrX (by omega),qrX (by omega)]
    congr 2
    show wAt w (k - 16) + wAt w (k - 7) + _ + _=wAt w (k - 16) + _ + wAt w (k - 7) + _
    rw [UInt32.add_assoc (wAt w (k - 16)) (wAt w (k - 7)),UInt32.add_comm (wAt w (k - 7)),← UInt32.add_assoc (wAt w (k - 16))]
theorem qtN {b:List UInt8}:∀ (m k:Nat) (w:Vector UInt32 64),k + m≤64→(qy (schF b) m k w).toList.take (k + m)=qy (schG b) m k (w.toList.take k)
  | 0,_,_,_=>rfl
  | m + 1,k,w,h=>by
    show (qy (schF b) m (k + 1) (schF b k w)).toList.take (k + (m + 1))=qy (schG b) m (k + 1) (schG b k (w.toList.take k))
    rw [← qya (by omega),← qtN m (k + 1) (schF b k w) (by omega),show k + (m + 1)=k + 1 + m by omega]
theorem qrT {σ:Type} {f:Nat→σ→σ}:∀ (m n k:Nat) (s:σ),qy f (m + n) k s=qy f n (k + m) (qy f m k s)
  | 0,n,k,s=>by rw [Nat.zero_add]; rfl
  | m + 1,n,k,s=>by
    rw [show m + 1 + n=(m + n) + 1 by omega]
    show qy f (m + n) (k + 1) (f k s)=qy f n (k + (m + 1)) (qy f m (k + 1) (f k s))
    rw [qrT m n (k + 1),show k + 1 + m=k + (m + 1) by omega]
theorem qv2 {σ:Type} {f g:Nat→σ→σ}:∀ (m k:Nat) (s:σ),(∀ j s,k≤j→j < k + m→f j s=g j s)→qy f m k s=qy g m k s
  | 0,_,_,_=>rfl
  | m + 1,k,s,h=>by
    show qy f m (k + 1) (f k s)=qy g m (k + 1) (g k s)
    rw [h k s (Nat.le_refl _) (by omega)]
    exact qv2 m (k + 1) _ fun j s h1 h2=>h j s (by omega) (by omega)
theorem qyr {b:List UInt8}:(schS b).toList=qy (schG b) 64 0 []:=by
  have h:=qtN (b:=b) 64 0 (Vector.replicate 64 0) (by omega)
  rw [List.take_zero] at h
  rw [← h,List.take_of_length_le (by simp)]
  rfl
theorem qtT {b:List UInt8}:∀ (m k:Nat) (w:List UInt32),(qy (schG b) m k w).length=w.length + m
  | 0,_,_=>rfl
  | m + 1,k,w=>by
    show (qy (schG b) m (k + 1) (schG b k w)).length=_
    rw [qtT m]; unfold schG; rw [List.length_append]; simp; omega
theorem qvj {w:List UInt32} {x:UInt32}:w.map c32++[c32 x]=(w++[x]).map c32:=by rw [List.map_append]; rfl
theorem qwA {w:List UInt32} {k:Nat} (h:k < w.length):getV (w.map c32) (w.map c32).length k=some (c32 (lAt w k)):=by
  rw [qzj (by rw [List.length_map]; exact h),List.getElem_map]
  simp [lAt,List.getD,List.getElem?_eq_getElem h]
theorem qyW {N : Nat} {b : List UInt8} {w : List UInt32} {k : Nat} (hb : b.length = 64) (hk : k < 16) (hw : w.length = k) :
    (zZ N b (w.map c32,(k:Int))).run some=some (.inl ((schG b k w).map c32,((k + 1:Nat):Int))):=by
  have g:∀ j < 4,getI b ((4:Int) * (k:Int) + ((j:Nat):Int))=some (b.getD (4 * k + j) 0):=fun j hj=>by
    rw [show (4:Int) * (k:Int) + ((j:Nat):Int)=((4 * k + j:Nat):Int) by omega]; exact getI_D (by omega)
  have g0:getI b ((4:Int) * (k:Int))=some (b.getD (4 * k) 0):=by have:=g 0 (by omega); simpa using this
  have g1:getI b ((4:Int) * (k:Int) + 1)=some (b.getD (4 * k + 1) 0):=g 1 (by omega)
  have g2:getI b ((4:Int) * (k:Int) + 2)=some (b.getD (4 * k + 2) 0):=g 2 (by omega)
  have g3:getI b ((4:Int) * (k:Int) + 3)=some (b.getD (4 * k + 3) 0):=g 3 (by omega)
  have c0:in64 ((4:Int) * (k:Int)):=by unfold in64; omega
  have c1:in64 ((4:Int) * (k:Int) + 1):=by unfold in64; omega
  have c2:in64 ((4:Int) * (k:Int) + 2):=by unfold in64; omega
  have c3:in64 ((4:Int) * (k:Int) + 3):=by unfold in64; omega
  have c4:in64 ((k:Int) + 1):=by unfold in64; omega
  have d1:decide ((k:Int) < 16)=true:=decide_eq_true (by omega)
  have c5:∀ x:Int,avOK (w.map c32).length (w.map c32).length (w.map c32++[x]).length 4:=fun x=>⟨rfl,by rw [List.length_append,List.length_map]; unfold maxBytes; simp; omega⟩
  have m1:∀ x,uMul .u32 (16777216:Int) (c32 x)=c32 (16777216 * x):=fun x=>qvQ 16777216 x
  have m2:∀ x,uMul .u32 (65536:Int) (c32 x)=c32 (65536 * x):=fun x=>qvQ 65536 x
  have m3:∀ x,uMul .u32 (256:Int) (c32 x)=c32 (256 * x):=fun x=>qvQ 256 x
  unfold zZ schG schW
  rw [if_pos hk,qzT,qj,d1,cond_true]
  simp only [run_bind,qg,ql]
  rw [qa c0,g0,Option.bind_some,qa c0,qa c1,g1,Option.bind_some,qa c0,qa c2,g2,Option.bind_some,qa c0,qa c3,g3,Option.bind_some]
  rw [qpA,qpA,qpA,qpA,m1,m2,m3,qbf,qbf,qbf,qa (c5 _),qa c4,int_succ,qvj]
theorem qyq {N : Nat} {b : List UInt8} {w : List UInt32} {k : Nat} (h1 : ¬ k < 16) (hk : k < 64) (hw : w.length = k) :
    (z9 N (w.map c32,(k:Int))).run some=some (.inl ((schG b k w).map c32,((k + 1:Nat):Int))):=by
  have c4:in64 ((k:Int) + 1):=by unfold in64; omega
  have d1:decide ((k:Int) < 64)=true:=decide_eq_true (by omega)
  have e15:(k:Int) - 15=((k - 15:Nat):Int):=by omega
  have e2:(k:Int) - 2=((k - 2:Nat):Int):=by omega
  have e16:(k:Int) - 16=((k - 16:Nat):Int):=by omega
  have e7:(k:Int) - 7=((k - 7:Nat):Int):=by omega
  have i:∀ j:Nat,j < 64→in64 ((j:Nat):Int):=fun j h=>by unfold in64; omega
  have p:∀ j:Nat,j < k→(0:Int)≤((j:Nat):Int)∧((j:Nat):Int) < (((w.map c32).length:Nat):Int):=fun j h=>by rw [List.length_map]; omega
  have gg:∀ j:Nat,j < k→getV (w.map c32) (w.map c32).length ((j:Nat):Int).toNat=some (c32 (lAt w j)):=fun j h=>by rw [Int.toNat_natCast]; exact qwA (by omega)
  have p3:(0:Int)≤3:=by omega
  have p10:(0:Int)≤10:=by omega
  have c5:∀ x:Int,avOK (w.map c32).length (w.map c32).length (w.map c32++[x]).length 4:=fun x=>⟨rfl,by rw [List.length_append,List.length_map]; unfold maxBytes; simp; omega⟩
  unfold z9 schG schW
  rw [if_neg h1,qj,d1,cond_true]
  simp only [run_bind,qg,ql]
  rw [e15,e2,e16,e7]
  rw [qa (i _ (by omega)),qa (p _ (by omega)),gg _ (by omega),Option.bind_some,qa (i _ (by omega)),qa (p _ (by omega)),gg _ (by omega),Option.bind_some]
  show (Option.bind (qw (c32 (lAt w (k - 15))) ((7:Nat):Int)) _)=_
  rw [zl _ 7 (by omega) (by omega),Option.bind_some]
  show (Option.bind (qw (c32 (lAt w (k - 15))) ((18:Nat):Int)) _)=_
  rw [zl _ 18 (by omega) (by omega),Option.bind_some,qa p3]
  show (Option.bind (qw (c32 (lAt w (k - 2))) ((17:Nat):Int)) _)=_
  rw [zl _ 17 (by omega) (by omega),Option.bind_some]
  show (Option.bind (qw (c32 (lAt w (k - 2))) ((19:Nat):Int)) _)=_
  rw [zl _ 19 (by omega) (by omega),Option.bind_some,qa p10]
  rw [qa (i _ (by omega)),qa (p _ (by omega)),gg _ (by omega),Option.bind_some,qa (i _ (by omega)),qa (p _ (by omega)),gg _ (by omega),Option.bind_some]
  rw [qfz,qfz,qni _ 3 (by omega),qni _ 10 (by omega),qfz,qfz,qbf,qbf,qbf,qa (c5 _),qa c4,int_succ,qvj]
theorem qx7 {N:Nat} {b:List UInt8} (hN:64 < N) (hb:b.length=64):qbC N b=some ((schS b).toList.map c32):=by
  have k1:Za N b [] 0=some ((qy (schG b) 16 0 []).map c32,(16:Int),false):=by
    refine (qz (σ:=List UInt32) (B:=zZ N b) (g:=some) (at_:=fun k s=>(s.map c32,(k:Int))) (I:=fun k s=>s.length=k) (f:=schG b) (n:=16)
      (fin:=fun s=>(s.map c32,(16:Int),false)) (fun k s hk hs=>⟨qyW hb hk hs,?_⟩) (fun s _=>?_) N 0 [] rfl (Nat.zero_le _) (by omega))
    · unfold schG; rw [List.length_append,hs]; rfl
    · unfold zZ
      rfl
  have k2:qb3 N ((qy (schG b) 16 0 []).map c32) 16=some ((qy (schG b) 64 0 []).map c32,(64:Int),false):=by
    rw [show qy (schG b) 64 0 []=qy (schG b) 48 16 (qy (schG b) 16 0 []) from qrT 16 48 0 []]
    refine (qz (σ:=List UInt32) (B:=z9 N) (g:=some) (at_:=fun k s=>(s.map c32,(k:Int))) (I:=fun k s=>16≤k∧s.length=k) (f:=schG b) (n:=64)
      (fin:=fun s=>(s.map c32,(64:Int),false)) (fun k s hk hs=>⟨qyq (by omega) hk hs.2,by omega,?_⟩) (fun s _=>?_) N 16 (qy (schG b) 16 0 []) ⟨by omega,qtT 16 0 []⟩ (by omega) (by omega))
    · unfold schG; rw [List.length_append,hs.2]; rfl
    · unfold z9
      rfl
  unfold qbC qcF
  generalize qy (schG b) 16 0 []=q0 at k1 k2
  rw [run_bind,show chkLs [(([]:List Int).length,0)] (Za N b [] 0)=Za N b [] 0 from (qS rfl).trans (qok _),k1,Option.bind_some]
  dsimp only
  rw [run_bind,qdI,k2,Option.bind_some]
  rw [qyr]
  generalize List.map c32 (qy (schG b) 64 0 [])=q
  exact qa rfl
end Go.Rx
end
set_option maxRecDepth 100000
noncomputable section
namespace Go.Rx
open Go.Proofs
theorem vec8 (x:Vector UInt32 8):∃ a b c d e f g h,x=#v[a,b,c,d,e,f,g,h]:=by
  obtain ⟨⟨l⟩,hl⟩:=x
  match l,hl with
  | [a,b,c,d,e,f,g,h],_=>exact ⟨a,b,c,d,e,f,g,h,rfl⟩
theorem qAp (e f g:UInt32):(e &&& f) ||| (~~~e &&& g)=(e &&& f) ^^^ (~~~e &&& g):=by
  apply UInt32.toBitVec_inj.1
  apply BitVec.eq_of_getLsbD_eq
  intro i hi
  simp
  cases e.toBitVec.getLsbD i<;>cases f.toBitVec.getLsbD i<;>cases g.toBitVec.getLsbD i<;>simp [hi]
theorem qz_ (a b c:UInt32):(a &&& b) ||| (a &&& c) ||| (b &&& c)=(a &&& b) ^^^ (a &&& c) ^^^ (b &&& c):=by
  apply UInt32.toBitVec_inj.1
  apply BitVec.eq_of_getLsbD_eq
  intro i hi
  simp
  cases a.toBitVec.getLsbD i<;>cases b.toBitVec.getLsbD i<;>cases c.toBitVec.getLsbD i<;>simp
def tG (K w e f g h:UInt32):UInt32:=h + (rot e 6 ^^^ rot e 11 ^^^ rot e 25) + ((e &&& f) ||| (~~~e &&& g)) + K + w
def uG (a b c:UInt32):UInt32:=(rot a 2 ^^^ rot a 13 ^^^ rot a 22) + ((a &&& b) ||| (a &&& c) ||| (b &&& c))
theorem quu {K w : Vector UInt32 64} {i : Nat} {a b c d e f g h : UInt32} : rndF K w i #v[a, b, c, d, e, f, g, h] =
    #v[tG (wAt K i) (wAt w i) e f g h + uG a b c,a,b,c,d + tG (wAt K i) (wAt w i) e f g h,e,f,g]:=by
  unfold rndF tW uW tG uG
  rw [qAp,qz_]
  rfl
abbrev L8 (a b c d e f g h:UInt32):List Int:=[c32 a,c32 b,c32 c,c32 d,c32 e,c32 f,c32 g,c32 h]
abbrev m8 (x:Vector UInt32 8):List Int:=x.toList.map c32
theorem qoL {w:List UInt32} {k:Nat} (h:k < w.length):getI (w.map c32) ((k:Nat):Int)=some (c32 (lAt w k)):=by
  rw [getI_D (d:=0) (by rw [List.length_map]; exact h)]
  simp [lAt,List.getD,List.getElem?_eq_getElem h]
theorem k_ok:qeu=some ():=rfl
abbrev kL:List Int:=[1116352408,1899447441,3049323471,3921009573,961987163,1508970993,2453635748,2870763221,3624381080,310598401,607225278,1426881987,1925078388,2162078206,2614888103,3248222580,3835390401,4022224774,264347078,604807628,770255983,1249150122,1555081692,1996064986,2554220882,2821834349,2952996808,3210313671,3336571891,3584528711,113926993,338241895,666307205,773529912,1294757372,1396182291,1695183700,1986661051,2177026350,2456956037,2730485921,2820302411,3259730800,3345764771,3516065817,3600352804,4094571909,275423344,430227734,506948616,659060556,883997877,958139571,1322822218,1537002063,1747873779,1955562222,2024104815,2227730452,2361852424,2428436474,2756734187,3204031479,3329325298]
theorem qy7:kL=tabK.toList.map c32:=rfl
theorem qzN {N : Nat} {o1 o2 : List Int} {o3 : Vector UInt8 32} {n : Nat} {l : List UInt8} {at_ : Int} {w : Vector UInt32 64} {x : Vector UInt32 8} {k : Nat} (hk : k < 64) :
    (qJ N o1 o2 o3 n l at_ (w.toList.map c32) (m8 x,(k:Int))).run some=some (.inl (m8 (rndF tabK w k x),((k + 1:Nat):Int))):=by
  obtain ⟨a,b,c,d,e,f,g,h,rfl⟩:=vec8 x
  have c4:in64 ((k:Int) + 1):=by unfold in64; omega
  have d1:decide ((k:Int) < 64)=true:=decide_eq_true (by omega)
  have gk:getI kL (k:Int)=some (c32 (wAt tabK k)):=by rw [qy7]; exact qoL (by simpa using hk)
  have gw:getI (w.toList.map c32) (k:Int)=some (c32 (wAt w k)):=qoL (by simpa using hk)
  rw [quu]
  show (qJ N o1 o2 o3 n l at_ (w.toList.map c32) (L8 a b c d e f g h,(k:Int))).run some=some (.inl (L8 _ a b c _ e f g,((k + 1:Nat):Int)))
  have g0:getI (L8 a b c d e f g h) 0=some (c32 a):=rfl
  have g1:getI (L8 a b c d e f g h) 1=some (c32 b):=rfl
  have g2:getI (L8 a b c d e f g h) 2=some (c32 c):=rfl
  have g3:getI (L8 a b c d e f g h) 3=some (c32 d):=rfl
  have g4:getI (L8 a b c d e f g h) 4=some (c32 e):=rfl
  have g5:getI (L8 a b c d e f g h) 5=some (c32 f):=rfl
  have g6:getI (L8 a b c d e f g h) 6=some (c32 g):=rfl
  have g7:getI (L8 a b c d e f g h) 7=some (c32 h):=rfl
  have t6:=fun x=>zl x 6 (by omega) (by omega)
  have t11:=fun x=>zl x 11 (by omega) (by omega)
  have t25:=fun x=>zl x 25 (by omega) (by omega)
  have t2:=fun x=>zl x 2 (by omega) (by omega)
  have t13:=fun x=>zl x 13 (by omega) (by omega)
  have t22:=fun x=>zl x 22 (by omega) (by omega)
  unfold qJ tG uG
  rw [qj,d1,cond_true,run_bind,g4,Option.bind_some,run_bind,g0,Option.bind_some,run_bind,g7,Option.bind_some,run_bind]
  refine (congrArg (fun o=>Option.bind o _) (t6 e)).trans ?_
  rw [Option.bind_some,run_bind]
  refine (congrArg (fun o=>Option.bind o _) (t11 e)).trans ?_
  rw [Option.bind_some,run_bind]
  refine (congrArg (fun o=>Option.bind o _) (t25 e)).trans ?_
  rw [Option.bind_some,run_bind,g5,Option.bind_some,run_bind,g6,Option.bind_some,run_bind,k_ok,Option.bind_some,run_bind,gk,Option.bind_some,run_bind,gw,Option.bind_some,run_bind]
  refine (congrArg (fun o=>Option.bind o _) (t2 a)).trans ?_
  rw [Option.bind_some,run_bind]
  refine (congrArg (fun o=>Option.bind o _) (t13 a)).trans ?_
  rw [Option.bind_some,run_bind]
  refine (congrArg (fun o=>Option.bind o _) (t22 a)).trans ?_
  rw [Option.bind_some,run_bind,g1,Option.bind_some,run_bind,g2,Option.bind_some,run_bind,Option.bind_some,run_bind,Option.bind_some,run_bind,Option.bind_some,run_bind,Option.bind_some,run_bind,g3,Option.bind_some,run_bind,Option.bind_some,run_bind,Option.bind_some,qg,qa c4,ql,int_succ]
  rw [qfz,qfz,qfz,qfz,qzb,qnb,qnb,or32,qbf,qbf,qbf,qbf,qnb,qnb,qnb,or32,or32,qbf,qbf,qbf]
theorem qzY {N : Nat} {o1 : List Int} {o3 : Vector UInt8 32} {n : Nat} {l : List UInt8} {at_ : Int} {w : Vector UInt32 64} {x : Vector UInt32 8} :
    (Zc N o1 (m8 x) o3 n l at_ (w.toList.map c32) ()).run some=some (.inr (.inl (m8 (rndF tabK w 0 x),1))):=by
  obtain ⟨a,b,c,d,e,f,g,h,rfl⟩:=vec8 x
  have gk:getI kL 0=some (c32 (wAt tabK 0)):=by rw [qy7]; exact qoL (by simp)
  have gw:getI (w.toList.map c32) 0=some (c32 (wAt w 0)):=qoL (by simp)
  rw [quu]
  show (Zc N o1 (L8 a b c d e f g h) o3 n l at_ (w.toList.map c32) ()).run some=some (.inr (.inl (L8 _ a b c _ e f g,1)))
  have hl:(((L8 a b c d e f g h).length:Nat):Int)=8:=rfl
  have g0:getV (L8 a b c d e f g h) (L8 a b c d e f g h).length 0=some (c32 a):=rfl
  have g1:getV (L8 a b c d e f g h) (L8 a b c d e f g h).length 1=some (c32 b):=rfl
  have g2:getV (L8 a b c d e f g h) (L8 a b c d e f g h).length 2=some (c32 c):=rfl
  have g3:getV (L8 a b c d e f g h) (L8 a b c d e f g h).length 3=some (c32 d):=rfl
  have g4:getV (L8 a b c d e f g h) (L8 a b c d e f g h).length 4=some (c32 e):=rfl
  have g5:getV (L8 a b c d e f g h) (L8 a b c d e f g h).length 5=some (c32 f):=rfl
  have g6:getV (L8 a b c d e f g h) (L8 a b c d e f g h).length 6=some (c32 g):=rfl
  have g7:getV (L8 a b c d e f g h) (L8 a b c d e f g h).length 7=some (c32 h):=rfl
  have j:∀ m:Int,0≤m∧m < 8→0≤m∧m < (((L8 a b c d e f g h).length:Nat):Int):=fun m h=>h
  have j0:=j 0 (by omega); have j1:=j 1 (by omega); have j2:=j 2 (by omega); have j3:=j 3 (by omega)
  have j4:=j 4 (by omega); have j5:=j 5 (by omega); have j6:=j 6 (by omega); have j7:=j 7 (by omega)
  have t6:=fun x=>zl x 6 (by omega) (by omega)
  have t11:=fun x=>zl x 11 (by omega) (by omega)
  have t25:=fun x=>zl x 25 (by omega) (by omega)
  have t2:=fun x=>zl x 2 (by omega) (by omega)
  have t13:=fun x=>zl x 13 (by omega) (by omega)
  have t22:=fun x=>zl x 22 (by omega) (by omega)
  unfold Zc tG uG
  simp only [run_bind,qg,ql]
  rw [qa j4,g4,Option.bind_some,qa j0,g0,Option.bind_some,qa j7,g7,Option.bind_some]
  refine (congrArg (fun o=>Option.bind o _) (t6 e)).trans ?_
  rw [Option.bind_some]
  refine (congrArg (fun o=>Option.bind o _) (t11 e)).trans ?_
  rw [Option.bind_some]
  refine (congrArg (fun o=>Option.bind o _) (t25 e)).trans ?_
  rw [Option.bind_some,qa j5,g5,Option.bind_some,qa j6,g6,Option.bind_some,k_ok,Option.bind_some,gk,Option.bind_some,gw,Option.bind_some]
  refine (congrArg (fun o=>Option.bind o _) (t2 a)).trans ?_
  rw [Option.bind_some]
  refine (congrArg (fun o=>Option.bind o _) (t13 a)).trans ?_
  rw [Option.bind_some]
  refine (congrArg (fun o=>Option.bind o _) (t22 a)).trans ?_
  rw [Option.bind_some,qa j1,g1,Option.bind_some,qa j2,g2,Option.bind_some,qa j1,Option.bind_some,qa j2,Option.bind_some,qa j1,Option.bind_some,qa j2,Option.bind_some,qa j3,g3,Option.bind_some,qa j5,Option.bind_some,qa j6,Option.bind_some]
  simp only [qfz,qnb,qzb,or32,qbf]
theorem qwJ {N : Nat} {o1 : List Int} {o3 : Vector UInt8 32} {n : Nat} {l : List UInt8} {at_ : Int} {w : Vector UInt32 64} {x : Vector UInt32 8} (hN : 64 < N) :
    qbk N o1 (m8 x) o3 n l at_ (w.toList.map c32)=some (m8 (qy (rndF tabK w) 64 0 x),(64:Int),false):=by
  obtain ⟨N',rfl⟩:∃ N',N=N' + 1:=⟨N - 1,by omega⟩
  have e:qbk (N' + 1) o1 (m8 x) o3 n l at_ (w.toList.map c32)=loopG (Zc (N' + 1) o1 (m8 x) o3 n l at_ (w.toList.map c32)) (qca (N' + 1) (N' + 1) (o1,m8 x,o3,n,l,at_,w.toList.map c32)) (N' + 1) ():=rfl
  rw [e,qX qzY]
  show loopG (qJ (N' + 1) o1 (m8 x) o3 n l at_ (w.toList.map c32)) some (N' + 1) (m8 (rndF tabK w 0 x),((1:Nat):Int))=_
  refine (qz (σ:=Vector UInt32 8) (B:=qJ (N' + 1) o1 (m8 x) o3 n l at_ (w.toList.map c32)) (g:=some) (at_:=fun k s=>(m8 s,(k:Int))) (I:=fun _ _=>True) (f:=rndF tabK w) (n:=64)
    (fin:=fun s=>(m8 s,(64:Int),false)) (fun k s hk _=>⟨qzN hk,trivial⟩) (fun s _=>?_) (N' + 1) 1 (rndF tabK w 0 x) trivial (by omega) (by omega)).trans rfl
  unfold qJ
  rfl
end Go.Rx
end
set_option maxRecDepth 100000
noncomputable section
namespace Go.Rx
open Go.Proofs
theorem len8 (x:Vector UInt32 8):(m8 x).length=8:=by simp [m8]
theorem qzV {N:Nat} {b:List UInt8} (hb:b.length≤1000000000) (hN:64 < N):Zu N b (b++[128])=some (b++[128]++List.replicate (padZ b.length) 0,false):=by
  have hz:padZ b.length < 64:=Nat.mod_lt _ (by omega)
  have h56:(b.length + 1 + padZ b.length) % 64=56:=by unfold padZ; omega
  have hlen:∀ k,(b++[128]++List.replicate k (0:UInt8)).length=b.length + 1 + k:=fun k=>by simp; omega
  have hne:∀ k,k < padZ b.length→(b.length + 1 + k) % 64≠56:=fun k hk=>by unfold padZ at *; omega
  have e0:Zu N b (b++[128])=loopG (zn N b) some N (b++[128]++List.replicate 0 (0:UInt8)):=by rw [List.replicate_zero,List.append_nil]; rfl
  rw [e0]
  refine (qz (σ:=Unit) (B:=zn N b) (g:=some) (at_:=fun k _=>b++[128]++List.replicate k (0:UInt8)) (I:=fun _ _=>True) (f:=fun _ s=>s) (n:=padZ b.length)
    (fin:=fun _=>(b++[128]++List.replicate (padZ b.length) 0,false)) (fun k s hk _=>⟨?_,trivial⟩) (fun s _=>?_) N 0 () trivial (Nat.zero_le _) (by omega))
  · unfold zn
    have c1:(64:Int)≠0:=by omega
    have e:decide ((((b++[128]++List.replicate k (0:UInt8)).length:Nat):Int).tmod 64=56)=false:=decide_eq_false (by
      rw [hlen]
      have:=hne k hk
      show ¬ (((b.length + 1 + k) % 64:Nat):Int)=56
      omega)
    have c2:avOK (b++[128]++List.replicate k (0:UInt8)).length (b++[128]++List.replicate k (0:UInt8)).length ((b++[128]++List.replicate k (0:UInt8))++[UInt8.ofNat 0]).length 1:=zS (by rw [List.length_append,hlen]; simp; omega)
    rw [qg,qa c1,qj,e,Bool.not_false,cond_true,qg,qa c2,ql]
    rw [List.replicate_succ',← List.append_assoc]
    rfl
  · unfold zn
    have c1:(64:Int)≠0:=by omega
    have e:decide ((((b++[128]++List.replicate (padZ b.length) (0:UInt8)).length:Nat):Int).tmod 64=56)=true:=decide_eq_true (by
      rw [hlen]
      show (((b.length + 1 + padZ b.length) % 64:Nat):Int)=56
      omega)
    rw [qg,qa c1,qj,e,Bool.not_true,cond_false,ql]
def plc (k:Nat):Nat:=if k < 8 then 256 ^ (7 - k) else 0
theorem qeo {n:Nat} (h:n < 18446744073709551616):IntKind.u64.wrap ((n:Nat):Int)=((n:Nat):Int):=by
  have:IntKind.u64.wrap ((n:Nat):Int)=((n:Nat):Int) % 18446744073709551616:=by simp [IntKind.wrap,IntKind.bits,IntKind.signed]
  rw [this]; omega
theorem qkg (n:Nat):IntKind.u8.wrap ((n:Nat):Int)=((n % 256:Nat):Int):=by
  have:IntKind.u8.wrap ((n:Nat):Int)=((n:Nat):Int) % 256:=by simp [IntKind.wrap,IntKind.bits,IntKind.signed]
  rw [this]; omega
theorem qsN (n j:Nat):uShr ((n:Nat):Int) j=((n / 2 ^ j:Nat):Int):=by
  unfold uShr
  rw [show ((2:Int) ^ j)=((2 ^ j:Nat):Int) by push_cast; rfl,Int.fdiv_eq_ediv_of_nonneg _ (Int.natCast_nonneg _),← Int.natCast_ediv]
theorem qzd {L k:Nat} (hL:L≤1000000000) (hk:k < 8):lenB L k=UInt8.ofNat (8 * L / 256 ^ (7 - k) % 256):=by
  unfold lenB uMul
  rw [qeo (by omega),show ((L:Nat):Int) * 8=((8 * L:Nat):Int) by omega,qeo (by omega),show (min ((8:Int) * ((7:Int) - (k:Int))).toNat 64)=8 * (7 - k) by omega,qsN,qkg,Int.toNat_natCast]
  rw [Nat.pow_mul]
theorem qym {L k:Nat} (hL:L≤1000000000) (hk:k < 8):UInt8.ofNat (IntKind.u8.wrap ((IntKind.u64.wrap ((((8 * L:Nat):Int)).tdiv ((plc k:Nat):Int))).tmod 256)).toNat=lenB L k:=by
  rw [qzd hL hk,qrF,qeo (Nat.lt_of_le_of_lt (Nat.div_le_self _ _) (by omega))]
  show UInt8.ofNat (IntKind.u8.wrap (((8 * L / plc k % 256:Nat):Int))).toNat=_
  rw [qkg,Int.toNat_natCast,Nat.mod_mod]
  unfold plc
  rw [if_pos hk]
theorem qyX {k:Nat} (hk:k < 8):IntKind.u64.wrap ((((plc k:Nat):Int)).tdiv 256)=((plc (k + 1):Nat):Int):=by
  have:∀ k < 8,IntKind.u64.wrap ((((plc k:Nat):Int)).tdiv 256)=((plc (k + 1):Nat):Int):=by decide
  exact this k hk
theorem qAf {k:Nat} (hk:k < 8):((plc k:Nat):Int)≠0:=by
  have:∀ k < 8,((plc k:Nat):Int)≠0:=by decide
  exact this k hk
theorem qyB {N L:Nat} {l:List UInt8} (hL:L≤1000000000) (hl:l.length≤1500000000) (hN:64 < N):qbl N ((8 * L:Nat):Int) l 72057594037927936 0=some (qy (lenF L) 8 0 l,(0:Int),(8:Int),false):=by
  refine (qz (σ:=List UInt8) (B:=Zf N ((8 * L:Nat):Int)) (g:=some) (at_:=fun k s=>(s,((plc k:Nat):Int),(k:Int))) (I:=fun k s=>s.length=l.length + k) (f:=lenF L) (n:=8)
    (fin:=fun s=>(s,(0:Int),(8:Int),false)) (fun k s hk hs=>⟨?_,?_⟩) (fun s _=>?_) N 0 l rfl (Nat.zero_le _) (by omega))
  · have d1:decide ((k:Int) < 8)=true:=decide_eq_true (by omega)
    have p256:(256:Int)≠0:=by omega
    have c4:in64 ((k:Int) + 1):=by unfold in64; omega
    have c5:avOK s.length s.length (s++[lenB L k]).length 1:=zS (by rw [List.length_append,hs]; simp; omega)
    unfold Zf
    rw [qj,d1,cond_true,qg,qa (qAf hk),qg,qa p256]
    dsimp only
    rw [qg,qa (qbc _),qym hL hk,qg,qa c5,qg,qa p256,qg,qa c4,ql,qyX hk,int_succ]
    rfl
  · unfold lenF; rw [List.length_append,hs]; simp; omega
  · unfold Zf
    rfl
theorem qvY {N:Nat} {b:List UInt8} (hb:b.length≤1000000000) (hN:64 < N):qaK N b=some (msgS b):=by
  have c0:apOK b.length 1:=by unfold apOK maxBytes; omega
  have c1:avOK b.length b.length (b++[UInt8.ofNat 128]).length 1:=zS (by rw [List.length_append]; simp; omega)
  have c2:in64 (((8:Int)) * ((b.length:Nat):Int)):=by unfold in64; omega
  have e8:IntKind.u64.wrap (((8:Int)) * ((b.length:Nat):Int))=((8 * b.length:Nat):Int):=by
    rw [show (8:Int) * ((b.length:Nat):Int)=((8 * b.length:Nat):Int) by omega,qeo (by omega)]
  have hlen:=qyB (N:=N) (L:=b.length) (l:=b++[128]++List.replicate (padZ b.length) 0) hb (by have:padZ b.length < 64:=Nat.mod_lt _ (by omega); simp; omega) hN
  have e1:b++[UInt8.ofNat 128]=b++[128]:=rfl
  unfold qaK qbJ
  rw [qg,qa c0,qg,qa c1,run_bind,qdI,e1,qzV hb hN,Option.bind_some]
  dsimp only
  rw [qg,qa c2,e8,run_bind,qdI,hlen,Option.bind_some]
  unfold msgS
  generalize qy (lenF b.length) 8 0 (b++[128]++List.replicate (padZ b.length) 0)=q
  exact qa rfl
theorem qz4 {x:Vector UInt32 8} {k:Nat} {y:UInt32}:(m8 x).set k (c32 y)=m8 (x.setIfInBounds k y):=by
  unfold m8
  rw [Vector.toList_setIfInBounds,List.map_set]
theorem qvp {x:Vector UInt32 8} {k:Nat} (hk:k < 8):getV (m8 x) 8 k=some (c32 (wAt x k)):=by
  have h:=qwA (w:=x.toList) (k:=k) (by simpa using hk)
  rw [show (List.map c32 x.toList).length=8 from len8 x] at h
  exact h
theorem qzL {x:Vector UInt32 8} {k:Nat} (hk:k < 8):getI (m8 x) ((k:Nat):Int)=some (c32 (wAt x k)):=qoL (by simpa using hk)
theorem qzW {N : Nat} {o : Vector UInt8 32} {l : List UInt8} {at_ : Int} {x s : Vector UInt32 8} (hN : 64 < N) :
    qcz N o 8 l at_ (m8 x) (m8 s) 0=some (m8 (qy (addF x) 8 0 s),(8:Int),false):=by
  refine (qz (σ:=Vector UInt32 8) (B:=ZR N o 8 l at_ (m8 x)) (g:=some) (at_:=fun k s=>(m8 s,(k:Int))) (I:=fun _ _=>True) (f:=addF x) (n:=8)
    (fin:=fun s=>(m8 s,(8:Int),false)) (fun k y hk _=>⟨?_,trivial⟩) (fun y _=>?_) N 0 s trivial (Nat.zero_le _) (by omega))
  · have c4:in64 ((k:Int) + 1):=by unfold in64; omega
    have d1:decide ((k:Int) < 8)=true:=decide_eq_true (by omega)
    have pk:(0:Int)≤(k:Int)∧(k:Int) < ((8:Nat):Int):=by omega
    have hv:vecOK (m8 y).length 8 (k:Int).toNat:=⟨len8 y,by rw [Int.toNat_natCast]; exact hk⟩
    have gv:getV (m8 y) 8 (k:Int).toNat=some (c32 (wAt y k)):=by rw [Int.toNat_natCast]; exact qvp hk
    unfold ZR addF
    rw [qj,d1,cond_true,qg,qa pk,run_bind,gv,Option.bind_some,run_bind,qzL hk,Option.bind_some,qg,qa pk,qg,qa hv,qg,qa c4,ql,qbf,Int.toNat_natCast,qz4,int_succ]
  · unfold ZR
    rfl
def chG (l:List UInt8) (k:Nat) (s:Vector UInt32 8):Vector UInt32 8:=qmP s tabK ((l.take (64 * k + 64)).drop (64 * k))
theorem qza {l:List UInt8}:∀ (m k:Nat) (s:Vector UInt32 8),chF tabK m s (l.drop (64 * k))=qy (chG l) m k s
  | 0,_,_=>rfl
  | m + 1,k,s=>by
    show chF tabK m (qmP s tabK ((l.drop (64 * k)).take 64)) ((l.drop (64 * k)).drop 64)=qy (chG l) m (k + 1) (chG l k s)
    rw [← qza m (k + 1),List.drop_drop,show 64 * k + 64=64 * (k + 1) by omega]
    unfold chG
    rw [List.drop_take,show 64 * k + 64 - 64 * k=64 by omega]
theorem qvM {N m : Nat} {o : Vector UInt8 32} {l : List UInt8} {s : Vector UInt32 8} (hl : l.length = 64 * m) (hb : l.length ≤ 2000000000) (hN : 64 < N) (hm : m < N) :
    qc1 N o 8 l (m8 s) 0=some (m8 (chF tabK m s l),((64 * m:Nat):Int),false):=by
  have e0:chF tabK m s l=qy (chG l) m 0 s:=by rw [← qza m 0 s]; rfl
  rw [e0]
  refine (qz (σ:=Vector UInt32 8) (B:=qak N o 8 l) (g:=some) (at_:=fun k s=>(m8 s,((64 * k:Nat):Int))) (I:=fun _ _=>True) (f:=chG l) (n:=m)
    (fin:=fun s=>(m8 s,((64 * m:Nat):Int),false)) (fun k y hk _=>⟨?_,trivial⟩) (fun y _=>?_) N 0 s trivial (Nat.zero_le _) (by omega))
  · have d1:decide (((64 * k:Nat):Int) < ((l.length:Nat):Int))=true:=decide_eq_true (by omega)
    have e64:((64 * k:Nat):Int) + 64=((64 * k + 64:Nat):Int):=by omega
    have c1:in64 (((64 * k:Nat):Int) + 64):=by unfold in64; omega
    have c2:(0:Int)≤((64 * k:Nat):Int)∧((64 * k:Nat):Int)≤((64 * k:Nat):Int) + 64∧((64 * k:Nat):Int) + 64≤((l.length:Nat):Int):=by omega
    have c3:(m8 y).length=8:=len8 y
    have c4:apOK (m8 y).length 4:=by rw [len8]; unfold apOK maxBytes; omega
    have et:(l.take (((64 * k:Nat):Int) + 64).toNat).drop ((64 * k:Nat):Int).toNat=(l.take (64 * k + 64)).drop (64 * k):=by
      rw [e64,Int.toNat_natCast,Int.toNat_natCast]
    have hlen:((l.take (64 * k + 64)).drop (64 * k)).length=64:=by rw [List.length_drop,List.length_take]; omega
    unfold qak chG qmP
    rw [show 64 * (k + 1)=64 * k + 64 by omega]
    rw [qj,d1,cond_true,qg,qa c1,qg,qa c2,run_bind,et,qx7 hN hlen,Option.bind_some,qg,qa c3,qg,qa c4,run_bind,qdI,qwJ hN,Option.bind_some]
    dsimp only
    rw [run_bind,qzW hN,Option.bind_some,qg,qa c1,ql,e64]
  · have d1:decide (((64 * m:Nat):Int) < ((l.length:Nat):Int))=false:=decide_eq_false (by omega)
    unfold qak
    rw [qj,d1,cond_false,ql]
theorem qtW {N : Nat} {o : List Int} {o2 o3 : Vector UInt8 32} {n3 : Nat} {s : Int} (hN : 64 < N) : ∀ (d n y : Nat), d ≤ 3 → d < n → y < 4294967296 →
    loopG (ZW N o o2 o3 n3 s) some n (((y:Nat):Int),((3 - d:Nat):Int))=some (((y / 256 ^ d:Nat):Int),(3:Int),false)
  | 0,n + 1,y,_,_,_=>by
    refine (qX (x:=(((y:Nat):Int),(3:Int),false)) (by unfold ZW; rfl) n).trans ?_
    rw [Nat.pow_zero,Nat.div_one]
  | d + 1,n + 1,y,hd,hn,hy=>by
    have d1:decide (((3 - (d + 1):Nat):Int) < 3)=true:=decide_eq_true (by omega)
    have p256:(256:Int)≠0:=by omega
    have c1:in64 (((3 - (d + 1):Nat):Int) + 1):=by unfold in64; omega
    have e1:((3 - (d + 1):Nat):Int) + 1=((3 - d:Nat):Int):=by omega
    have e2:IntKind.u32.wrap ((((y:Nat):Int)).tdiv 256)=((y / 256:Nat):Int):=by
      show IntKind.u32.wrap (((y / 256:Nat):Int))=_
      rw [qaY,Nat.mod_eq_of_lt (by omega)]
    rw [Z1 (v':=(((y / 256:Nat):Int),((3 - d:Nat):Int))) (by
      unfold ZW
      rw [qj,d1,cond_true,qg,qa p256,qg,qa c1,ql,e1,e2]) n]
    rw [qtW hN d n (y / 256) (by omega) (by omega) (by omega),Nat.div_div_eq_div_mul,Nat.pow_succ,Nat.mul_comm 256]
theorem qzv {N:Nat} {o:Vector UInt8 32} {s:Vector UInt32 8} (hN:64 < N):qcr N (m8 s) o 8 (Vector.replicate 32 0) 0=some (outS s,(32:Int),false):=by
  refine (qz (σ:=Vector UInt8 32) (B:=ZO N (m8 s) o 8) (g:=some) (at_:=fun k s=>(s,(k:Int))) (I:=fun _ _=>True) (f:=outF s) (n:=32)
    (fin:=fun s=>(s,(32:Int),false)) (fun k x hk _=>⟨?_,trivial⟩) (fun x _=>?_) N 0 (Vector.replicate 32 0) trivial (Nat.zero_le _) (by omega))
  · have d1:decide ((k:Int) < 32)=true:=decide_eq_true (by omega)
    have e1:(k:Int).tdiv 4=((k / 4:Nat):Int):=qrF k 4
    have e2:(k:Int).tmod 4=((k % 4:Nat):Int):=qt5 k 4
    have h4:(4:Int)≠0:=by omega
    have p256:(256:Int)≠0:=by omega
    have c1:in64 (((k / 4:Nat)):Int):=by unfold in64; omega
    have c2:(0:Int)≤((k / 4:Nat):Int)∧((k / 4:Nat):Int) < ((8:Nat):Int):=by omega
    have c7:(0:Int)≤(k:Int)∧(k:Int) < ((32:Nat):Int):=by omega
    have c8:in64 ((k:Int) + 1):=by unfold in64; omega
    have c9:(k:Int).toNat < 32:=by rw [Int.toNat_natCast]; exact hk
    have hl:qcg N (m8 s) o x 8 (k:Int) (c32 (wAt s (k / 4))) ((k % 4:Nat):Int)=some ((((wAt s (k / 4)).toNat / 256 ^ (3 - k % 4):Nat):Int),(3:Int),false):=by
      have:=qtW (N:=N) (o:=m8 s) (o2:=o) (o3:=x) (n3:=8) (s:=(k:Int)) hN (3 - k % 4) N (wAt s (k / 4)).toNat (by omega) (by omega) (lt32 _)
      rw [show 3 - (3 - k % 4)=k % 4 by omega] at this
      exact this
    have eb:UInt8.ofNat (IntKind.u8.wrap ((((wAt s (k / 4)).toNat / 256 ^ (3 - k % 4):Nat):Int).tmod 256)).toNat=outB s k:=by
      show UInt8.ofNat (IntKind.u8.wrap ((((wAt s (k / 4)).toNat / 256 ^ (3 - k % 4) % 256:Nat):Int))).toNat=_
      unfold outB
      rw [qkg,qkg,Int.toNat_natCast,Int.toNat_natCast,Nat.mod_mod,UInt32.toNat_shiftRight,UInt32.toNat_ofNat_of_lt' (show 24 - 8 * (k % 4) < UInt32.size by unfold UInt32.size; omega),Nat.mod_eq_of_lt (show 24 - 8 * (k % 4) < 32 by omega),Nat.shiftRight_eq_div_pow,show 24 - 8 * (k % 4)=8 * (3 - k % 4) by omega,Nat.pow_mul]
    unfold ZO outF
    rw [qj,d1,cond_true,e1,e2,qg,qa h4,qg,qa c1,qg,qa c2,run_bind,Int.toNat_natCast,qvp (by omega),Option.bind_some,qg,qa h4,run_bind,hl,Option.bind_some]
    dsimp only
    rw [eb,qg,qa p256,qg,qa c7,qg,qa (qbc _),qg,qa c9,qg,qa c8,ql,Int.toNat_natCast,int_succ]
  · unfold ZO
    rfl
theorem qzg:m8 iniS=[1779033703,3144134277,1013904242,2773480762,1359893119,2600822924,528734635,1541459225]:=rfl
theorem qvn {N:Nat} {b:List UInt8} (hb:b.length≤1000000000) (hN:b.length + 100 < N):qa8 N b=some (sumS b):=by
  obtain ⟨m,hm,hmb⟩:=qvq b
  have hL:(msgS b).length=b.length + 1 + padZ b.length + 8:=by unfold msgS; rw [qqZ]; simp; omega
  have hz:padZ b.length < 64:=Nat.mod_lt _ (by omega)
  have hd:(msgS b).length / 64=m + 1:=by rw [hm]; omega
  unfold qa8 qeb sumS
  rw [run_bind,qvY hb (by omega),Option.bind_some,run_bind,← qzg,qvM hm (by omega) (by omega) (by omega),Option.bind_some]
  dsimp only
  rw [run_bind,qzv (by omega),Option.bind_some,ql,hd]
theorem qwU {N:Nat} {b:List UInt8} (hb:b.length≤1000000000) (hN:b.length + 100 < N):qaw N b=some (sumS b):=by
  have c:lenOK (b:List UInt8).length:=by unfold lenOK; omega
  unfold qaw qeI
  rw [qg,qa c,run_bind,qvn hb hN,Option.bind_some,ql]
end Go.Rx
end
set_option maxRecDepth 100000
noncomputable section
namespace Go.Rx
open Go.Proofs
section
variable {N:Nat} [BigN N]
theorem qwB (n:Nat):IntKind.u16.wrap ((n:Nat):Int)=((n % 65536:Nat):Int):=by
  have:IntKind.u16.wrap ((n:Nat):Int)=((n:Nat):Int) % 65536:=by simp [IntKind.wrap,IntKind.bits,IntKind.signed]
  rw [this]; omega
theorem qy_ (a b:Nat):uAdd .u16 ((a:Nat):Int) ((b:Nat):Int)=(((a + b) % 65536:Nat):Int):=by
  unfold uAdd
  rw [← Int.natCast_add,qwB]
abbrev byt (l:List UInt8) (k:Nat):Nat:=(l.getD k 0).toNat
def rolN (l:List UInt8) (k:Nat) (s:Nat×Nat):Nat×Nat:=((s.1 + byt l k) % 65536,(s.2 + (s.1 + byt l k)) % 65536)
def rolM (l:List UInt8) (k:Nat) (s:Nat×Nat):Nat×Nat:=((s.1 + byt l k) % 65536,(s.2 + (l.length - k) % 65536 * byt l k) % 65536)
theorem qwa (l:List UInt8) (k:Nat):byt l k < 256:=UInt8.toNat_lt _
theorem qvo {l:List UInt8}:∀ (m k:Nat) (s:Nat×Nat),qy (qgX l) m k (((s.1:Nat):Int),((s.2:Nat):Int))=((((qy (rolN l) m k s).1:Nat):Int),(((qy (rolN l) m k s).2:Nat):Int))
  | 0,_,_=>rfl
  | m + 1,k,s=>by
    have h:=qwa l k
    have e:qgX l k (((s.1:Nat):Int),((s.2:Nat):Int))=((((rolN l k s).1:Nat):Int),(((rolN l k s).2:Nat):Int)):=by
      unfold qgX rolN
      dsimp only
      rw [qwB,Nat.mod_eq_of_lt (show byt l k < 65536 by omega),qy_,qy_]
      congr 2
      omega
    show qy (qgX l) m (k + 1) (qgX l k (((s.1:Nat):Int),((s.2:Nat):Int)))=_
    rw [e,qvo m (k + 1)]
    rfl
theorem quj {l : List UInt8} : ∀ (m k a b b' : Nat), k + m = l.length → a < 65536 → b < 65536 → b' < 65536 → b' % 65536 = (b + m * a) % 65536 →
    qy (rolM l) m k (a,b')=qy (rolN l) m k (a,b)
  | 0,k,a,b,b',_,_,hb,hb',h=>by
    have:b'=b:=by omega
    rw [this]
    rfl
  | m + 1,k,a,b,b',hk,ha,hb,hb',h=>by
    show qy (rolM l) m (k + 1) ((a + byt l k) % 65536,(b' + (l.length - k) % 65536 * byt l k) % 65536)=qy (rolN l) m (k + 1) ((a + byt l k) % 65536,(b + (a + byt l k)) % 65536)
    refine quj m (k + 1) _ _ _ (by omega) (Nat.mod_lt _ (by omega)) (Nat.mod_lt _ (by omega)) (Nat.mod_lt _ (by omega)) ?_
    rw [show l.length - k=m + 1 by omega]
    generalize byt l k=y at *
    have e1:(b' + (m + 1) % 65536 * y) % 65536=(b' % 65536 + (m + 1) * y) % 65536:=by
      rw [Nat.add_mod,Nat.mod_mul_mod,Nat.add_mod (b' % 65536) ((m + 1) * y),Nat.mod_mod]
    rw [Nat.mod_mod,e1,h]
    rw [Nat.mod_add_mod]
    have e2:((b + (a + y)) % 65536 + m * ((a + y) % 65536)) % 65536=(b + (a + y) + m * (a + y)) % 65536:=by
      rw [Nat.mod_add_mod,Nat.add_mod,Nat.mul_mod_mod,← Nat.add_mod]
    rw [e2]
    congr 1
    rw [Nat.add_mul,Nat.add_mul,Nat.mul_add]
    omega
theorem qvf {l:List UInt8}:∀ (m k:Nat) (s:Nat×Nat),s.1 < 65536→s.2 < 65536→(qy (rolN l) m k s).1 < 65536∧(qy (rolN l) m k s).2 < 65536
  | 0,_,_,h1,h2=>⟨h1,h2⟩
  | m + 1,k,s,_,_=>qvf m (k + 1) (rolN l k s) (Nat.mod_lt _ (by omega)) (Nat.mod_lt _ (by omega))
theorem qxf {l:List UInt8} (h:l.length≤50000):qcw N l=some (qtK l):=by
  have key:qdg N l 0 0 0=some ((((qy (rolM l) l.length 0 (0,0)).1:Nat):Int),(((qy (rolM l) l.length 0 (0,0)).2:Nat):Int),((l.length:Nat):Int),false):=by
    refine (qz (σ:=Nat×Nat) (B:=qab N l) (g:=some) (at_:=fun k s=>(((s.1:Nat):Int),((s.2:Nat):Int),(k:Int))) (I:=fun _ s=>s.1 < 65536∧s.2 < 65536) (f:=rolM l) (n:=l.length)
      (fin:=fun s=>(((s.1:Nat):Int),((s.2:Nat):Int),((l.length:Nat):Int),false)) (fun k s hk hs=>⟨?_,Nat.mod_lt _ (by omega),Nat.mod_lt _ (by omega)⟩) (fun s _=>?_) N 0 (0,0) ⟨by omega,by omega⟩ (Nat.zero_le _) (by have:=big N; omega))
    · have hy:=qwa l k
      have hm:(l.length - k) % 65536=l.length - k:=Nat.mod_eq_of_lt (by omega)
      have hp:(l.length - k) * byt l k≤50000 * 256:=Nat.mul_le_mul (by omega) (by omega)
      have em:(((l.length:Nat):Int) - (k:Int)).tmod 65536=((l.length - k:Nat):Int):=by
        rw [show ((l.length:Nat):Int) - (k:Int)=((l.length - k:Nat):Int) by omega]
        show (((l.length - k) % 65536:Nat):Int)=_
        rw [hm]
      have ep:((l.length - k:Nat):Int) * ((byt l k:Nat):Int)=(((l.length - k) * byt l k:Nat):Int):=by rw [Int.natCast_mul]
      have c0:(65536:Int)≠0:=by omega
      have c1:in64 ((byt l k:Nat):Int):=by unfold in64; omega
      have c2:in64 (((s.1:Nat):Int) + ((byt l k:Nat):Int)):=by unfold in64; omega
      have c3:in64 (((l.length:Nat):Int) - (k:Int)):=by unfold in64; omega
      have c4:in64 (((l.length - k) * byt l k:Nat):Int):=by unfold in64; omega
      have c5:in64 (((s.2:Nat):Int) + (((l.length - k) * byt l k:Nat):Int)):=by unfold in64; omega
      have c6:in64 ((k:Int) + 1):=by unfold in64; omega
      have e1:(((s.1:Nat):Int) + ((byt l k:Nat):Int)).tmod 65536=(((s.1 + byt l k) % 65536:Nat):Int):=rfl
      have e2:(((s.2:Nat):Int) + (((l.length - k) * byt l k:Nat):Int)).tmod 65536=(((s.2 + (l.length - k) * byt l k) % 65536:Nat):Int):=rfl
      unfold qab rolM
      rw [qj,dec_lt hk,cond_true,run_bind,getI_D (d:=0) hk,Option.bind_some,qg,qa c1,qg,qa c2,qg,qa c0,qg,qa c3,qg,qa c0,run_bind,Option.bind_some,qg,qa c1]
      dsimp only
      rw [em,ep,qg,qa c4,qg,qa c5,qg,qa c0,qg,qa c6,ql,int_succ,e1,e2,hm]
    · unfold qab
      rw [qj,dec_nlt (Nat.lt_irrefl _),cond_false,ql]
  have hrel:=quj (l:=l) l.length 0 0 0 0 (by omega) (by omega) (by omega) (by omega) (by omega)
  have hlt:=qvf (l:=l) l.length 0 (0,0) (by show 0 < _; omega) (by show 0 < _; omega)
  have hN:=qvo (l:=l) l.length 0 (0,0)
  unfold qcw qdF
  rw [run_bind,key,Option.bind_some,hrel]
  unfold qtK
  have hN:qy (qgX l) l.length 0 ((0:Int),(0:Int))=((((qy (rolN l) l.length 0 (0,0)).1:Nat):Int),(((qy (rolN l) l.length 0 (0,0)).2:Nat):Int)):=hN
  rw [hN]
  generalize qy (rolN l) l.length 0 (0,0)=q at hlt
  obtain ⟨a,b⟩:=q
  have ha:a < 65536:=hlt.1
  have hb:b < 65536:=hlt.2
  dsimp only
  have d1:in64 ((65536:Int) * ((b:Nat):Int)):=by unfold in64; omega
  have d2:in64 ((65536:Int) * ((b:Nat):Int) + ((a:Nat):Int)):=by unfold in64; omega
  have e1:(65536:Int) * ((b:Nat):Int) + ((a:Nat):Int)=((65536 * b + a:Nat):Int):=by omega
  have hw:∀ n:Nat,n < 4294967296→∃ x:UInt32,x.toNat=n:=fun n hn=>⟨UInt32.ofNat n,by rw [UInt32.toNat_ofNat_of_lt' (by unfold UInt32.size; omega)]⟩
  obtain ⟨xa,hxa⟩:=hw a (by omega)
  obtain ⟨xb,hxb⟩:=hw b (by omega)
  rw [qg,qa d1,qg,qa d2,ql,e1,qaY,qaY,qaY,Nat.mod_eq_of_lt (show 65536 * b + a < 4294967296 by omega),Nat.mod_eq_of_lt (show a < 4294967296 by omega),Nat.mod_eq_of_lt (show b < 4294967296 by omega)]
  rw [← hxa,← hxb]
  show _=some (uOr .u32 (uShl .u32 (c32 xb) 16) (c32 xa))
  rw [qpN _ 16 (by omega),or32,c32,UInt32.toNat_or,UInt32.toNat_shiftLeft]
  show _=some ((((xb.toNat <<< 16 % 4294967296) ||| xa.toNat:Nat):Int))
  rw [Nat.shiftLeft_eq,Nat.mod_eq_of_lt (by omega),Nat.mul_comm xb.toNat,← Nat.two_pow_add_eq_or_of_lt (by omega)]
end
end Go.Rx
end
set_option maxRecDepth 100000
noncomputable section
namespace Go.Rx
open Go.Proofs
section
variable {N:Nat} [BigN N]
theorem qwO {l:List UInt8} (h:l.length≤50000):qaw N l=some (sumS l):=qwU (by omega) (by have:=big N; omega)
theorem qyR {l:List UInt8} (h:l.length≤50000):qck N l=some (qb5 l):=by
  unfold qck qdU
  rw [run_bind,qxf h,Option.bind_some,run_bind,qwO h,Option.bind_some,ql]
  rfl
theorem qt4 {l : List UInt8} (hl : l.length ≤ 50000) : ∀ (m n k : Nat) (acc : List qp), 8 * k ≤ l.length → (l.length - 8 * k) / 8 = m → acc.length + m ≤ 50000 → m < n →
    loopG (qaJ N l) some n (acc,((8 * k:Nat):Int))=some (acc++sigL m (l.drop (8 * k)),((8 * (k + m):Nat):Int),false)
  | 0,n + 1,k,acc,hk,hm,_,_=>by
    have e8:((8 * k:Nat):Int) + 8=((8 * k + 8:Nat):Int):=by omega
    have c:in64 (((8 * k:Nat):Int) + 8):=by unfold in64; omega
    have d:decide (((8 * k:Nat):Int) + 8≤((l.length:Nat):Int))=false:=decide_eq_false (by omega)
    rw [qX (x:=(acc,((8 * k:Nat):Int),false)) (by unfold qaJ; rw [qg,qa c,qj,d,cond_false,ql]) n]
    show some (acc,((8 * k:Nat):Int),false)=some (acc++[],((8 * (k + 0):Nat):Int),false)
    rw [List.append_nil,Nat.add_zero]
  | m + 1,n + 1,k,acc,hk,hm,ha,hn=>by
    have e8:((8 * k:Nat):Int) + 8=((8 * k + 8:Nat):Int):=by omega
    have c:in64 (((8 * k:Nat):Int) + 8):=by unfold in64; omega
    have d:decide (((8 * k:Nat):Int) + 8≤((l.length:Nat):Int))=true:=decide_eq_true (by omega)
    have c1:(0:Int)≤((8 * k:Nat):Int)∧((8 * k:Nat):Int)≤((8 * k:Nat):Int) + 8∧((8 * k:Nat):Int) + 8≤((l.length:Nat):Int):=by omega
    have et:(l.take (((8 * k:Nat):Int) + 8).toNat).drop ((8 * k:Nat):Int).toNat=(l.drop (8 * k)).take 8:=by
      rw [e8,Int.toNat_natCast,Int.toNat_natCast,List.drop_take,show 8 * k + 8 - 8 * k=8 by omega]
    have ht:((l.drop (8 * k)).take 8).length≤50000:=by rw [List.length_take]; omega
    have hacc:(acc++[qb5 ((l.drop (8 * k)).take 8)]).length=acc.length + 1:=by rw [List.length_append]; rfl
    have cav:avOK acc.length acc.length (acc++[qb5 ((l.drop (8 * k)).take 8)]).length 36:=⟨rfl,by rw [hacc]; unfold maxBytes; omega⟩
    rw [Z1 (v':=(acc++[qb5 ((l.drop (8 * k)).take 8)],((8 * (k + 1):Nat):Int))) (by
      unfold qaJ
      rw [qg,qa c,qj,d,cond_true,qg,qa c,qg,qa c1,run_bind,et,qyR ht,Option.bind_some,qg,qa cav,qg,qa c,ql,e8]; rfl) n]
    rw [qt4 hl m n (k + 1) _ (by omega) (by omega) (by rw [hacc]; omega) (by omega),List.append_assoc,show k + 1 + m=k + (m + 1) by omega]
    show some (acc++(qb5 ((l.drop (8 * k)).take 8)::sigL m (l.drop (8 * (k + 1)))),_,_)=some (acc++(qb5 ((l.drop (8 * k)).take 8)::sigL m ((l.drop (8 * k)).drop 8)),_,_)
    rw [List.drop_drop,show 8 * k + 8=8 * (k + 1) by omega]
  | _,0,_,_,_,_,_,hn=>by omega
theorem qw4 {l:List UInt8} (h:l.length≤50000):qdv N l=some (sigS l):=by
  unfold qdv qeP sigS
  by_cases h24:l.length < 24
  · have d:decide (((l.length:Nat):Int) < 24)=true:=decide_eq_true (by omega)
    rw [qj,d,cond_true,ql,if_pos h24]
  · have d:decide (((l.length:Nat):Int) < 24)=false:=decide_eq_false (by omega)
    have e:=qt4 (N:=N) h (l.length / 8) N 0 [] (by omega) (by omega) (by simp; omega) (by have:=big N; omega)
    have e':chkLs [(([]:List qp).length,0)] (qd2 N l [] 0)=some (sigL (l.length / 8) l,((8 * (0 + l.length / 8):Nat):Int),false):=(qS rfl).trans e
    rw [qj,d,cond_false,if_neg h24,run_bind,e',Option.bind_some]
    generalize sigL (l.length / 8) l=q
    exact qa rfl
end
end Go.Rx
end
set_option maxRecDepth 100000
noncomputable section
namespace Go.Rx
open Go.Proofs
theorem qy9 {P:Nat→Prop} [DecidablePred P]:∀ n,P n→∃ K,K≤n∧P K∧∀ k < K,¬ P k
  | 0,h=>⟨0,Nat.le_refl _,h,fun k hk=>by omega⟩
  | n + 1,h=>by
    by_cases e:∃ j,j≤n∧P j
    · obtain ⟨j,hj,pj⟩:=e
      obtain ⟨K,h1,h2,h3⟩:=qy9 j pj
      exact ⟨K,by omega,h2,h3⟩
    · exact ⟨n + 1,Nat.le_refl _,h,fun k hk pk=>e ⟨k,by omega,pk⟩⟩
  termination_by n=>n
  decreasing_by omega
theorem qwf {x:Nat} (h:x < 18446744073709551616):∃ K,K≤9∧x / 128 ^ K < 128∧∀ k < K,128≤x / 128 ^ k:=by
  obtain ⟨K,h1,h2,h3⟩:=qy9 (P:=fun k=>x / 128 ^ k < 128) 9 (by show x / 9223372036854775808 < 128; omega)
  exact ⟨K,h1,h2,fun k hk=>by have:=h3 k hk; omega⟩
theorem qm9 (x k:Nat):x / 128 ^ k / 128=x / 128 ^ (k + 1):=by rw [Nat.div_div_eq_div_mul,Nat.pow_succ]
def hiB (x k:Nat):UInt8:=UInt8.ofNat (x / 128 ^ k % 128 + 128)
def loB (x:Nat):UInt8:=UInt8.ofNat (x % 128)
def dn (x:Nat):Nat→List UInt8
  | 0=>[loB x]
  | k + 1=>hiB x (k + 1)::dn x k
def cdn (x:Nat):Nat→List UInt8
  | 0=>[]
  | k + 1=>hiB x k::cdn x k
theorem qrK (x:Nat):∀ k,(dn x k).length=k + 1
  | 0=>rfl
  | k + 1=>by unfold dn; rw [List.length_cons,qrK x k]
theorem qpP (x:Nat):∀ k,(cdn x k).length=k
  | 0=>rfl
  | k + 1=>by unfold cdn; rw [List.length_cons,qpP x k]
theorem qvl (x:Nat):∀ k,(cdn x (k + 1)).set k (loB x)=dn x k
  | 0=>rfl
  | k + 1=>by
    show hiB x (k + 1)::(cdn x (k + 1)).set k (loB x)=_
    rw [qvl x k]; rfl
theorem qvh (x:Nat):∀ k,(cdn x (k + 1)).getD k 0=hiB x 0
  | 0=>rfl
  | k + 1=>by
    show (hiB x (k + 1)::cdn x (k + 1)).getD (k + 1) 0=_
    rw [List.getD_cons_succ]; exact qvh x k
section
variable {N:Nat} [BigN N]
theorem qvW {x K:Nat} (hK:K≤9) (h1:x / 128 ^ K < 128) (h2:∀ k < K,128≤x / 128 ^ k):qcW N (x:Int)=some ((K + 1:Nat):Int):=by
  have e7:∀ y:Nat,uShr ((y:Nat):Int) 7=((y / 128:Nat):Int):=fun y=>qsN y 7
  have key:qes N ((x / 128 ^ 1:Nat):Int) 1=some (((x / 128 ^ (K + 1):Nat):Int),((K + 1:Nat):Int),false):=by
    refine (qz (σ:=Unit) (B:=QJ N) (g:=some) (at_:=fun k _=>(((x / 128 ^ (k + 1):Nat):Int),((k + 1:Nat):Int))) (I:=fun _ _=>True) (f:=fun _ s=>s) (n:=K)
      (fin:=fun _=>(((x / 128 ^ (K + 1):Nat):Int),((K + 1:Nat):Int),false)) (fun k s hk _=>⟨?_,trivial⟩) (fun s _=>?_) N 0 () trivial (Nat.zero_le _) (by have:=big N; omega))
    · have hb:=h2 k hk
      have d:decide ((0:Int) < ((x / 128 ^ (k + 1):Nat):Int))=true:=decide_eq_true (by rw [← qm9]; omega)
      have c1:in64 (((k + 1:Nat):Int) + 1):=by unfold in64; omega
      unfold QJ
      rw [qj,d,cond_true,qg,qa c1,qg,qa (by omega),ql,e7,qm9,int_succ]
    · have d:decide ((0:Int) < ((x / 128 ^ (K + 1):Nat):Int))=false:=decide_eq_false (by rw [← qm9]; omega)
      unfold QJ
      rw [qj,d,cond_false,ql]
  unfold qcW qfr
  rw [qg,qa (by omega),run_bind,e7]
  rw [Nat.pow_one] at key
  rw [key,Option.bind_some,ql]
theorem qAo:∀ z < 256,uOr .u8 ((z:Nat):Int) 128=((z % 128 + 128:Nat):Int):=by decide +kernel
theorem qzm:∀ z < 128,uAndNot .u8 ((z + 128:Nat):Int) 128=((z:Nat):Int):=by decide +kernel
theorem qyA {l:List UInt8} {i:Nat} {c:UInt8} (h:i < l.length):(l.set i c).drop i=c::l.drop (i + 1):=by
  rw [List.drop_eq_getElem_cons (by rw [List.length_set]; exact h),List.getElem_set_self,List.drop_set_of_lt (by omega)]
theorem qzS {x r:Nat} (hr:r≤10):qcX N (x:Int) (r:Int) r (r:Int) (List.replicate r 0) 0=some (cdn x r,(r:Int),false):=by
  have h:=qd7 (B:=qaB N (x:Int) (r:Int) r (r:Int)) (g:=some) (I:=fun v=>v.1.length=r∧∃ k:Nat,k≤r∧v.2=(k:Int)∧v.1.drop (r - k)=cdn x k) (Q:=fun y=>y=(cdn x r,(r:Int),false)) (fun v=>r - v.2.toNat) ?_ N (List.replicate r 0,0)
    ⟨by simp,0,Nat.zero_le _,rfl,by simp [cdn]⟩ (by have:=big N; simp; omega)
  · obtain ⟨y,e,rfl⟩:=h
    exact e
  rintro ⟨l,v⟩ ⟨hl,k,hk,hv,hd⟩
  simp only at hl hv hd
  subst hv
  by_cases h:k < r
  · left
    have c1:in64 ((r:Int) - 1):=by unfold in64; omega
    have c2:in64 ((r:Int) - 1 - (k:Int)):=by unfold in64; omega
    have c3:in64 ((7:Int) * (k:Int)):=by unfold in64; omega
    have c4:(0:Int)≤(7:Int) * (k:Int):=by omega
    have c5:(0:Int)≤(r:Int) - 1 - (k:Int)∧(r:Int) - 1 - (k:Int) < ((r:Nat):Int):=by omega
    have c6:vecOK l.length r ((r:Int) - 1 - (k:Int)).toNat:=⟨hl,by omega⟩
    have c7:in64 ((k:Int) + 1):=by unfold in64; omega
    have hb:UInt8.ofNat (uOr .u8 (IntKind.u8.wrap (uShr ((x:Nat):Int) (min ((7:Int) * (k:Int)).toNat 64))) 128).toNat=hiB x k:=by
      rw [show min ((7:Int) * (k:Int)).toNat 64=7 * k by omega,qsN,qkg,qAo _ (Nat.mod_lt _ (by omega)),Int.toNat_natCast,Nat.pow_mul,Nat.mod_mod_of_dvd _ (by decide)]
      rfl
    refine ⟨(l.set ((r:Int) - 1 - (k:Int)).toNat (hiB x k),((k + 1:Nat):Int)),?_,⟨?_,k + 1,h,rfl,?_⟩,?_⟩
    · unfold qaB
      rw [qj,dec_lt h,cond_true,qg,qa c1,qg,qa c2,qg,qa c3,qg,qa c4]
      rw [← hb]
      show chk _ (chk _ (chk _ (chk _ _)))=_
      rw [qa c5,qa c6,qa (qsZ _ _),qa c7,int_succ]
      rfl
    · simp only [List.length_set]; exact hl
    · show (l.set ((r:Int) - 1 - (k:Int)).toNat (hiB x k)).drop (r - (k + 1))=hiB x k::cdn x k
      rw [show ((r:Int) - 1 - (k:Int)).toNat=r - (k + 1) by omega,qyA (by omega),show r - (k + 1) + 1=r - k by omega,hd]
    · simp only [Int.toNat_natCast]; omega
  · right
    obtain rfl:k=r:=by omega
    rw [Nat.sub_self,List.drop_zero] at hd
    refine ⟨(l,((k:Nat):Int),false),_,?_,rfl,by rw [hd]⟩
    unfold qaB
    rw [qj,dec_nlt (Nat.lt_irrefl k),cond_false,ql]
theorem qw9 {x K:Nat} (hK:K≤9) (h1:x / 128 ^ K < 128) (h2:∀ k < K,128≤x / 128 ^ k):qO N (x:Int)=some (dn x K,K + 1):=by
  have e1:=qvW (N:=N) hK h1 h2
  have e2:=qzS (N:=N) (x:=x) (r:=K + 1) (by omega)
  have hrl:(List.replicate ((K + 1:Nat):Int).toNat (0:UInt8)).length=K + 1:=by simp
  have e3:qcX N (x:Int) ((K + 1:Nat):Int) (List.replicate ((K + 1:Nat):Int).toNat (0:UInt8)).length ((K + 1:Nat):Int) (List.replicate ((K + 1:Nat):Int).toNat (0:UInt8)) 0=some (cdn x (K + 1),((K + 1:Nat):Int),false):=by
    rw [hrl]; exact e2
  have c1:mkOK ((K + 1:Nat):Int) ((K + 1:Nat):Int) 1:=⟨rfl,by omega,by unfold maxBytes; omega⟩
  have c2:in64 (((K + 1:Nat):Int) - 1):=by unfold in64; omega
  have c3:(0:Int)≤((K + 1:Nat):Int) - 1∧((K + 1:Nat):Int) - 1 < ((K + 1:Nat):Int):=by omega
  have en:(((K + 1:Nat):Int) - 1).toNat=K:=by omega
  have hg:getV (cdn x (K + 1)) (K + 1) (((K + 1:Nat):Int) - 1).toNat=some (hiB x 0):=by
    rw [en,qz0 (d:=0) (qpP x (K + 1)) (by rw [qpP]; omega),qvh]
  have c4:vecOK (cdn x (K + 1)).length (K + 1) (((K + 1:Nat):Int) - 1).toNat:=⟨qpP _ _,by omega⟩
  have hb:UInt8.ofNat (uAndNot .u8 (((hiB x 0).toNat:Nat):Int) 128).toNat=loB x:=by
    have:(hiB x 0).toNat=x % 128 + 128:=by
      unfold hiB
      rw [Nat.pow_zero,Nat.div_one,UInt8.toNat_ofNat_of_lt' (show x % 128 + 128 < UInt8.size by unfold UInt8.size; omega)]
    rw [this,qzm _ (Nat.mod_lt _ (by omega)),Int.toNat_natCast]
    rfl
  unfold qO qi0
  rw [run_bind,e1,Option.bind_some,qg,qa c1,run_bind,e3,Option.bind_some,qg,qa c2,hrl,qg,qa c3,run_bind,hg,Option.bind_some]
  show chk _ (chk _ (chk _ _))=_
  rw [qa c3,qa c4,qa (qs5 _ _),← qvl,← hb,en]
  rfl
theorem qxg {x K:Nat} (hx:x < 18446744073709551616) (hK:K≤9) (h1:x / 128 ^ K < 128) (h2:∀ k < K,128≤x / 128 ^ k):Qj N [loB x] (x:Int)=some (dn x K,((x / 128 ^ K:Nat):Int),false):=by
  have key:Qj N (dn x 0) ((x / 128 ^ 0:Nat):Int)=some (dn x K,((x / 128 ^ K:Nat):Int),false):=by
    refine (qz (σ:=Unit) (B:=qau N) (g:=some) (at_:=fun k _=>(dn x k,((x / 128 ^ k:Nat):Int))) (I:=fun _ _=>True) (f:=fun _ s=>s) (n:=K)
      (fin:=fun _=>(dn x K,((x / 128 ^ K:Nat):Int),false)) (fun k s hk _=>⟨?_,trivial⟩) (fun s _=>?_) N 0 () trivial (Nat.zero_le _) (by have:=big N; omega))
    · have hb:=h2 k hk
      have d:decide ((128:Int)≤((x / 128 ^ k:Nat):Int))=true:=decide_eq_true (by omega)
      have p:(128:Int)≠0:=by omega
      have hlt:x / 128 ^ (k + 1) < 18446744073709551616:=Nat.lt_of_le_of_lt (Nat.div_le_self _ _) hx
      have e1:IntKind.u64.wrap ((((x / 128 ^ k:Nat):Int)).tdiv 128)=((x / 128 ^ (k + 1):Nat):Int):=by
        show IntKind.u64.wrap (((x / 128 ^ k / 128:Nat):Int))=_
        rw [qm9,qeo hlt]
      have e2:UInt8.ofNat (uAdd .u8 (IntKind.u8.wrap ((((x / 128 ^ (k + 1):Nat):Int)).tmod 128)) 128).toNat=hiB x (k + 1):=by
        show UInt8.ofNat (IntKind.u8.wrap (IntKind.u8.wrap (((x / 128 ^ (k + 1) % 128:Nat):Int)) + 128)).toNat=_
        have hm:x / 128 ^ (k + 1) % 128 < 128:=Nat.mod_lt _ (by omega)
        rw [qkg,Nat.mod_eq_of_lt (by omega),show (((x / 128 ^ (k + 1) % 128:Nat):Int)) + 128=((x / 128 ^ (k + 1) % 128 + 128:Nat):Int) by omega,qkg,Nat.mod_eq_of_lt (by omega),Int.toNat_natCast]
        rfl
      have c1:avOK ([hiB x (k + 1)]:List UInt8).length 1 ([hiB x (k + 1)]++dn x k).length 1:=⟨rfl,by rw [List.length_append,qrK]; unfold maxBytes; simp; omega⟩
      unfold qau
      rw [qj,d,cond_true,qg,qa p,qg,qa p]
      dsimp only
      rw [e1,qg,qa (show inB (uAdd .u8 (IntKind.u8.wrap ((((x / 128 ^ (k + 1):Nat):Int)).tmod 128)) 128) from qbc _),e2,qg,qa (Eq.refl (dn x k).length),qg,qa c1,ql]
      rfl
    · have d:decide ((128:Int)≤((x / 128 ^ K:Nat):Int))=false:=decide_eq_false (by omega)
      unfold qau
      rw [qj,d,cond_false,ql]
  rw [Nat.pow_zero,Nat.div_one] at key
  exact key
theorem qx3 {x K:Nat} (hx:x < 18446744073709551616) (hK:K≤9) (h1:x / 128 ^ K < 128) (h2:∀ k < K,128≤x / 128 ^ k):qD N (x:Int)=some (dn x K):=by
  have p:(128:Int)≠0:=by omega
  have e:UInt8.ofNat (IntKind.u8.wrap ((x:Int).tmod 128)).toNat=loB x:=by
    show UInt8.ofNat (IntKind.u8.wrap (((x % 128:Nat):Int))).toNat=_
    rw [qkg,Nat.mod_eq_of_lt (show x % 128 < 256 by omega),Int.toNat_natCast]
    rfl
  unfold qD qd8
  rw [qg,qa p,qg,qa (qbc _),e,run_bind,show chkLs [(([loB x]:List UInt8).length,1)] (Qj N [loB x] (x:Int))=Qj N [loB x] (x:Int) from (qS rfl).trans (qok _),qxg hx hK h1 h2,Option.bind_some,ql]
theorem qpR {n:Int} (h0:0≤n) (h1:n < 18446744073709551616):∃ l:List UInt8,qO N n=some (l,l.length)∧qD N n=some l∧l.length≤10:=by
  obtain ⟨x,rfl⟩:∃ x:Nat,n=(x:Int):=⟨n.toNat,by omega⟩
  obtain ⟨K,hK,g1,g2⟩:=qwf (x:=x) (by omega)
  exact ⟨dn x K,by rw [qrK]; exact qw9 hK g1 g2,qx3 (by omega) hK g1 g2,by rw [qrK]; omega⟩
end
end Go.Rx
end
set_option maxRecDepth 100000
noncomputable section
namespace Go.Rx
open Go.Proofs
theorem qi2 (a:qc):q9 a=some (stB a):=by
  have ez:decide (a=zSt)=(decide (a.1=0)&&decide (a.2=0)):=by
    obtain ⟨n,r⟩:=a
    rw [← Bool.decide_and]
    refine decide_eq_decide.2 ⟨fun h=>?_,fun h=>?_⟩
    · have h1:=congrArg Prod.fst h
      have h2:=congrArg Prod.snd h
      exact ⟨h1,h2⟩
    · obtain ⟨rfl,rfl⟩:=h
      rfl
  unfold q9 qdM stB
  rw [ez]
  show (bif decide (a.1=0) then some (decide (a.2=0)) else bif decide (1≤a.1) then bif decide (a.1≤1099511627776) then bif decide (0≤a.2) then some (decide (a.2 < 8)) else some false else some false else some false)=_
  rw [show decide (1≤a.1)=decide (0 < a.1) from decide_eq_decide.2 (by omega)]
  by_cases h0:a.1=0
  · rw [h0]; cases decide (a.2=0)<;>rfl
  · rw [decide_eq_false h0]
    cases decide (0 < a.1)<;>cases decide (a.1≤1099511627776)<;>cases decide (0≤a.2)<;>cases decide (a.2 < 8)<;>rfl
theorem qtO (a b:qc):qaC a b=some (slB a b):=by
  unfold qaC qda slB
  show (bif decide (a.1 < b.1) then some true else bif decide (a.1=b.1) then some (decide (a.2 < b.2)) else some false)=_
  by_cases h:a.1 < b.1
  · rw [decide_eq_true h,decide_eq_true (show a.1 < b.1∨a.1=b.1∧a.2 < b.2 from Or.inl h)]; rfl
  · rw [decide_eq_false h]
    by_cases h2:a.1=b.1
    · rw [decide_eq_true h2]
      show some (decide (a.2 < b.2))=_
      exact congrArg some (decide_eq_decide.2 (by omega))
    · rw [decide_eq_false h2,decide_eq_false (show ¬(a.1 < b.1∨a.1=b.1∧a.2 < b.2) by omega)]; rfl
theorem qvd (c:qr):qaW c=some (Zh c):=by
  have e2:decide (((c.V.length:Nat):Int)≤200)=decide (c.V.length≤200):=decide_eq_decide.2 (by omega)
  unfold qaW qdz Zh
  rw [run_bind,qi2,Option.bind_some]
  show (bif stB c.S then bif decide (0 < c.S.1) then some (decide (((c.V.length:Nat):Int)≤200)) else some false else some false)=_
  rw [e2]
  cases hs:stB c.S with
  | false=>cases decide (c.S=zSt)<;>rfl
  | true=>
    have hz:decide (0 < c.S.1)=!decide (c.S=zSt):=by
      unfold stB at hs
      by_cases h:c.S=zSt
      · rw [decide_eq_true h,h]; rfl
      · rw [decide_eq_false h] at hs ⊢
        simp only [Bool.false_or,Bool.and_eq_true,decide_eq_true_iff] at hs
        exact decide_eq_true hs.1.1.1
    rw [hz]
    cases decide (c.S=zSt)<;>rfl
section
variable {N:Nat} [BigN N]
theorem qAB (n:Int):∃ m:Nat,IntKind.u64.wrap n=(m:Int)∧m < 18446744073709551616:=⟨(IntKind.u64.wrap n).toNat,by have:=qL n; omega,by have:=qL n; omega⟩
theorem qxA {l:List UInt8} (h:l.length≤1000000):∃ r:List UInt8,qd3 N l=some r∧qaD N l=some r∧r.length≤l.length + 10:=by
  obtain ⟨p,e,e',hp⟩:=qpR (N:=N) (qL ((l.length:Nat):Int)).1 (qL ((l.length:Nat):Int)).2
  have hpl:(p++l).length≤2000000000:=by rw [List.length_append]; omega
  refine ⟨p++l,?_,?_,by rw [List.length_append]; omega⟩
  · unfold qd3 qhO
    show Option.bind (qO N (IntKind.u64.wrap ((l.length:Nat):Int))) _=_
    rw [e,Option.bind_some,qg,qa (zS hpl),qg,qa rfl,ql]
  · unfold qaD qdi
    show Option.bind (qD N (IntKind.u64.wrap ((l.length:Nat):Int))) _=_
    rw [e',Option.bind_some,qg,qa (zS hpl),qg,qa rfl,ql]
end
end Go.Rx
end
set_option maxRecDepth 100000
noncomputable section
namespace Go.Rx
open Go.Proofs
section
variable {N:Nat} [BigN N]
theorem qtV {s:qc} (h:stB s=true):0≤s.1∧s.1≤1099511627776∧0≤s.2∧s.2 < 8:=by
  unfold stB at h
  by_cases hz:s=zSt
  · subst hz
    exact ⟨Int.le_refl _,by decide,Int.le_refl _,by decide⟩
  · rw [decide_eq_false hz] at h
    simp only [Bool.false_or,Bool.and_eq_true,decide_eq_true_iff] at h
    omega
theorem qwe {s:qc} (h:stB s=true):uOr .u64 (uShl .u64 (IntKind.u64.wrap s.1) 3) (IntKind.u64.wrap s.2)=IntKind.u64.wrap ((8:Int) * s.1 + s.2):=by
  obtain ⟨n,r⟩:=s
  obtain ⟨h0,h1,h2,h3⟩:=qtV h
  dsimp only at h0 h1 h2 h3 ⊢
  obtain ⟨x,rfl⟩:∃ x:Nat,n=(x:Int):=⟨n.toNat,by omega⟩
  obtain ⟨y,rfl⟩:∃ y:Nat,r=(y:Int):=⟨r.toNat,by omega⟩
  rw [qeo (by omega),qeo (by omega),show (8:Int) * (x:Int) + (y:Int)=((8 * x + y:Nat):Int) by omega,qeo (by omega)]
  unfold uShl
  rw [show ((x:Nat):Int) * 2 ^ 3=((8 * x:Nat):Int) by omega,qeo (by omega)]
  refine (u64_or_nat (8 * x) y (by omega) (by omega)).trans ?_
  rw [show 8 * x=2 ^ 3 * x by omega,← Nat.two_pow_add_eq_or_of_lt (by omega)]
theorem qAc (s:qc):∃ r:List UInt8×Bool,qce N s=some r∧qa1 N s=some r∧r.1.length≤10:=by
  unfold qce qhN qa1 qdW
  rw [run_bind,qdY,Option.bind_some,run_bind,qi2,Option.bind_some]
  cases hs:stB s with
  | false=>exact ⟨([],false),rfl,rfl,Nat.zero_le _⟩
  | true=>
    obtain ⟨h0,h1,h2,h3⟩:=qtV hs
    have c1:in64 ((8:Int) * (qc.N s)):=by show in64 ((8:Int) * s.1); unfold in64; omega
    have c2:in64 ((8:Int) * (qc.N s) + (qc.Rep s)):=by show in64 ((8:Int) * s.1 + s.2); unfold in64; omega
    obtain ⟨p,e,e',hp⟩:=qpR (N:=N) (n:=IntKind.u64.wrap ((8:Int) * s.1 + s.2)) (qL _).1 (qL _).2
    refine ⟨(p,true),?_,?_,hp⟩
    · rw [qj,Bool.not_true,cond_false,qg,qa (by omega)]
      show Option.bind (qO N (uOr .u64 (uShl .u64 (IntKind.u64.wrap s.1) 3) (IntKind.u64.wrap s.2))) _=_
      rw [qwe hs,e,Option.bind_some,qg,qa rfl,ql]
    · rw [qj,Bool.not_true,cond_false,qg,qa c1,qg,qa c2]
      show Option.bind (qD N (IntKind.u64.wrap ((8:Int) * s.1 + s.2))) _=_
      rw [e',Option.bind_some,qg,qa rfl,ql]
theorem qzi (s:qc):(qaT N s=some (.inl ())∧Z2 N s=some (.inl ()))∨∃ p:List UInt8,qaT N s=some (.inr (p,p.length))∧Z2 N s=some (.inr p)∧p.length≤10:=by
  unfold qaT qfn Z2 qcs
  rw [run_bind,qdY,Option.bind_some,run_bind,qi2,Option.bind_some]
  cases hs:stB s with
  | false=>exact .inl ⟨rfl,rfl⟩
  | true=>
    right
    obtain ⟨h0,h1,h2,h3⟩:=qtV hs
    have c1:in64 ((8:Int) * (qc.N s)):=by show in64 ((8:Int) * s.1); unfold in64; omega
    have c2:in64 ((8:Int) * (qc.N s) + (qc.Rep s)):=by show in64 ((8:Int) * s.1 + s.2); unfold in64; omega
    obtain ⟨p,e,e',hp⟩:=qpR (N:=N) (n:=IntKind.u64.wrap ((8:Int) * s.1 + s.2)) (qL _).1 (qL _).2
    refine ⟨p,?_,?_,hp⟩
    · rw [qj,Bool.not_true,cond_false,qg,qa (by omega)]
      show Option.bind (qO N (uOr .u64 (uShl .u64 (IntKind.u64.wrap s.1) 3) (IntKind.u64.wrap s.2))) _=_
      rw [qwe hs,e,Option.bind_some,ql]
    · rw [qj,Bool.not_true,cond_false,qg,qa c1,qg,qa c2]
      show Option.bind (qD N (IntKind.u64.wrap ((8:Int) * s.1 + s.2))) _=_
      rw [e',Option.bind_some,ql]
theorem qxN {c:qr} (h:Zh c=true):∃ r:List UInt8×Bool,qdx N c=some r∧qa9 N c=some r∧r.1.length≤220:=by
  have hV:c.V.length≤200:=by
    unfold Zh at h
    simp only [Bool.and_eq_true,decide_eq_true_iff] at h
    exact h.2.2
  obtain ⟨t,et,et',ht⟩:=qxA (N:=N) (l:=c.V) (by omega)
  unfold qdx qiW qa9 qdR
  rw [run_bind,qsH,h,Option.bind_some,qj,Bool.not_true,cond_false,run_bind,run_bind,qvd,h,Option.bind_some,qj,Bool.not_true,cond_false,run_bind]
  rcases qzi (N:=N) c.S with ⟨e,e'⟩ | ⟨p,e,e',hp⟩
  · have c1:avOK ([]:List UInt8).length 0 ([]++t).length 1:=⟨rfl,by rw [List.nil_append]; unfold maxBytes; omega⟩
    refine ⟨(t,true),?_,?_,by simp only; omega⟩
    · rw [e,Option.bind_some,qrx,run_bind,et,Option.bind_some,qg,qa c1,qg,qa rfl,ql]
      rfl
    · rw [e',Option.bind_some,qrx,run_bind,et',Option.bind_some,qg,qa c1,qg,qa rfl,ql]
      rfl
  · have hpl:(p++t).length≤2000000000:=by rw [List.length_append]; omega
    refine ⟨(p++t,true),?_,?_,by simp only [List.length_append]; omega⟩
    · rw [e,Option.bind_some,qmV,run_bind,et,Option.bind_some,qg,qa (zS hpl),qg,qa rfl,ql]
    · rw [e',Option.bind_some,qmV,run_bind,et',Option.bind_some,qg,qa (zS hpl),qg,qa rfl,ql]
end
end Go.Rx
end
set_option maxRecDepth 100000
noncomputable section
namespace Go.Rx
open Go.Proofs
theorem qmO {V W Y : Type} {B : V → Tree (V ⊕ W)} {g : W → Option Y} {at_ : Nat → V} {q : Nat → Bool} {n : Nat} {hit fin : W}
    (h1:∀ k,k < n→(B (at_ k)).run some=some (if q k then .inl (at_ (k + 1)) else .inr hit)) (h2:(B (at_ n)).run some=some (.inr fin)) :
    ∀ (m k:Nat),k + m=n→∀ N,m < N→(∀ j,j < k→q j=true)→loopG B g N (at_ k)=g (if allN q n then fin else hit)
  | 0,k,hk,N + 1,_,hq=>by
    obtain rfl:k=n:=by omega
    rw [qX h2,if_pos (ZD.2 hq)]
  | m + 1,k,hk,N + 1,hN,hq=>by
    have h:=h1 k (by omega)
    cases e:q k with
    | true=>
      rw [e,if_pos rfl] at h
      rw [Z1 h]
      exact qmO h1 h2 m (k + 1) (by omega) N (by omega) fun j hj=>by
        by_cases ej:j=k
        · rw [ej]; exact e
        · exact hq j (by omega)
    | false=>
      rw [e,if_neg (by simp)] at h
      rw [qX h,if_neg (fun ha=>by have:=ZD.1 ha k (by omega); rw [e] at this; cases this)]
  | _,_,_,0,hN,_=>by omega
section
variable {N:Nat} [BigN N]
def qiU (l:List qk) (k:Nat):Int:=if k=0 then -1 else (l.getD (k - 1) zF).No
theorem qAn {r : qf} (hN : r.F.length < N) (h62 : r.F.length ≤ 4611686018427387904) :
    ∃ z,qbi N r (-1) 0=some (if allN (fldQ r.F r.Dead) r.F.length then .inr z else .inl ()):=by
  refine ⟨(qiU r.F r.F.length,((r.F.length:Nat):Int),false),?_⟩
  refine (qmO (B:=qal N r) (g:=some) (at_:=fun k=>(qiU r.F k,(k:Int))) (q:=fldQ r.F r.Dead) (n:=r.F.length) (hit:=.inl ()) (fin:=.inr (qiU r.F r.F.length,((r.F.length:Nat):Int),false)) (fun k hk=>?_) ?_ r.F.length 0 (by omega) N hN (fun j hj=>by omega)).trans ?_
  · have h64:in64 ((k:Int) + 1):=by unfold in64; omega
    have hl:qiU r.F (k + 1)=(r.F.getD k zF).No:=by unfold qiU; rw [if_neg (by omega)]; rfl
    have hq:(if k=0 then decide (0≤(r.F.getD k zF).No) else decide ((r.F.getD (k - 1) zF).No < (r.F.getD k zF).No))=!decide ((r.F.getD k zF).No≤qiU r.F k):=by
      rw [← decide_not]
      unfold qiU
      by_cases h0:k=0
      · rw [if_pos h0,if_pos h0]; exact decide_eq_decide.2 (by omega)
      · rw [if_neg h0,if_neg h0]; exact decide_eq_decide.2 (by omega)
    unfold qal fldQ
    rw [hq,qj,dec_lt hk,cond_true,run_bind,getI_D (d:=zF) hk,Option.bind_some,run_bind,qvd,Option.bind_some,run_bind,qtO,Option.bind_some,qj,ql,qj,qj,qj,qg,qa h64,ql,int_succ,hl]
    show (bif !Zh (r.F.getD k zF).C then _ else bif !slB r.Dead (r.F.getD k zF).C.S then _ else bif decide ((r.F.getD k zF).No≤qiU r.F k) then _ else bif decide (8≤(r.F.getD k zF).No) then _ else _)=_
    cases Zh (r.F.getD k zF).C<;>cases slB r.Dead (r.F.getD k zF).C.S<;>cases decide ((r.F.getD k zF).No≤qiU r.F k)<;>cases decide (8≤(r.F.getD k zF).No)<;>rfl
  · unfold qal
    rw [qj,dec_nlt (Nat.lt_irrefl _),cond_false,ql]
  · rfl
theorem qzK {r:qf} (hN:r.F.length < N) (h62:r.F.length≤4611686018427387904):qco N r=some (recB r):=by
  have e0:eqE qo r.Dead (qc.mk 0 0)=decide (r.Dead=zSt):=eqSt _ _
  have d0:decide (((r.F.length:Nat):Int)=0)=decide (r.F.length=0):=decide_eq_decide.2 (by omega)
  obtain ⟨z,ez⟩:=qAn hN h62
  unfold qco qdK recB
  rw [run_bind,qi2,Option.bind_some,qj,ql,qj,d0,qj,e0,ql,run_bind,ez,Option.bind_some]
  cases stB r.Dead<;>cases decide (r.F.length=0)<;>cases decide (r.Dead=zSt)<;>cases allN (fldQ r.F r.Dead) r.F.length<;>rfl
end
end Go.Rx
end
set_option maxRecDepth 100000
noncomputable section
namespace Go.Rx
open Go.Proofs
theorem qwH {l:List UInt8} {k:Nat} (h:k < l.length):l.drop k=l.getD k 0::l.drop (k + 1):=by
  rw [List.drop_eq_getElem_cons h]
  simp [List.getD,List.getElem?_eq_getElem h]
section
variable {N:Nat} [BigN N]
theorem quB {a b : Vector UInt8 16} : ∀ (m k n : Nat), k + m = 16 → m < n →
    loopG (Qy N a b) some n (k:Int)=some (if a.toList.drop k=b.toList.drop k then .inr ((16:Int),false) else .inl (decide (Go.Lib.compareBytes (a.toList.drop k) (b.toList.drop k) < 0)))
  | 0,k,n + 1,hk,_=>by
    obtain rfl:k=16:=by omega
    rw [qX (x:=.inr ((16:Int),false)) (by unfold Qy; rfl) n,if_pos (by rw [List.drop_of_length_le (by simp),List.drop_of_length_le (by simp)])]
  | m + 1,k,n + 1,hk,hn=>by
    have hk16:k < 16:=by omega
    have d1:decide ((k:Int) < 16)=true:=decide_eq_true (by omega)
    have p1:(0:Int)≤(k:Int)∧(k:Int) < ((16:Nat):Int):=by omega
    have p2:(k:Int).toNat < 16:=by rw [Int.toNat_natCast]; exact hk16
    have h64:in64 ((k:Int) + 1):=by unfold in64; omega
    rw [qwH (l:=a.toList) (k:=k) (by simpa using hk16),qwH (l:=b.toList) (k:=k) (by simpa using hk16)]
    by_cases e:a.toList.getD k 0=b.toList.getD k 0
    · have d2:decide ((((a.toList.getD k 0).toNat:Nat):Int)=(((b.toList.getD k 0).toNat:Nat):Int))=true:=decide_eq_true (by rw [e])
      rw [Z1 (v':=((k + 1:Nat):Int)) (by
        unfold Qy
        rw [qj,d1,cond_true,qg,qa p1,qg,qa p2,qg,qa p1,qg,qa p2,qj,Int.toNat_natCast,d2,Bool.not_true,cond_false,qg,qa h64,ql,int_succ]) n]
      rw [quB m (k + 1) n (by omega) (by omega),e]
      have hc:Go.Lib.compareBytes (b.toList.getD k 0::a.toList.drop (k + 1)) (b.toList.getD k 0::b.toList.drop (k + 1))=Go.Lib.compareBytes (a.toList.drop (k + 1)) (b.toList.drop (k + 1)):=by
        show (if _ < _ then _ else if _ < _ then _ else _)=_
        rw [if_neg (UInt8.lt_irrefl _),if_neg (UInt8.lt_irrefl _)]
      rw [hc]
      by_cases e2:a.toList.drop (k + 1)=b.toList.drop (k + 1)
      · rw [if_pos e2,if_pos (by rw [e2])]
      · rw [if_neg e2,if_neg (fun h=>e2 (List.cons.inj h).2)]
    · have e':(a.toList.getD k 0).toNat≠(b.toList.getD k 0).toNat:=fun h=>e (UInt8.toNat_inj.1 h)
      have d2:decide ((((a.toList.getD k 0).toNat:Nat):Int)=(((b.toList.getD k 0).toNat:Nat):Int))=false:=decide_eq_false (by omega)
      rw [qX (x:=.inl (decide ((((a.toList.getD k 0).toNat:Nat):Int) < (((b.toList.getD k 0).toNat:Nat):Int)))) (by
        unfold Qy
        rw [qj,d1,cond_true,qg,qa p1,qg,qa p2,qg,qa p1,qg,qa p2,qj,Int.toNat_natCast,d2,Bool.not_false,cond_true,qg,qa p1,qg,qa (by exact hk16),qg,qa p1,qg,qa (by exact hk16),ql]) n]
      rw [if_neg (fun h=>e (List.cons.inj h).1)]
      refine congrArg (fun x=>some (Sum.inl x)) (decide_eq_decide.2 ?_)
      show _↔(if a.toList.getD k 0 < b.toList.getD k 0 then (-1:Int) else if b.toList.getD k 0 < a.toList.getD k 0 then 1 else _) < 0
      by_cases h:(a.toList.getD k 0).toNat < (b.toList.getD k 0).toNat
      · rw [if_pos (UInt8.lt_iff_toNat_lt.2 h)]; omega
      · rw [if_neg (fun h'=>h (UInt8.lt_iff_toNat_lt.1 h')),if_pos (UInt8.lt_iff_toNat_lt.2 (by omega))]; omega
  | _,_,0,_,hn=>by omega
theorem qt3 (a b:Vector UInt8 16):Qc N a b=some (lbB a b):=by
  have e:qcu N a b 0=some (if a.toList.drop 0=b.toList.drop 0 then .inr ((16:Int),false) else .inl (decide (Go.Lib.compareBytes (a.toList.drop 0) (b.toList.drop 0) < 0))):=quB 16 0 N (by omega) (by have:=big N; omega)
  rw [List.drop_zero,List.drop_zero] at e
  unfold Qc qc2 lbB
  rw [run_bind,e,Option.bind_some]
  by_cases h:a=b
  · rw [if_pos (by rw [h]),decide_eq_true h]; rfl
  · rw [if_neg (fun h'=>h (Vector.toList_inj.1 h')),decide_eq_false h]; rfl
theorem qzt {b : qh} (hN : b.R.length < N) (h62 : b.R.length ≤ 4611686018427387904) (hF : ∀ k, k < b.R.length → (b.R.getD k zR).F.length < N ∧ (b.R.getD k zR).F.length ≤ 4611686018427387904) :
    qde N b 0=some (if allN (recQ b.R) b.R.length then .inr (((b.R.length:Nat):Int),false) else .inl ()):=by
  refine zm (B:=qan N b) (g:=some) (q:=recQ b.R) (fun k hk=>?_) ?_ hN
  · have h64:in64 ((k:Int) + 1):=by unfold in64; omega
    unfold qan
    rw [qj,dec_lt hk,cond_true,run_bind,getI_D (d:=zR) hk,Option.bind_some,run_bind,qzK (hF k hk).1 (hF k hk).2,Option.bind_some,qj,ql,qj,qlt,qg,qg,qa h64,ql,int_succ]
    unfold recQ
    cases recB (b.R.getD k zR) with
    | false=>rfl
    | true=>
      by_cases h0:k=0
      · rw [decide_eq_true h0]; rfl
      · have hp:in64 ((k:Int) - 1):=by unfold in64; omega
        have hk1:k - 1 < b.R.length:=by omega
        rw [decide_eq_false h0,Bool.not_true,cond_false,Bool.not_false,cond_true,qa hp,run_bind,qhF (Nat.pos_of_ne_zero h0),getI_D (d:=zR) hk1,Option.bind_some,run_bind,Option.bind_some,run_bind,qt3,Option.bind_some,qj,ql,qg,qa (show in64 ((k + 1:Nat):Int) by rw [← int_succ]; exact h64),ql]
        cases lbB (b.R.getD (k - 1) zR).ID (b.R.getD k zR).ID<;>rfl
  · unfold qan
    rw [qj,dec_nlt (Nat.lt_irrefl _),cond_false,ql]
theorem qsK {b:qh} (h:qcG N b):qaX N b=some (qbv b):=by
  have e2:decide (((b.R.length:Nat):Int)≤10)=decide (b.R.length≤10):=decide_eq_decide.2 (by omega)
  unfold qaX qeg qbv
  rw [run_bind,qzt h.1 h.2.1 h.2.2,Option.bind_some]
  cases allN (recQ b.R) b.R.length with
  | false=>rfl
  | true=>show (Tree.run some (Tree.ret (decide (((b.R.length:Nat):Int)≤10))))=_; rw [ql,e2]; rfl
end
end Go.Rx
end
set_option maxRecDepth 100000
noncomputable section
namespace Go.Rx
open Go.Proofs
section
variable {N:Nat} [BigN N]
def cW (N:Nat) (c:qr):List UInt8:=((qdx N c).getD ([],false)).1
theorem qv_ {c:qr} (h:Zh c=true):∃ r:List UInt8×Bool,qdx N c=some r∧qa9 N c=some r∧r.1=cW N c∧(cW N c).length≤220:=by
  obtain ⟨r,e,e',hr⟩:=qxN (N:=N) h
  have:cW N c=r.1:=by unfold cW; rw [e]; rfl
  exact ⟨r,e,e',this.symm,by rw [this]; exact hr⟩
def noW (f:qk):UInt8:=UInt8.ofNat (IntKind.u8.wrap f.No).toNat
def fldW (N:Nat) (l:List qk) (k:Nat) (p:List UInt8):List UInt8:=(p++[noW (l.getD k zF)])++cW N (l.getD k zF).C
theorem qsR {l:List qk} (hc:∀ k,k < l.length→Zh (l.getD k zF).C=true) {k:Nat} (hk:k < l.length) (p:List UInt8):(fldW N l k p).length≤p.length + 221:=by
  obtain ⟨_,_,_,_,h⟩:=qv_ (N:=N) (hc k hk)
  unfold fldW
  rw [List.length_append,List.length_append]
  show p.length + 1 + _≤_
  omega
theorem qyH {b : qh} {r : qf} {s6 : Int} {o : List UInt8} (h8 : r.F.length ≤ 8) (hc : ∀ k, k < r.F.length → Zh (r.F.getD k zF).C = true) (ho : o.length ≤ 1000000) :
    qcA N b r s6 o 0=some (qy (fldW N r.F) r.F.length 0 o,((r.F.length:Nat):Int),false):=by
  refine (qz (σ:=List UInt8) (B:=ZL N b r s6) (g:=some) (at_:=fun k p=>(p,(k:Int))) (I:=fun k p=>p.length≤o.length + 221 * k) (f:=fldW N r.F) (n:=r.F.length)
    (fin:=fun p=>(p,((r.F.length:Nat):Int),false)) (fun k p hk hp=>⟨?_,?_⟩) (fun p _=>?_) N 0 o (by omega) (Nat.zero_le _) (by have:=big N; omega))
  · obtain ⟨q,_,e',hq,hl⟩:=qv_ (N:=N) (hc k hk)
    have h64:in64 ((k:Int) + 1):=by unfold in64; omega
    have l1:(p++[noW (r.F.getD k zF)]).length=p.length + 1:=by rw [List.length_append]; rfl
    have l2:((p++[noW (r.F.getD k zF)])++cW N (r.F.getD k zF).C).length=p.length + 1 + (cW N (r.F.getD k zF).C).length:=by rw [List.length_append,l1]
    unfold ZL
    rw [qj,dec_lt hk,cond_true,run_bind,getI_D (d:=zF) hk,Option.bind_some,run_bind,e',Option.bind_some,run_bind,Option.bind_some,qg,qa (qbc _),hq]
    show Tree.run some (Tree.chk (avOK p.length p.length (p++[noW (r.F.getD k zF)]).length 1) (Tree.chk (avOK (p++[noW (r.F.getD k zF)]).length (p++[noW (r.F.getD k zF)]).length ((p++[noW (r.F.getD k zF)])++cW N (r.F.getD k zF).C).length 1) _))=_
    rw [qg,qa (zS (by rw [l1]; omega)),qg,qa (zS (by rw [l2]; omega)),qg,qa h64,ql,int_succ]
    rfl
  · have:=qsR (N:=N) hc hk p
    omega
  · unfold ZL
    rw [qj,dec_nlt (Nat.lt_irrefl _),cond_false,ql]
theorem qxW {l : List qk} {R : List qf} {s23 s24 : Int} {o : List UInt8} (h8 : l.length ≤ 8) (hc : ∀ k, k < l.length → Zh (l.getD k zF).C = true) (ho : o.length ≤ 1000000) :
    qfu N R s23 s24 l ((l.length:Nat):Int) o o.length 0=some (qy (fldW N l) l.length 0 o,(qy (fldW N l) l.length 0 o).length,((l.length:Nat):Int),false):=by
  refine (qz (σ:=List UInt8) (B:=Zi N R s23 s24 l ((l.length:Nat):Int)) (g:=some) (at_:=fun k p=>(p,p.length,(k:Int))) (I:=fun k p=>p.length≤o.length + 221 * k) (f:=fldW N l) (n:=l.length)
    (fin:=fun p=>(p,p.length,((l.length:Nat):Int),false)) (fun k p hk hp=>⟨?_,?_⟩) (fun p _=>?_) N 0 o (by omega) (Nat.zero_le _) (by have:=big N; omega))
  · obtain ⟨q,e',_,hq,hl⟩:=qv_ (N:=N) (hc k hk)
    have h64:in64 ((k:Int) + 1):=by unfold in64; omega
    have l1:(p++[noW (l.getD k zF)]).length=p.length + 1:=by rw [List.length_append]; rfl
    have l2:((p++[noW (l.getD k zF)])++cW N (l.getD k zF).C).length=p.length + 1 + (cW N (l.getD k zF).C).length:=by rw [List.length_append,l1]
    unfold Zi
    rw [qj,dec_lt hk,cond_true,run_bind,getI_D (d:=zF) hk,Option.bind_some,run_bind,e',Option.bind_some,qg,qa (qbc _),hq]
    show Tree.run some (Tree.chk (avOK p.length p.length (p++[noW (l.getD k zF)]).length 1) (Tree.chk (avOK (p++[noW (l.getD k zF)]).length (p++[noW (l.getD k zF)]).length ((p++[noW (l.getD k zF)])++cW N (l.getD k zF).C).length 1) _))=_
    rw [qg,qa (zS (by rw [l1]; omega)),qg,qa (zS (by rw [l2]; omega)),qg,qa h64,ql,int_succ]
    rfl
  · have:=qsR (N:=N) hc hk p
    omega
  · unfold Zi
    rw [qj,dec_nlt (Nat.lt_irrefl _),cond_false,ql]
end
end Go.Rx
end
noncomputable section
namespace Go.Rx
section
variable {α R:Type} {n:α→Option R} {y:Option R}
theorem qR {a:α} (h:n a=y):(Tree.ret a).run n=y:=h
theorem qT {p:Prop} [Decidable p] {t:Tree α} (h:p) (ht:t.run n=y):(Tree.chk p t).run n=y:=(qa h).trans ht
theorem qx {β:Type} {o:Option β} {k:β→Tree α} {x:β} (h:o=some x) (ht:(k x).run n=y):(Tree.bind o k).run n=y:=by subst h; exact ht
theorem w_t {b:Bool} {s t:Tree α} (h:b=true) (hs:s.run n=y):(Tree.cond b s t).run n=y:=by subst h; exact hs
theorem w_f {b:Bool} {s t:Tree α} (h:b=false) (ht:t.run n=y):(Tree.cond b s t).run n=y:=by subst h; exact ht
theorem w_if {b:Bool} {s t:Tree α} {c:Bool} (h:b=c) (hs:c=true→s.run n=y) (ht:c=false→t.run n=y):(Tree.cond b s t).run n=y:=by
  subst h; cases b
  · exact ht rfl
  · exact hs rfl
end
theorem qbs {k:Nat} (h:k≤4611686018427387904):in64 ((k:Int) + 1):=by unfold in64; omega
theorem qzF {k:Nat} (h:k≤4611686018427387904):in64 ((k:Int) - 1):=by unfold in64; omega
end Go.Rx
end
set_option maxRecDepth 100000
noncomputable section
namespace Go.Rx
open Go.Proofs
theorem qz7 (c:UInt8):UInt8.ofNat (((c.toNat:Nat):Int)).toNat=c:=by rw [Int.toNat_natCast,UInt8.ofNat_toNat]
theorem qz5 (c:UInt8):inB ((c.toNat:Nat):Int):=⟨Int.natCast_nonneg _,by have:=c.toNat_lt; omega⟩
section
variable {N:Nat} [BigN N]
theorem qzU {b : qh} {r : qf} {s6 : Int} {o : List UInt8} (ho : o.length ≤ 1000000) :
    qaQ N b r s6 o 0=some (o++r.ID.toList,(16:Int),false):=by
  have e0:qaQ N b r s6 o 0=loopG (QC N b r s6) some N (o++r.ID.toList.take 0,((0:Nat):Int)):=by rw [List.take_zero,List.append_nil]; rfl
  rw [e0]
  refine qz (σ:=Unit) (B:=QC N b r s6) (g:=some) (at_:=fun k _=>(o++r.ID.toList.take k,(k:Int))) (I:=fun _ _=>True) (f:=fun _ s=>s) (n:=16)
    (fin:=fun _=>(o++r.ID.toList,(16:Int),false)) (fun k s hk _=>⟨?_,trivial⟩) (fun s _=>?_) N 0 () trivial (Nat.zero_le _) (by have:=big N; omega)
  · have hl:k < r.ID.toList.length:=by simp; omega
    have e1:o++r.ID.toList.take k++[r.ID.toList.getD k 0]=o++r.ID.toList.take (k + 1):=by
      rw [List.append_assoc,List.take_succ_eq_append_getElem hl,List.getD_eq_getElem?_getD,List.getElem?_eq_getElem hl]; rfl
    have l1:(o++r.ID.toList.take (k + 1)).length≤2000000000:=by rw [List.length_append,List.length_take]; omega
    unfold QC
    refine w_t (decide_eq_true (by simp only; omega)) (qT (by simp only; omega) (qT (by simp only [Int.toNat_natCast]; omega) (qT (qz5 _) ?_)))
    dsimp only
    rw [qz7,Int.toNat_natCast,e1]
    exact qT (zS l1) (qT (qbs (by omega)) (qR (by rw [int_succ])))
  · unfold QC
    exact w_f rfl (qR (by rw [List.take_of_length_le (by simp)]; rfl))
def stW (N:Nat) (s:qc):List UInt8:=((qce N s).getD ([],false)).1
theorem qtR (s:qc):∃ r:List UInt8×Bool,qce N s=some r∧qa1 N s=some r∧r.1=stW N s∧(stW N s).length≤10:=by
  obtain ⟨r,e,e',hr⟩:=qAc (N:=N) s
  have:stW N s=r.1:=by unfold stW; rw [e]; rfl
  exact ⟨r,e,e',this.symm,by rw [this]; exact hr⟩
def nW (N:Nat) (n:Int):List UInt8:=((qO N (IntKind.u64.wrap n)).getD ([],0)).1
theorem qtM (n:Int):qO N (IntKind.u64.wrap n)=some (nW N n,(nW N n).length)∧qD N (IntKind.u64.wrap n)=some (nW N n)∧(nW N n).length≤10:=by
  obtain ⟨l,e,e',hl⟩:=qpR (N:=N) (qL n).1 (qL n).2
  have:nW N n=l:=by unfold nW; rw [e]; rfl
  exact ⟨by rw [this]; exact e,by rw [this]; exact e',by rw [this]; exact hl⟩
def qkd (N:Nat) (r:qf) (p:List UInt8):List UInt8:=((p++r.ID.toList)++stW N r.Dead)++nW N ((r.F.length:Nat):Int)
def recW (N:Nat) (l:List qf) (k:Nat) (p:List UInt8):List UInt8:=qy (fldW N (l.getD k zR).F) (l.getD k zR).F.length 0 (qkd N (l.getD k zR) p)
theorem quw {l:List qk} (hc:∀ k,k < l.length→Zh (l.getD k zF).C=true):∀ (m k:Nat) (p:List UInt8),k + m=l.length→(qy (fldW N l) m k p).length≤p.length + 221 * m
  | 0,k,p,_=>by unfold qy; omega
  | m + 1,k,p,h=>by
    unfold qy
    have h1:=quw hc m (k + 1) (fldW N l k p) (by omega)
    have h2:=qsR (N:=N) hc (show k < l.length by omega) p
    omega
theorem qqX (r:qf) (p:List UInt8):(qkd N r p).length≤p.length + 36:=by
  obtain ⟨_,_,_,_,h1⟩:=qtR (N:=N) r.Dead
  have h2:=(qtM (N:=N) ((r.F.length:Nat):Int)).2.2
  unfold qkd
  simp only [List.length_append,Vector.length_toList]
  omega
theorem qkm {r:qf} (h:recB r=true):∀ k,k < r.F.length→Zh (r.F.getD k zF).C=true:=fun j hj=>(qfE.1 ((qfD.1 h).2.2 j hj)).2.2.1
theorem qsM {l:List qf} {k:Nat} (h:recB (l.getD k zR)=true) (p:List UInt8):(recW N l k p).length≤p.length + 2000:=by
  have h8:=qhI h
  have h1:=quw (N:=N) (qkm h) (l.getD k zR).F.length 0 (qkd N (l.getD k zR) p) (by omega)
  have h2:=qqX (N:=N) (l.getD k zR) p
  unfold recW
  omega
theorem qye {b : qh} {o : List UInt8} (h10 : b.R.length ≤ 10) (hr : ∀ k, k < b.R.length → recB (b.R.getD k zR) = true) (ho : o.length ≤ 10) :
    qc5 N b o 0=some (qy (recW N b.R) b.R.length 0 o,((b.R.length:Nat):Int),false):=by
  refine (qz (σ:=List UInt8) (B:=Z_ N b) (g:=some) (at_:=fun k p=>(p,(k:Int))) (I:=fun k p=>p.length≤10 + 2000 * k) (f:=recW N b.R) (n:=b.R.length)
    (fin:=fun p=>(p,((b.R.length:Nat):Int),false)) (fun k p hk hp=>⟨?_,?_⟩) (fun p _=>?_) N 0 o (by omega) (Nat.zero_le _) (by have:=big N; omega))
  · have hrec:=hr k hk
    obtain ⟨s,_,es,hs,hsl⟩:=qtR (N:=N) (b.R.getD k zR).Dead
    obtain ⟨_,ew,hw⟩:=qtM (N:=N) (((b.R.getD k zR).F.length:Nat):Int)
    have l1:(p++(b.R.getD k zR).ID.toList++stW N (b.R.getD k zR).Dead).length≤2000000000:=by simp only [List.length_append,Vector.length_toList]; omega
    have l2:=qqX (N:=N) (b.R.getD k zR) p
    have e6:=qyH (N:=N) (b:=b) (s6:=(k:Int)) (qhI hrec) (qkm hrec) (o:=qkd N (b.R.getD k zR) p) (by omega)
    unfold Z_
    refine w_t (dec_lt hk) (qx (getI_D (d:=zR) hk) (qx ((qS rfl).trans (qzU (by simp only; omega))) (qx es ?_)))
    rw [hs]
    exact qT (zS l1) (qx ew (qT rfl (qT (zS (by show (qkd N (b.R.getD k zR) p).length≤_; omega)) (qx ((qS rfl).trans e6) (qT (qbs (by omega)) (qR (by rw [int_succ]; rfl)))))))
  · have:=qsM (N:=N) (hr k hk) p
    omega
  · unfold Z_
    exact w_f (dec_nlt (Nat.lt_irrefl _)) (qR (by rw [dec_nlt (Nat.lt_irrefl _)]))
theorem qxZ {R : List qf} {o : List UInt8} (h10 : R.length ≤ 10) (hr : ∀ k, k < R.length → recB (R.getD k zR) = true) (ho : o.length ≤ 10) :
    qgJ N R ((R.length:Nat):Int) o o.length 0=some (qy (recW N R) R.length 0 o,(qy (recW N R) R.length 0 o).length,((R.length:Nat):Int),false):=by
  refine (qz (σ:=List UInt8) (B:=ZC N R ((R.length:Nat):Int)) (g:=some) (at_:=fun k p=>(p,p.length,(k:Int))) (I:=fun k p=>p.length≤10 + 2000 * k) (f:=recW N R) (n:=R.length)
    (fin:=fun p=>(p,p.length,((R.length:Nat):Int),false)) (fun k p hk hp=>⟨?_,?_⟩) (fun p _=>?_) N 0 o (by omega) (Nat.zero_le _) (by have:=big N; omega))
  · have hrec:=hr k hk
    obtain ⟨s,es,_,hs,hsl⟩:=qtR (N:=N) (R.getD k zR).Dead
    obtain ⟨ew,_,hw⟩:=qtM (N:=N) (((R.getD k zR).F.length:Nat):Int)
    have l1:(p++(R.getD k zR).ID.toList++stW N (R.getD k zR).Dead).length≤2000000000:=by simp only [List.length_append,Vector.length_toList]; omega
    have l0:(p++(R.getD k zR).ID.toList).length≤2000000000:=by simp only [List.length_append,Vector.length_toList]; omega
    have l2:=qqX (N:=N) (R.getD k zR) p
    have e6:=qxW (N:=N) (R:=R) (s23:=((R.length:Nat):Int)) (s24:=(k:Int)) (qhI hrec) (qkm hrec) (o:=qkd N (R.getD k zR) p) (by omega)
    unfold ZC
    refine w_t (dec_lt hk) (qx (getI_D (d:=zR) hk) (qx es ?_))
    rw [hs]
    exact qT (zS l0) (qT (zS l1) (qx ew (qT rfl (qT (zS (by show (qkd N (R.getD k zR) p).length≤_; omega)) (qx e6 (qT (qbs (by omega)) (qR (by rw [int_succ]; rfl))))))))
  · have:=qsM (N:=N) (hr k hk) p
    omega
  · unfold ZC
    exact w_f (dec_nlt (Nat.lt_irrefl _)) (qR (by rw [dec_nlt (Nat.lt_irrefl _)]))
def qke (N:Nat) (b:qh):List UInt8:=qy (recW N b.R) b.R.length 0 (nW N ((b.R.length:Nat):Int))
theorem qs0 {l:List qf} (hr:∀ k,k < l.length→recB (l.getD k zR)=true):∀ (m k:Nat) (p:List UInt8),k + m=l.length→(qy (recW N l) m k p).length≤p.length + 2000 * m
  | 0,k,p,_=>by unfold qy; omega
  | m + 1,k,p,h=>by
    unfold qy
    have h1:=qs0 hr m (k + 1) (recW N l k p) (by omega)
    have h2:=qsM (N:=N) (hr k (by omega)) p
    omega
theorem qzQ {b:qh} (hf:qcG N b) (h:qbv b=true):qfO N b=some (qke N b,true)∧qch N b=some (qke N b,true)∧(qke N b).length≤30000:=by
  have hb:=qhS.1 h
  have hr:∀ k,k < b.R.length→recB (b.R.getD k zR)=true:=fun k hk=>(hb.1 k hk).1
  obtain ⟨ew,ew',hw⟩:=qtM (N:=N) ((b.R.length:Nat):Int)
  refine ⟨?_,?_,?_⟩
  · unfold qfO qhL
    exact qx (qtL hf) (w_f (by rw [h]; rfl) (qx ew (qx (qxZ hb.2 hr hw) (qT rfl (qR rfl)))))
  · unfold qch qdN
    exact qx (qsK hf) (w_f (by rw [h]; rfl) (qx ew' (qx ((qS rfl).trans (qye hb.2 hr hw)) (qT rfl (qR rfl)))))
  · have:=qs0 (N:=N) hr b.R.length 0 (nW N ((b.R.length:Nat):Int)) (by omega)
    unfold qke
    omega
theorem qvm {b:qh} (hf:qcG N b) (h:qbv b=true):qaZ N b=some (sumS (qke N b))∧qbj N b=some (sumS (qke N b)):=by
  obtain ⟨e,e',hl⟩:=qzQ hf h
  have hN:=big N
  constructor
  · unfold qaZ qep
    exact qx e (qx (qup (by simp only; omega) (by simp only; omega)) (qR rfl))
  · unfold qbj qb2
    exact qx e' (qx (qvn (by simp only; omega) (by simp only; omega)) (qR rfl))
end
end Go.Rx
end
set_option maxRecDepth 100000
noncomputable section
namespace Go.Rx
open Go.Proofs
theorem qpQ {l : Option (Unit ⊕ (Int × Bool))} {n m : Nat} {q : Nat → Bool} (h : n = m → l = some (if allN q n then .inr (((n : Nat) : Int), false) else .inl ())) :
    (Tree.cond (!decide (((n:Nat):Int)=((m:Nat):Int))) (.ret false) (.bind l fun z=>.sum z (fun _=>.ret false) fun _=>.ret true)).run some=some (decide (n=m)&&allN q n):=by
  have e:decide (((n:Nat):Int)=((m:Nat):Int))=decide (n=m):=decide_eq_decide.2 (by omega)
  rw [qj,e,ql,run_bind]
  by_cases hn:n=m
  · rw [decide_eq_true hn,h hn]
    cases allN q n<;>rfl
  · rw [decide_eq_false hn]; rfl
theorem quf {α:Type} {d:α}:∀ {a b:List α},a.length=b.length→(∀ k,k < a.length→a.getD k d=b.getD k d)→a=b
  | [],[],_,_=>rfl
  | [],_::_,h,_=>by simp at h
  | _::_,[],h,_=>by simp at h
  | x::a,y::b,h,hk=>by
    have h0:=hk 0 (by simp)
    simp only [List.getD_cons_zero] at h0
    rw [h0,quf (a:=a) (b:=b) (by simpa using h) fun k hk'=>by
      have:=hk (k + 1) (by simp; omega)
      simpa using this]
theorem qi3 {t:Ty} {sz:Nat} (a b:List (El t)) (d:El t):(decide (a.length=b.length)&&allN (fun k=>eqE t (a.getD k d) (b.getD k d)) a.length)=eqE (.sl sz t) a b:=by
  refine Bool.eq_iff_iff.2 (Iff.trans ?_ (eqE_iff (.sl sz t) a b).symm)
  rw [Bool.and_eq_true,decide_eq_true_iff,ZD]
  constructor
  · rintro ⟨h1,h2⟩
    exact quf (d:=d) h1 fun k hk=>(eqE_iff t _ _).1 (h2 k hk)
  · intro h
    subst h
    exact ⟨rfl,fun k _=>(eqE_iff t _ _).2 rfl⟩
abbrev zG:qp:=qp.mk 0 (Vector.replicate 32 0)
section n
variable {N:Nat} [BigN N]
theorem qwS {a b:List qp} (ha:a.length≤50000):qcl N a b=some (eqE (.sl 33 qu) a b):=by
  unfold qcl qdP
  rw [qpQ (q:=fun k=>eqE qu (a.getD k zG) (b.getD k zG)) fun hl=>?_]
  · rw [show (decide (a.length=b.length)&&allN (fun k=>eqE qu (a.getD k zG) (b.getD k zG)) a.length)=eqE (.sl 33 qu) a b from qi3 (t:=qu) a b zG]
  · refine zm (B:=qao N a b ((a.length:Nat):Int)) (g:=some) (fun k hk=>?_) ?_ (by have:=big N; omega)
    · have hk2:k < b.length:=by omega
      unfold qao
      rw [qj,dec_lt hk,cond_true,run_bind,getI_D (d:=zG) hk,Option.bind_some,run_bind,getI_D (d:=zG) hk2,Option.bind_some,qj,ql,qg,qa (show in64 ((k:Int) + 1) by unfold in64; omega),ql,int_succ]
      cases eqE qu (a.getD k zG) (b.getD k zG)<;>rfl
    · unfold qao
      rw [qj,dec_nlt (Nat.lt_irrefl _),cond_false,ql]
theorem qy6 (e f:qe):eqE qq e f=(eqE (.i .i64) e.No f.No&&(eqE qo e.S f.S&&(eqE (.i .i64) e.Len f.Len&&(eqE (.ba 32) e.D f.D&&eqE (.sl 33 qu) e.B f.B)))):=by
  show (eqE (.i .i64) _ _&&(eqE qo _ _&&(eqE (.i .i64) _ _&&(eqE (.ba 32) _ _&&(eqE (.sl 33 qu) _ _&&true)))))=_
  rw [Bool.and_true]
  rfl
theorem qvH {e f:qe} (h:e.B.length≤50000):qdo N e f=some (eqE qq e f):=by
  have d1:decide (e.No=f.No)=eqE (.i .i64) e.No f.No:=rfl
  have d2:decide (e.Len=f.Len)=eqE (.i .i64) e.Len f.Len:=rfl
  unfold qdo qeO
  rw [qy6,qj,ql,d1,qj,ql,qj,ql,d2,qj,ql,run_bind,qwS h,Option.bind_some,ql]
  cases eqE (.i .i64) e.No f.No<;>cases eqE qo e.S f.S<;>cases eqE (.i .i64) e.Len f.Len<;>cases eqE (.ba 32) e.D f.D<;>rfl
theorem qwd {a b:List qe} (ha:a.length≤50000) (hB:∀ k,k < a.length→(a.getD k zE).B.length≤50000):ZT N a b=some (eqE (.sl 37 qq) a b):=by
  unfold ZT qbb
  rw [qpQ (q:=fun k=>eqE qq (a.getD k zE) (b.getD k zE)) fun hl=>?_]
  · rw [show (decide (a.length=b.length)&&allN (fun k=>eqE qq (a.getD k zE) (b.getD k zE)) a.length)=eqE (.sl 37 qq) a b from qi3 (t:=qq) a b zE]
  · refine zm (B:=Qf N b a ((a.length:Nat):Int)) (g:=some) (fun k hk=>?_) ?_ (by have:=big N; omega)
    · have hk2:k < b.length:=by omega
      unfold Qf
      rw [qj,dec_lt hk,cond_true,run_bind,getI_D (d:=zE) hk,Option.bind_some,run_bind,getI_D (d:=zE) hk2,Option.bind_some,run_bind,qvH (hB k hk),Option.bind_some,qj,ql,qg,qa (show in64 ((k:Int) + 1) by unfold in64; omega),ql,int_succ]
      cases eqE qq (a.getD k zE) (b.getD k zE)<;>rfl
    · unfold Qf
      rw [qj,dec_nlt (Nat.lt_irrefl _),cond_false,ql]
theorem qy5 (e f:qd):eqE qm e f=(eqE (.ba 16) e.ID f.ID&&(eqE qo e.Dead f.Dead&&eqE (.sl 37 qq) e.F f.F)):=by
  show (eqE (.ba 16) _ _&&(eqE qo _ _&&(eqE (.sl 37 qq) _ _&&true)))=_
  rw [Bool.and_true]
  rfl
theorem qvt {e f:qd} (h:e.F.length≤50000) (hB:∀ k,k < e.F.length→(e.F.getD k zE).B.length≤50000):qdw N e f=some (eqE qm e f):=by
  unfold qdw qeH
  rw [qy5,qj,ql,qj,ql,run_bind,qwd h hB,Option.bind_some,ql]
  cases eqE (.ba 16) e.ID f.ID<;>cases eqE qo e.Dead f.Dead<;>rfl
theorem qwC {a b:List qd} (ha:a.length≤50000) (hF:∀ k,k < a.length→(a.getD k zL).F.length≤50000∧∀ j,j < (a.getD k zL).F.length→((a.getD k zL).F.getD j zE).B.length≤50000):qaz N a b=some (eqE (.sl 19 qm) a b):=by
  unfold qaz qbm
  rw [qpQ (q:=fun k=>eqE qm (a.getD k zL) (b.getD k zL)) fun hl=>?_]
  · rw [show (decide (a.length=b.length)&&allN (fun k=>eqE qm (a.getD k zL) (b.getD k zL)) a.length)=eqE (.sl 19 qm) a b from qi3 (t:=qm) a b zL]
  · refine zm (B:=QF N b a ((a.length:Nat):Int)) (g:=some) (fun k hk=>?_) ?_ (by have:=big N; omega)
    · have hk2:k < b.length:=by omega
      unfold QF
      rw [qj,dec_lt hk,cond_true,run_bind,getI_D (d:=zL) hk,Option.bind_some,run_bind,getI_D (d:=zL) hk2,Option.bind_some,run_bind,qvt (hF k hk).1 (hF k hk).2,Option.bind_some,qj,ql,qg,qa (show in64 ((k:Int) + 1) by unfold in64; omega),ql,int_succ]
      cases eqE qm (a.getD k zL) (b.getD k zL)<;>rfl
    · unfold QF
      rw [qj,dec_nlt (Nat.lt_irrefl _),cond_false,ql]
theorem qyp {m n : qb} (ha : m.L.length ≤ 50000) (hF : ∀ k, k < m.L.length → (m.L.getD k zL).F.length ≤ 50000 ∧ ∀ j, j < (m.L.getD k zL).F.length → ((m.L.getD k zL).F.getD j zE).B.length ≤ 50000) :
    qfp N m n=some (eqE (.ba 32) m.Base n.Base&&eqE (.sl 19 qm) m.L n.L):=by
  unfold qfp qgT
  rw [qj,ql,run_bind,qwC ha hF,Option.bind_some,ql]
  cases eqE (.ba 32) m.Base n.Base<;>rfl
end n
end Go.Rx
end
set_option maxRecDepth 100000
noncomputable section
namespace Go.Rx
open Go.Proofs
section n
variable {N:Nat} [BigN N]
theorem qzn (r:qf):∃ b,QK N r=some b:=by
  unfold QK qdA
  by_cases h:r.F.length≤12
  · have d:decide ((12:Int) < ((r.F.length:Nat):Int))=false:=decide_eq_false (by omega)
    have key:qdf N r 0=some (if allN (fun k=>decide ((r.F.getD k zF).C.V.length≤300)) r.F.length then .inr (((r.F.length:Nat):Int),false) else .inl ()):=by
      refine zm (B:=qat N r) (g:=some) (q:=fun k=>decide ((r.F.getD k zF).C.V.length≤300)) (fun k hk=>?_) ?_ (by have:=big N; omega)
      · unfold qat
        have e:decide ((300:Int) < (((r.F.getD k zF).C.V.length:Nat):Int))=!decide ((r.F.getD k zF).C.V.length≤300):=qmM (c:=300)
        rw [qj,dec_lt hk,cond_true,run_bind,getI_D (d:=zF) hk,Option.bind_some,qj,ql,e,qg,qa (show in64 ((k:Int) + 1) by unfold in64; omega),ql,int_succ]
        cases decide ((r.F.getD k zF).C.V.length≤300)<;>rfl
      · unfold qat
        rw [qj,dec_nlt (Nat.lt_irrefl _),cond_false,ql]
    rw [qj,d,cond_false,run_bind,key,Option.bind_some]
    cases allN (fun k=>decide ((r.F.getD k zF).C.V.length≤300)) r.F.length
    · exact ⟨_,rfl⟩
    · exact ⟨_,rfl⟩
  · have d:decide ((12:Int) < ((r.F.length:Nat):Int))=true:=decide_eq_true (by omega)
    exact ⟨false,by rw [qj,d,cond_true,ql]⟩
theorem qzu (b:qh):∃ x,qcD N b=some x:=by
  unfold qcD qdO
  by_cases h:b.R.length≤14
  · have d:decide ((14:Int) < ((b.R.length:Nat):Int))=false:=decide_eq_false (by omega)
    have key:qc6 N b 0=some (if allN (fun k=>(QK N (b.R.getD k zR)).getD false) b.R.length then .inr (((b.R.length:Nat):Int),false) else .inl ()):=by
      refine zm (B:=qaq N b) (g:=some) (q:=fun k=>(QK N (b.R.getD k zR)).getD false) (fun k hk=>?_) ?_ (by have:=big N; omega)
      · obtain ⟨x,e⟩:=qzn (N:=N) (b.R.getD k zR)
        unfold qaq
        rw [qj,dec_lt hk,cond_true,run_bind,getI_D (d:=zR) hk,Option.bind_some,run_bind,e,Option.bind_some,qj,ql,qg,qa (show in64 ((k:Int) + 1) by unfold in64; omega),ql,int_succ]
        cases x<;>rfl
      · unfold qaq
        rw [qj,dec_nlt (Nat.lt_irrefl _),cond_false,ql]
    rw [qj,d,cond_false,run_bind,key,Option.bind_some]
    cases allN (fun k=>(QK N (b.R.getD k zR)).getD false) b.R.length
    · exact ⟨_,rfl⟩
    · exact ⟨_,rfl⟩
  · have d:decide ((14:Int) < ((b.R.length:Nat):Int))=true:=decide_eq_true (by omega)
    exact ⟨false,by rw [qj,d,cond_true,ql]⟩
end n
theorem qt6 {α β:Type} {f:α→β} {l:List α} {k:Nat} {d:α} {e:β} (h:k < l.length):(l.map f).getD k e=f (l.getD k d):=by
  rw [List.getD_eq_getElem?_getD,List.getD_eq_getElem?_getD,List.getElem?_map,List.getElem?_eq_getElem h]; rfl
theorem qyQ {l:List UInt8} (h:l.length≤200):(sigS l).length≤40:=by
  unfold sigS
  split
  · exact Nat.zero_le _
  · rw [quq]; omega
theorem qxo {b:qh} (h:qbv b=true):(b.R.map qC).length≤10∧∀ k,k < (b.R.map qC).length→((b.R.map qC).getD k zL).F.length≤8∧∀ j,j < ((b.R.map qC).getD k zL).F.length→(((b.R.map qC).getD k zL).F.getD j zE).B.length≤40:=by
  have hb:=qhS.1 h
  rw [List.length_map]
  refine ⟨hb.2,fun k hk=>?_⟩
  have hrec:=(hb.1 k hk).1
  rw [qt6 (d:=zR) hk]
  have e:(qC (b.R.getD k zR)).F=(b.R.getD k zR).F.map zr:=rfl
  rw [e,List.length_map]
  refine ⟨qhI hrec,fun j hj=>?_⟩
  rw [qt6 (d:=zF) hj]
  exact qyQ (qqV (qfE.1 ((qfD.1 hrec).2.2 j hj)).2.2.1)
theorem qsX:∀ l:List qf,∃ M:Nat,∀ k,k < l.length→(l.getD k zR).F.length≤M
  | []=>⟨0,fun k hk=>by simp at hk⟩
  | r::l=>by
    obtain ⟨M,h⟩:=qsX l
    refine ⟨r.F.length + M,fun k hk=>?_⟩
    cases k with
    | zero=>simp
    | succ k=>
      have:=h k (by simpa using hk)
      simp only [List.getD_cons_succ]; omega
theorem qAk (b:qh) (h1:b.R.length≤4611686018427387904) (h2:∀ k,k < b.R.length→(b.R.getD k zR).F.length≤4611686018427387904):∃ M:Nat,∀ N,M≤N→qcG N b:=by
  obtain ⟨M,h⟩:=qsX b.R
  refine ⟨M + b.R.length + 1,fun N hN=>⟨by omega,h1,fun k hk=>⟨by have:=h k hk; omega,h2 k hk⟩⟩⟩
end Go.Rx
end
set_option maxRecDepth 100000
noncomputable section
namespace Go.Rx
open Go.Proofs
theorem qmw {α β:Type} {f:α→β} {l:List α} {k:Nat} {d:α} (h:k < l.length):(l.take k).map f++[f (l.getD k d)]=(l.take (k + 1)).map f:=by
  rw [List.take_succ_eq_append_getElem h,List.map_append,List.getD_eq_getElem?_getD,List.getElem?_eq_getElem h]; rfl
theorem qoW {α β:Type} {f:α→β} {l:List α} {k:Nat}:((l.take k).map f).length≤l.length:=by rw [List.length_map,List.length_take]; omega
section
variable {N:Nat} [BigN N]
theorem qyI {b : qh} {i : Nat} (hi : i < b.R.length) (hrec : recB (b.R.getD i zR) = true) (o o2 : List qd) (o5 o6 : Vector UInt8 32) (o7 : Vector UInt8 16) (o8 : qc) :
    qc_ N o o2 b o5 o6 o7 o8 (i:Int) [] 0=some ((b.R.getD i zR).F.map zr,(((b.R.getD i zR).F.length:Nat):Int),false):=by
  have h8:=qhI hrec
  refine qz (σ:=Unit) (B:=qas N o o2 b o5 o6 o7 o8 (i:Int)) (g:=some) (at_:=fun k _=>(((b.R.getD i zR).F.take k).map zr,(k:Int))) (I:=fun _ _=>True) (f:=fun _ s=>s) (n:=(b.R.getD i zR).F.length)
    (fin:=fun _=>((b.R.getD i zR).F.map zr,(((b.R.getD i zR).F.length:Nat):Int),false)) (fun k s hk _=>⟨?_,trivial⟩) (fun s _=>?_) N 0 () trivial (Nat.zero_le _) (by have:=big N; omega)
  · have hV:=qqV (qkm hrec k hk)
    have hN:=big N
    have cav:avOK (((b.R.getD i zR).F.take k).map zr).length (((b.R.getD i zR).F.take k).map zr).length (((b.R.getD i zR).F.take k).map zr++[zr ((b.R.getD i zR).F.getD k zF)]).length 88:=⟨rfl,by rw [qmw hk]; have:=qoW (f:=zr) (l:=(b.R.getD i zR).F) (k:=k + 1); unfold maxBytes; omega⟩
    unfold qas
    exact qx (getI_D (d:=zR) hi) (w_t (dec_lt hk) (qx (getI_D (d:=zR) hi) (qx (getI_D (d:=zF) hk) (qx (qwU (by omega) (by omega)) (qx (qw4 (by omega)) (qT cav (qT (qbs (by omega)) (qR (by rw [int_succ,← qmw hk]; rfl)))))))))
  · unfold qas
    exact qx (getI_D (d:=zR) hi) (w_f (dec_nlt (Nat.lt_irrefl _)) (qR (by rw [dec_nlt (Nat.lt_irrefl _),List.take_of_length_le (Nat.le_refl _)])))
theorem qzw {b : qh} (h10 : b.R.length ≤ 10) (hr : ∀ k, k < b.R.length → recB (b.R.getD k zR) = true) (o4 o5 : Vector UInt8 32) :
    qdB N [] b o4 o5 [] 0=some (b.R.map qC,((b.R.length:Nat):Int),false):=by
  refine qz (σ:=Unit) (B:=qaP N [] b o4 o5) (g:=some) (at_:=fun k _=>((b.R.take k).map qC,(k:Int))) (I:=fun _ _=>True) (f:=fun _ s=>s) (n:=b.R.length)
    (fin:=fun _=>(b.R.map qC,((b.R.length:Nat):Int),false)) (fun k s hk _=>⟨?_,trivial⟩) (fun s _=>?_) N 0 () trivial (Nat.zero_le _) (by have:=big N; omega)
  · have cav:avOK ((b.R.take k).map qC).length ((b.R.take k).map qC).length ((b.R.take k).map qC++[qC (b.R.getD k zR)]).length 56:=⟨rfl,by rw [qmw hk]; have:=qoW (f:=qC) (l:=b.R) (k:=k + 1); unfold maxBytes; omega⟩
    unfold qaP
    exact w_t (dec_lt hk) (qx (getI_D (d:=zR) hk) (qx (getI_D (d:=zR) hk) (qx ((qS rfl).trans ((qS rfl).trans ((qS rfl).trans (qyI hk (hr k hk) _ _ _ _ _ _)))) (qT rfl (qT cav (qT (qbs (by omega)) (qR (by rw [int_succ,← qmw hk]; rfl))))))))
  · unfold qaP
    exact w_f (dec_nlt (Nat.lt_irrefl _)) (qR (by rw [dec_nlt (Nat.lt_irrefl _),List.take_of_length_le (Nat.le_refl _)]))
theorem qzA {b:qh} (hf:qcG N b) (h:qbv b=false):Zk N b=some (qb.mk (Vector.replicate 32 0) [],false):=by
  unfold Zk qbT
  exact qx (qsK hf) (w_t (by rw [h]; rfl) (qT rfl (qR rfl)))
theorem qxk {b:qh} (hf:qcG N b) (h:qbv b=true):Zk N b=some (qb.mk (sumS (qke N b)) (b.R.map qC),true):=by
  have hb:=qhS.1 h
  unfold Zk qbT
  exact qx (qsK hf) (w_f (by rw [h]; rfl) (qx (qvm hf h).2 (qx ((qS rfl).trans ((qS rfl).trans (qzw hb.2 (fun k hk=>(hb.1 k hk).1) _ _))) (qT rfl (qR rfl)))))
def entR (l:List qe) (dead:qc) (k:Nat):Bool:=
  stB (l.getD k zE).S&&(slB dead (l.getD k zE).S&&((if k=0 then decide (0≤(l.getD k zE).No) else decide ((l.getD (k - 1) zE).No < (l.getD k zE).No))&&(decide ((l.getD k zE).No < 8)&&(decide (0≤(l.getD k zE).Len)&&(decide ((l.getD k zE).Len≤200)&&decide ((((l.getD k zE).B.length:Nat):Int)=blk (l.getD k zE).Len))))))
theorem qmx {l:List qe} {dead:qc} {k:Nat}:entR l dead k=true↔stB (l.getD k zE).S=true∧slB dead (l.getD k zE).S=true∧(if k=0 then 0≤(l.getD k zE).No else (l.getD (k - 1) zE).No < (l.getD k zE).No)∧(l.getD k zE).No < 8∧0≤(l.getD k zE).Len∧(l.getD k zE).Len≤200∧(((l.getD k zE).B.length:Nat):Int)=blk (l.getD k zE).Len:=by
  unfold entR
  simp only [Bool.and_eq_true,decide_eq_true_iff]
  refine and_congr Iff.rfl (and_congr Iff.rfl (and_congr ?_ Iff.rfl))
  split<;>exact decide_eq_true_iff
theorem quh {l:List qe} {dead:qc} {k:Nat}:entQ l dead k=true↔(0≤(l.getD k zE).No∧(l.getD k zE).No < 8∧0≤(l.getD k zE).Len∧(l.getD k zE).Len≤200∧(((l.getD k zE).B.length:Nat):Int)=blk (l.getD k zE).Len∧stB (l.getD k zE).S=true∧slB dead (l.getD k zE).S=true)∧(k=0∨(l.getD (k - 1) zE).No < (l.getD k zE).No):=by
  unfold entQ entB
  simp only [Bool.and_eq_true,decide_eq_true_iff,Bool.or_eq_true,Bool.not_eq_true',decide_eq_false_iff_not,Int.not_le]
theorem qtY {l:List qe} {dead:qc} {n:Nat} (h:∀ k,k < n→entR l dead k=true):∀ k,k < n→0≤(l.getD k zE).No
  | 0,hk=>by have:=(qmx.1 (h 0 hk)).2.2.1; rw [if_pos rfl] at this; exact this
  | k + 1,hk=>by
    have h1:=(qmx.1 (h (k + 1) hk)).2.2.1
    rw [if_neg (by omega),show k + 1 - 1=k by omega] at h1
    have:=qtY h k (by omega)
    omega
theorem qyh {l:List qe} {dead:qc} {n:Nat}:allN (entR l dead) n=allN (entQ l dead) n:=by
  refine Bool.eq_iff_iff.2 ?_
  rw [ZD,ZD]
  constructor
  · intro h k hk
    have h1:=qmx.1 (h k hk)
    refine quh.2 ⟨⟨qtY h k hk,h1.2.2.2.1,h1.2.2.2.2.1,h1.2.2.2.2.2.1,h1.2.2.2.2.2.2,h1.1,h1.2.1⟩,?_⟩
    by_cases h0:k=0
    · exact .inl h0
    · have:=h1.2.2.1
      rw [if_neg h0] at this; exact .inr this
  · intro h k hk
    have h1:=quh.1 (h k hk)
    refine qmx.2 ⟨h1.1.2.2.2.2.2.1,h1.1.2.2.2.2.2.2,?_,h1.1.2.1,h1.1.2.2.1,h1.1.2.2.2.1,h1.1.2.2.2.2.1⟩
    by_cases h0:k=0
    · rw [if_pos h0]; exact h1.1.1
    · rw [if_neg h0]; exact h1.2.resolve_left h0
def qm6 (l:List qe) (k:Nat):Int:=if k=0 then -1 else (l.getD (k - 1) zE).No
theorem qvu {l:List qe} {dead:qc} {k:Nat}:qby (l.getD k zE) (qm6 l k) dead=some (entR l dead k):=by
  have hq:(if k=0 then decide (0≤(l.getD k zE).No) else decide ((l.getD (k - 1) zE).No < (l.getD k zE).No))=!decide ((l.getD k zE).No≤qm6 l k):=by
    rw [← decide_not]
    unfold qm6
    by_cases h0:k=0
    · rw [if_pos h0,if_pos h0]; exact decide_eq_decide.2 (by omega)
    · rw [if_neg h0,if_neg h0]; exact decide_eq_decide.2 (by omega)
  unfold entR
  rw [hq]
  generalize l.getD k zE=e
  unfold qby qcx
  refine qx (qi2 _) (qx (qtO _ _) ?_)
  cases h1:stB e.S with
  | false=>rfl
  | true=>
    refine w_f rfl ?_
    cases h2:slB dead e.S with
    | false=>rfl
    | true=>
      refine w_f rfl (w_if (c:=decide (e.No≤qm6 l k)) rfl (fun h3=>by rw [h3]; rfl) fun h3=>?_)
      rw [h3]
      refine w_if (c:=decide ((8:Int)≤e.No)) rfl (fun h4=>?_) fun h4=>?_
      · rw [decide_eq_false (show ¬ e.No < 8 by have:=of_decide_eq_true h4; omega)]; rfl
      rw [decide_eq_true (show e.No < 8 by have:=of_decide_eq_false h4; omega)]
      refine w_if (c:=decide (e.Len < 0)) rfl (fun h5=>?_) fun h5=>?_
      · rw [decide_eq_false (show ¬ 0≤e.Len by have:=of_decide_eq_true h5; omega)]; rfl
      have g5:0≤e.Len:=by have:=of_decide_eq_false h5; omega
      rw [decide_eq_true g5]
      refine w_if (c:=decide (200 < e.Len)) rfl (fun h6=>?_) fun h6=>?_
      · rw [decide_eq_false (show ¬ e.Len≤200 by have:=of_decide_eq_true h6; omega)]; rfl
      have g6:e.Len≤200:=by have:=of_decide_eq_false h6; omega
      rw [decide_eq_true g6]
      unfold blk
      by_cases h7:e.Len < 24
      · rw [if_pos h7]
        exact w_t (decide_eq_true h7) (qR rfl)
      · rw [if_neg h7]
        have e0:e.Len.tdiv 8=e.Len / 8:=Int.tdiv_eq_ediv_of_nonneg g5
        exact w_f (decide_eq_false h7) (qT (by omega) (qT (by unfold in64; omega) (qR rfl)))
theorem qww {m : qb} {x : qd} {s : Int} (h : x.F.length ≤ 600) :
    ∃ z,qI N m x s (-1) 0=some (if allN (entQ x.F x.Dead) x.F.length then .inr z else .inl ()):=by
  refine ⟨(qm6 x.F x.F.length,((x.F.length:Nat):Int),false),?_⟩
  rw [← qyh]
  refine (qmO (B:=ZZ N m x s) (g:=some) (at_:=fun k=>(qm6 x.F k,(k:Int))) (q:=entR x.F x.Dead) (n:=x.F.length) (hit:=.inl ()) (fin:=.inr (qm6 x.F x.F.length,((x.F.length:Nat):Int),false)) (fun k hk=>?_) ?_ x.F.length 0 (by omega) N (by have:=big N; omega) (fun j hj=>by omega)).trans ?_
  · unfold ZZ
    refine w_t (dec_lt hk) (qx (getI_D (d:=zE) hk) (qx qvu ?_))
    cases entR x.F x.Dead k with
    | false=>rfl
    | true=>
      refine w_f rfl (qx (getI_D (d:=zE) hk) (qT (qbs (by omega)) (qR ?_)))
      rw [int_succ]; rfl
  · unfold ZZ
    exact w_f (dec_nlt (Nat.lt_irrefl _)) (qR (by rw [dec_nlt (Nat.lt_irrefl _)]))
  · split<;>rfl
theorem qyk {m : qb} (h : m.L.length ≤ 600) (hF : ∀ k, k < m.L.length → (m.L.getD k zL).F.length ≤ 600) :
    qc4 N m 0=some (if allN (qgC m.L) m.L.length then .inr (((m.L.length:Nat):Int),false) else .inl ()):=by
  refine zm (B:=Z7 N m) (g:=some) (q:=qgC m.L) (fun k hk=>?_) ?_ (by have:=big N; omega)
  · have e0:eqE qo (m.L.getD k zL).Dead (qc.mk 0 0)=decide ((m.L.getD k zL).Dead=zSt):=eqSt _ _
    obtain ⟨z,ez⟩:=qww (N:=N) (m:=m) (x:=m.L.getD k zL) (s:=(k:Int)) (hF k hk)
    have tail : ∀ c : Bool, (Tree.bind (qI N m (m.L.getD k zL) (k : Int) (-1) 0) fun z3 => Tree.sum z3 (fun _ => .ret (.inr (.inl ()))) fun _ => .chk (in64 ((k : Int) + 1)) (.ret (.inl ((k : Int) + 1) : Int ⊕ (Unit ⊕ (Int × Bool))))).run some =
        some (if allN (entQ (m.L.getD k zL).F (m.L.getD k zL).Dead) (m.L.getD k zL).F.length then .inl ((k + 1:Nat):Int) else .inr (.inl ())):=fun c=>by
      refine qx ez ?_
      split
      · exact qT (qbs (by omega)) (qR (by rw [int_succ]))
      · rfl
    have next : ∀ w : Bool, qgC m.L k = (w && (decide (k = 0) || lbB (m.L.getD (k - 1) zL).ID (m.L.getD k zL).ID)) → qg_ (m.L.getD k zL) = w → w = allN (entQ (m.L.getD k zL).F (m.L.getD k zL).Dead) (m.L.getD k zL).F.length →
        (Tree.cond (decide ((0:Int) < (k:Int))) (.chk (in64 ((k:Int) - 1)) (.bind (getI m.L ((k:Int) - 1)) fun e3=>.bind (Qc N (qd.ID e3) (qd.ID (m.L.getD k zL))) fun r4=>.cond (!r4) (.ret (.inr (.inl ())))
          (Tree.bind (qI N m (m.L.getD k zL) (k:Int) (-1) 0) fun z3=>Tree.sum z3 (fun _=>.ret (.inr (.inl ()))) fun _=>.chk (in64 ((k:Int) + 1)) (.ret (.inl ((k:Int) + 1):Int⊕(Unit⊕(Int×Bool)))))))
          (Tree.bind (qI N m (m.L.getD k zL) (k:Int) (-1) 0) fun z3=>Tree.sum z3 (fun _=>.ret (.inr (.inl ()))) fun _=>.chk (in64 ((k:Int) + 1)) (.ret (.inl ((k:Int) + 1):Int⊕(Unit⊕(Int×Bool)))))).run some =
        some (if qgC m.L k=true then .inl ((k + 1:Nat):Int) else .inr (.inl ())):=fun w hq _ hw=>by
      rw [hq]
      by_cases h0:k=0
      · rw [decide_eq_true h0,Bool.true_or,Bool.and_true]
        refine w_f (decide_eq_false (by omega)) ((tail true).trans ?_)
        rw [hw]
      · rw [decide_eq_false h0,Bool.false_or]
        have hk1:k - 1 < m.L.length:=by omega
        refine w_t (decide_eq_true (by omega)) (qT (qzF (by omega)) (qx (by rw [qhF (Nat.pos_of_ne_zero h0)]; exact getI_D (d:=zL) hk1) (qx (qt3 _ _) ?_)))
        cases lbB (m.L.getD (k - 1) zL).ID (m.L.getD k zL).ID with
        | false=>rw [Bool.and_false]; rfl
        | true=>refine w_f rfl ((tail true).trans ?_); rw [Bool.and_true,hw]
    unfold Z7
    refine w_t (dec_lt hk) (qx (getI_D (d:=zL) hk) (qx (qi2 _) ?_))
    have hl:qg_ (m.L.getD k zL)=(allN (entQ (m.L.getD k zL).F (m.L.getD k zL).Dead) (m.L.getD k zL).F.length&&(stB (m.L.getD k zL).Dead&&(decide (0 < (m.L.getD k zL).F.length)||!decide ((m.L.getD k zL).Dead=zSt)))):=rfl
    have hq:qgC m.L k=(qg_ (m.L.getD k zL)&&(decide (k=0)||lbB (m.L.getD (k - 1) zL).ID (m.L.getD k zL).ID)):=rfl
    cases h1:stB (m.L.getD k zL).Dead with
    | false=>
      rw [hq,hl,h1,Bool.false_and,Bool.and_false,Bool.false_and]; rfl
    | true=>
      refine w_f rfl ?_
      rw [h1,Bool.true_and] at hl
      by_cases h2:(m.L.getD k zL).F.length=0
      · refine w_t (decide_eq_true (by omega)) ?_
        rw [decide_eq_false (show ¬ 0 < (m.L.getD k zL).F.length by omega),Bool.false_or] at hl
        cases h3:decide ((m.L.getD k zL).Dead=zSt) with
        | true=>
          rw [hq,hl,h3,Bool.not_true,Bool.and_false,Bool.false_and]
          exact w_t (e0.trans h3) rfl
        | false=>
          rw [h3,Bool.not_false,Bool.and_true] at hl
          exact w_f (e0.trans h3) (next _ hq rfl hl)
      · rw [decide_eq_true (show 0 < (m.L.getD k zL).F.length by omega),Bool.true_or,Bool.and_true] at hl
        exact w_f (decide_eq_false (by omega)) (next _ hq rfl hl)
  · unfold Z7
    exact w_f (dec_nlt (Nat.lt_irrefl _)) (qR (by rw [dec_nlt (Nat.lt_irrefl _)]))
theorem qw8 {m:qb} (h:m.L.length≤600) (hF:∀ k,k < m.L.length→(m.L.getD k zL).F.length≤600):qci N m=some (mayM m):=by
  have e2:decide (((m.L.length:Nat):Int)≤10)=decide (m.L.length≤10):=decide_eq_decide.2 (by omega)
  unfold qci qdV mayM
  refine qx (qyk h hF) ?_
  cases allN (qgC m.L) m.L.length with
  | false=>rfl
  | true=>exact qR (by rw [e2]; rfl)
end
end Go.Rx
end
set_option maxRecDepth 100000
noncomputable section
namespace Go.Rx
open Go.Proofs
section
variable {N:Nat} [BigN N]
theorem qzR {m : qb} {i : Nat} (hi : i < m.L.length) (h12 : (m.L.getD i zL).F.length ≤ 12) :
    qdb N m (i:Int) 0=some (if allN (fun k=>decide (((m.L.getD i zL).F.getD k zE).B.length≤40)) (m.L.getD i zL).F.length then .inr ((((m.L.getD i zL).F.length:Nat):Int),false) else .inl ()):=by
  refine zm (B:=qar N m (i:Int)) (g:=some) (q:=fun k=>decide (((m.L.getD i zL).F.getD k zE).B.length≤40)) (fun k hk=>?_) ?_ (by have:=big N; omega)
  · unfold qar
    refine qx (getI_D (d:=zL) hi) (w_t (dec_lt hk) (qx (getI_D (d:=zL) hi) (qx (getI_D (d:=zE) hk) (w_if (qmM (c:=40)) (fun h=>?_) fun h=>qT (qbs (by omega)) (qR ?_)))))
    · rw [if_neg (by rw [Bool.not_eq_true'] at h; rw [h]; simp)]; rfl
    · rw [Bool.not_eq_false'] at h; rw [if_pos h,int_succ]
  · unfold qar
    exact qx (getI_D (d:=zL) hi) (w_f (dec_nlt (Nat.lt_irrefl _)) (qR (by rw [dec_nlt (Nat.lt_irrefl _)])))
theorem qzy {m : qb} (h14 : m.L.length ≤ 14) :
    qc9 N m 0=some (if allN (fun k=>fewL (m.L.getD k zL)) m.L.length then .inr (((m.L.length:Nat):Int),false) else .inl ()):=by
  refine zm (B:=qac N m) (g:=some) (q:=fun k=>fewL (m.L.getD k zL)) (fun k hk=>?_) ?_ (by have:=big N; omega)
  · unfold qac fewL
    refine w_t (dec_lt hk) (qx (getI_D (d:=zL) hk) (w_if (qmM (c:=12)) (fun h=>?_) fun h=>?_))
    · rw [Bool.not_eq_true'] at h; rw [h]; rfl
    · rw [Bool.not_eq_false'] at h
      refine qx (qzR hk (of_decide_eq_true h)) ?_
      rw [h,Bool.true_and]
      cases allN (fun j=>decide (((m.L.getD k zL).F.getD j zE).B.length≤40)) (m.L.getD k zL).F.length with
      | false=>rfl
      | true=>exact qT (qbs (by omega)) (qR (by rw [int_succ]; rfl))
  · unfold qac
    exact w_f (dec_nlt (Nat.lt_irrefl _)) (qR (by rw [dec_nlt (Nat.lt_irrefl _)]))
theorem qvk (m:qb):qa3 N m=some (fewM m):=by
  unfold qa3 qd0 fewM
  refine w_if (qmM (c:=14)) (fun h=>?_) fun h=>?_
  · rw [Bool.not_eq_true'] at h; rw [h]; rfl
  · rw [Bool.not_eq_false'] at h
    refine qx (qzy (of_decide_eq_true h)) ?_
    rw [h,Bool.true_and]
    cases allN (fun k=>fewL (m.L.getD k zL)) m.L.length<;>rfl
end
end Go.Rx
end
set_option maxRecDepth 100000
noncomputable section
namespace Go.Rx
open Go.Proofs
section
variable {N:Nat} [BigN N]
theorem qwc {a b:List qp} (ha:a.length≤50000):qbR N a b=some (eqE (.sl 33 qu) a b):=by
  unfold qbR qcZ
  rw [qpQ (q:=fun k=>eqE qu (a.getD k zG) (b.getD k zG)) fun hl=>?_]
  · rw [show (decide (a.length=b.length)&&allN (fun k=>eqE qu (a.getD k zG) (b.getD k zG)) a.length)=eqE (.sl 33 qu) a b from qi3 (t:=qu) a b zG]
  · refine zm (B:=ZY N a b) (g:=some) (fun k hk=>?_) ?_ (by have:=big N; omega)
    · have hk2:k < b.length:=by omega
      unfold ZY
      refine w_t (dec_lt hk) (qx (getI_D (d:=zG) hk) (qx (getI_D (d:=zG) hk2) ?_))
      cases eqE qu (a.getD k zG) (b.getD k zG) with
      | false=>rfl
      | true=>exact w_f rfl (qT (qbs (by omega)) (qR (by rw [int_succ]; rfl)))
    · unfold ZY
      exact w_f (dec_nlt (Nat.lt_irrefl _)) (qR (by rw [dec_nlt (Nat.lt_irrefl _)]))
theorem qwx {e f:qe} (h:e.B.length≤50000):qaR N e f=some (eqE qq e f):=by
  have d1:decide (e.No=f.No)=eqE (.i .i64) e.No f.No:=rfl
  have d2:decide (e.Len=f.Len)=eqE (.i .i64) e.Len f.Len:=rfl
  unfold qaR qbL
  refine qx (qwc h) ?_
  rw [qy6,qj,qj,d1,qj,qj,d2,ql,ql]
  cases eqE (.i .i64) e.No f.No<;>cases eqE qo e.S f.S<;>cases eqE (.i .i64) e.Len f.Len<;>cases eqE (.ba 32) e.D f.D<;>cases eqE (.sl 33 qu) e.B f.B<;>rfl
theorem qyL {e f:qd} (h:e.F.length≤50000) (hB:∀ k,k < e.F.length→(e.F.getD k zE).B.length≤50000):qbA N e f=some (eqE qm e f):=by
  unfold qbA qcq
  rw [qy5,qj,ql,qj,ql]
  rw [qpQ (q:=fun k=>eqE qq (e.F.getD k zE) (f.F.getD k zE)) fun hl=>?_]
  · rw [show (decide (e.F.length=f.F.length)&&allN (fun k=>eqE qq (e.F.getD k zE) (f.F.getD k zE)) e.F.length)=eqE (.sl 37 qq) e.F f.F from qi3 (t:=qq) e.F f.F zE]
    cases eqE (.ba 16) e.ID f.ID<;>cases eqE qo e.Dead f.Dead<;>rfl
  · refine zm (B:=Zx N e f) (g:=some) (fun k hk=>?_) ?_ (by have:=big N; omega)
    · have hk2:k < f.F.length:=by omega
      unfold Zx
      refine w_t (dec_lt hk) (qx (getI_D (d:=zE) hk) (qx (getI_D (d:=zE) hk2) (qx (qwx (hB k hk)) ?_)))
      cases eqE qq (e.F.getD k zE) (f.F.getD k zE) with
      | false=>rfl
      | true=>exact w_f rfl (qT (qbs (by omega)) (qR (by rw [int_succ]; rfl)))
    · unfold Zx
      exact w_f (dec_nlt (Nat.lt_irrefl _)) (qR (by rw [dec_nlt (Nat.lt_irrefl _)]))
theorem qsT {m n : qb} (ha : m.L.length ≤ 50000) (hF : ∀ k, k < m.L.length → (m.L.getD k zL).F.length ≤ 50000 ∧ ∀ j, j < (m.L.getD k zL).F.length → ((m.L.getD k zL).F.getD j zE).B.length ≤ 50000) :
    Qe N m n=some (eqE (.ba 32) m.Base n.Base&&eqE (.sl 19 qm) m.L n.L):=by
  unfold Qe qc3
  rw [qj,ql]
  rw [qpQ (q:=fun k=>eqE qm (m.L.getD k zL) (n.L.getD k zL)) fun hl=>?_]
  · rw [show (decide (m.L.length=n.L.length)&&allN (fun k=>eqE qm (m.L.getD k zL) (n.L.getD k zL)) m.L.length)=eqE (.sl 19 qm) m.L n.L from qi3 (t:=qm) m.L n.L zL]
    cases eqE (.ba 32) m.Base n.Base<;>rfl
  · refine zm (B:=ZM N m n) (g:=some) (fun k hk=>?_) ?_ (by have:=big N; omega)
    · have hk2:k < n.L.length:=by omega
      unfold ZM
      refine w_t (dec_lt hk) (qx (getI_D (d:=zL) hk) (qx (getI_D (d:=zL) hk2) (qx (qyL (hF k hk).1 (hF k hk).2) ?_)))
      cases eqE qm (m.L.getD k zL) (n.L.getD k zL) with
      | false=>rfl
      | true=>exact w_f rfl (qT (qbs (by omega)) (qR (by rw [int_succ]; rfl)))
    · unfold ZM
      exact w_f (dec_nlt (Nat.lt_irrefl _)) (qR (by rw [dec_nlt (Nat.lt_irrefl _)]))
theorem qzZ {x y:Bool} (hx:x=true) (hy:y=true):some (x&&y)=some true:=by subst hx; subst hy; rfl
theorem qqI {m:qb} (ha:m.L.length≤50000) (hF:∀ k,k < m.L.length→(m.L.getD k zL).F.length≤50000∧∀ j,j < (m.L.getD k zL).F.length→((m.L.getD k zL).F.getD j zE).B.length≤50000):Qe N m m=some true:=
  (qsT ha hF).trans (qzZ ((eqE_iff (.ba 32) _ _).2 rfl) ((eqE_iff (.sl 19 qm) _ _).2 rfl))
theorem qq8 {b:qh} (hf:qcG N b) (m n:qb):qH N b m n=some true:=by
  obtain ⟨p,ep⟩:=qzu (N:=N) b
  unfold qH ZE
  refine qx (show qvJ=some true from rfl) (qx ep (qx (qvk m) (qx (qvk n) (w_f rfl ?_))))
  cases p with
  | false=>rfl
  | true=>
    refine w_f rfl ?_
    cases hm:fewM m with
    | false=>rfl
    | true=>
      refine w_f rfl ?_
      cases hn:fewM n with
      | false=>rfl
      | true=>
        have fm:=qzk.1 hm
        have key:∃ x:qb×Bool,qbO N b=some x∧Zk N b=some x∧Qe N x.1 x.1=some true:=by
          cases h:qbv b with
          | false=>
            exact ⟨_,qAi hf h,qzA hf h,qqI (m:=qb.mk (Vector.replicate 32 0) []) (Nat.zero_le _) (fun k hk=>absurd hk (Nat.not_lt_zero _))⟩
          | true=>
            have hs:=qxo h
            exact ⟨_,qAb hf h (qvm hf h).1,qxk hf h,qqI (m:=qb.mk (sumS (qke N b)) (b.R.map qC)) (by have:=hs.1; show (b.R.map qC).length≤_; omega) (fun k hk=>⟨by have:=(hs.2 k hk).1; show ((b.R.map qC).getD k zL).F.length≤_; omega,fun j hj=>by have:=(hs.2 k hk).2 j hj; show (((b.R.map qC).getD k zL).F.getD j zE).B.length≤_; omega⟩)⟩
        obtain ⟨x,e1,e2,e3⟩:=key
        have g1:m.L.length≤600:=by omega
        have g2:∀ k,k < m.L.length→(m.L.getD k zL).F.length≤600:=fun k hk=>by have:=(fm.2 k hk).1; omega
        have g3:∀ k,k < m.L.length→(m.L.getD k zL).F.length≤50000∧∀ j,j < (m.L.getD k zL).F.length→((m.L.getD k zL).F.getD j zE).B.length≤50000:=fun k hk=>⟨by have:=(fm.2 k hk).1; omega,fun j hj=>by have:=(fm.2 k hk).2 j hj; omega⟩
        refine w_f rfl (qx e1 (qx e2 (qx e3 (qx (qw8 g1 g2) (qx (qsT (by omega) g3) (w_t rfl (w_t ((eqE_iff .b _ _).2 rfl) (qx (qAh g1 g2) (w_t ((eqE_iff .b _ _).2 rfl) (qx (qyp (by omega) g3) (qR ?_)))))))))))
        exact congrArg some ((eqE_iff .b _ _).2 rfl)
end
theorem manifestTells (b:qh) (m n:qb) (h1:b.R.length≤4611686018427387904) (h2:∀ k,k < b.R.length→(b.R.getD k zR).F.length≤4611686018427387904):∃ N:Nat,qH N b m n=some true:=by
  obtain ⟨M,hM⟩:=qAk b h1 h2
  have:BigN (100000 + M):=BigN.of (by omega)
  exact ⟨_,qq8 (hM (100000 + M) (by omega)) m n⟩
end Go.Rx
end
