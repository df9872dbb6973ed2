/- A part of the proof of OpDoes: the law returns true for every input, and its arguments read as before. No condition. -/
import Derived.Test.YtigkkdoljkhcfaaGreatRows
import Derived.ProofKit
import Derived.Test.YtigkkdoljkhcfaaGreatOpDoesH
set_option linter.unusedSimpArgs false
set_option linter.unusedVariables false
set_option linter.unusedSectionVars false
set_option maxRecDepth 100000
namespace Go.Rx
open Go.Proofs
instance qV6:RB:=⟨reachBytes⟩
theorem qro (n:Nat) (x:PV) (h:TyP Tryz.prog n 23 x):∃ a:Vector UInt8 16,x=qC (.ba 16) a∧True:=qKY Tryz.underlying23 (by kernel_rfl) h
theorem KR (n:Nat) (x:PV) (h:TyP Tryz.prog n 3 x):∃ a:Int,x=qC (.i .i64) a∧qj (a):=qVs Tryz.underlying3 h
structure qe.ok (x:qe):Prop where
 N:qj (qe.N x)
 Rep:qj (qe.Rep x)
theorem qqS (n:Nat) (x:PV) (h:TyP Tryz.prog n 25 x):∃ a:qe,x=qC qm a∧qe.ok a:=by
 obtain ⟨xs,rfl,m,hp0⟩:=qdg Tryz.underlying25 h
 obtain ⟨y0,zs0,rfl,h0,hp1⟩:=jh hp0
 obtain ⟨a0,rfl,k0⟩:=KR _ _ h0
 obtain ⟨y1,zs1,rfl,h1,hp2⟩:=jh hp1
 obtain ⟨a1,rfl,k1⟩:=KR _ _ h1
 obtain rfl:=qc7 hp2
 exact ⟨qe.mk a0 a1,rfl,⟨k0,k1⟩⟩
theorem qwJ (n:Nat) (x:PV) (h:TyP Tryz.prog n 9 x):∃ a:List UInt8,x=qC .s a∧(a).length≤reachBytes:=qVO Tryz.underlying9 h
structure qf.ok (x:qf):Prop where
 S:qe.ok (qf.S x)
 V:(qf.V x).length≤reachBytes
theorem qMz (n:Nat) (x:PV) (h:TyP Tryz.prog n 56 x):∃ a:qf,x=qC qt a∧qf.ok a:=by
 obtain ⟨xs,rfl,m,hp0⟩:=qdg Tryz.underlying56 h
 obtain ⟨y0,zs0,rfl,h0,hp1⟩:=jh hp0
 obtain ⟨a0,rfl,k0⟩:=qqS _ _ h0
 obtain ⟨y1,zs1,rfl,h1,hp2⟩:=jh hp1
 obtain ⟨a1,rfl,k1⟩:=qwJ _ _ h1
 obtain rfl:=qc7 hp2
 exact ⟨qf.mk a0 a1,rfl,⟨k0,k1⟩⟩
structure qg.ok (x:qg):Prop where
 No:qj (qg.No x)
 C:qf.ok (qg.C x)
theorem qLI (n:Nat) (x:PV) (h:TyP Tryz.prog n 63 x):∃ a:qg,x=qC qA a∧qg.ok a:=by
 obtain ⟨xs,rfl,m,hp0⟩:=qdg Tryz.underlying63 h
 obtain ⟨y0,zs0,rfl,h0,hp1⟩:=jh hp0
 obtain ⟨a0,rfl,k0⟩:=KR _ _ h0
 obtain ⟨y1,zs1,rfl,h1,hp2⟩:=jh hp1
 obtain ⟨a1,rfl,k1⟩:=qMz _ _ h1
 obtain rfl:=qc7 hp2
 exact ⟨qg.mk a0 a1,rfl,⟨k0,k1⟩⟩
theorem qLT (n:Nat) (x:PV) (h:TyP Tryz.prog n 50 x):∃ a:List qg,x=qC (.sl 4 qA) a∧((a).length * 40≤reachBytes∧∀ ea∈a,qg.ok ea):=qDI Tryz.underlying50 (by kernel_rfl) (by kernel_rfl) (by kernel_rfl) qLI h
structure qa.ok (x:qa):Prop where
 ID:True
 qW:qe.ok (qa.qW x)
 F:((qa.F x).length * 40≤reachBytes∧∀ eT_api_RecFx∈qa.F x,qg.ok eT_api_RecFx)
theorem qMy (n:Nat) (x:PV) (h:TyP Tryz.prog n 52 x):∃ a:qa,x=qC qh a∧qa.ok a:=by
 obtain ⟨xs,rfl,m,hp0⟩:=qdg Tryz.underlying52 h
 obtain ⟨y0,zs0,rfl,h0,hp1⟩:=jh hp0
 obtain ⟨a0,rfl,k0⟩:=qro _ _ h0
 obtain ⟨y1,zs1,rfl,h1,hp2⟩:=jh hp1
 obtain ⟨a1,rfl,k1⟩:=qqS _ _ h1
 obtain ⟨y2,zs2,rfl,h2,hp3⟩:=jh hp2
 obtain ⟨a2,rfl,k2⟩:=qLT _ _ h2
 obtain rfl:=qc7 hp3
 exact ⟨qa.mk a0 a1 a2,rfl,⟨k0,k1,k2⟩⟩
theorem qLM (n:Nat) (x:PV) (h:TyP Tryz.prog n 41 x):∃ a:List qa,x=qC (.sl 19 qh) a∧((a).length * 56≤reachBytes∧∀ ea∈a,qa.ok ea):=qDI Tryz.underlying41 (by kernel_rfl) (by kernel_rfl) (by kernel_rfl) qMy h
structure qc.ok (x:qc):Prop where
 R:((qc.R x).length * 56≤reachBytes∧∀ eT_api_BookRx∈qc.R x,qa.ok eT_api_BookRx)
theorem qMe (n:Nat) (x:PV) (h:TyP Tryz.prog n 43 x):∃ a:qc,x=qC qn a∧qc.ok a:=by
 obtain ⟨xs,rfl,m,hp0⟩:=qdg Tryz.underlying43 h
 obtain ⟨y0,zs0,rfl,h0,hp1⟩:=jh hp0
 obtain ⟨a0,rfl,k0⟩:=qLM _ _ h0
 obtain rfl:=qc7 hp1
 exact ⟨qc.mk a0,rfl,⟨k0⟩⟩
theorem qPR (n:Nat) (x:PV) (h:TyP Tryz.prog n 4 x):∃ a:Bool,x=qC .b a∧True:=qT2 Tryz.underlying4 h
structure qb.ok (x:qb):Prop where
 zV:True
 zm:qj (qb.zm x)
 Len:qj (qb.Len x)
 Lit:(qb.Lit x).length≤reachBytes
theorem qMr (n:Nat) (x:PV) (h:TyP Tryz.prog n 67 x):∃ a:qb,x=qC qw a∧qb.ok a:=by
 obtain ⟨xs,rfl,m,hp0⟩:=qdg Tryz.underlying67 h
 obtain ⟨y0,zs0,rfl,h0,hp1⟩:=jh hp0
 obtain ⟨a0,rfl,k0⟩:=qPR _ _ h0
 obtain ⟨y1,zs1,rfl,h1,hp2⟩:=jh hp1
 obtain ⟨a1,rfl,k1⟩:=KR _ _ h1
 obtain ⟨y2,zs2,rfl,h2,hp3⟩:=jh hp2
 obtain ⟨a2,rfl,k2⟩:=KR _ _ h2
 obtain ⟨y3,zs3,rfl,h3,hp4⟩:=jh hp3
 obtain ⟨a3,rfl,k3⟩:=qwJ _ _ h3
 obtain rfl:=qc7 hp4
 exact ⟨qb.mk a0 a1 a2 a3,rfl,⟨k0,k1,k2,k3⟩⟩
theorem qMj (n:Nat) (x:PV) (h:TyP Tryz.prog n 26 x):∃ a:List qb,x=qC (.sl 4 qw) a∧((a).length * 40≤reachBytes∧∀ ea∈a,qb.ok ea):=qDI Tryz.underlying26 (by kernel_rfl) (by kernel_rfl) (by kernel_rfl) qMr h
theorem qMu (n:Nat) (x:PV) (h:TyP Tryz.prog n 28 x):∃ a:Vector UInt8 32,x=qC (.ba 32) a∧True:=qKY Tryz.underlying28 (by kernel_rfl) h
structure qd.ok (x:qd):Prop where
 Kind:qj (qd.Kind x)
 ID:True
 S:qe.ok (qd.S x)
 No:qj (qd.No x)
 V:(qd.V x).length≤reachBytes
 P:((qd.P x).length * 40≤reachBytes∧∀ eT_api_OpPx∈qd.P x,qb.ok eT_api_OpPx)
 zm:True
 jV:qj (qd.jV x)
 D:True
theorem qLK (n:Nat) (x:PV) (h:TyP Tryz.prog n 30 x):∃ a:qd,x=qC zk a∧qd.ok a:=by
 obtain ⟨xs,rfl,m,hp0⟩:=qdg Tryz.underlying30 h
 obtain ⟨y0,zs0,rfl,h0,hp1⟩:=jh hp0
 obtain ⟨a0,rfl,k0⟩:=KR _ _ h0
 obtain ⟨y1,zs1,rfl,h1,hp2⟩:=jh hp1
 obtain ⟨a1,rfl,k1⟩:=qro _ _ h1
 obtain ⟨y2,zs2,rfl,h2,hp3⟩:=jh hp2
 obtain ⟨a2,rfl,k2⟩:=qqS _ _ h2
 obtain ⟨y3,zs3,rfl,h3,hp4⟩:=jh hp3
 obtain ⟨a3,rfl,k3⟩:=KR _ _ h3
 obtain ⟨y4,zs4,rfl,h4,hp5⟩:=jh hp4
 obtain ⟨a4,rfl,k4⟩:=qwJ _ _ h4
 obtain ⟨y5,zs5,rfl,h5,hp6⟩:=jh hp5
 obtain ⟨a5,rfl,k5⟩:=qMj _ _ h5
 obtain ⟨y6,zs6,rfl,h6,hp7⟩:=jh hp6
 obtain ⟨a6,rfl,k6⟩:=qro _ _ h6
 obtain ⟨y7,zs7,rfl,h7,hp8⟩:=jh hp7
 obtain ⟨a7,rfl,k7⟩:=KR _ _ h7
 obtain ⟨y8,zs8,rfl,h8,hp9⟩:=jh hp8
 obtain ⟨a8,rfl,k8⟩:=qMu _ _ h8
 obtain rfl:=qc7 hp9
 exact ⟨qd.mk a0 a1 a2 a3 a4 a5 a6 a7 a8,rfl,⟨k0,k1,k2,k3,k4,k5,k6,k7,k8⟩⟩
theorem qLz (law:∀ (b0:qc) (b1:qd),qc.ok b0→qd.ok b1→∃ N:Nat,ZB N b0 b1=some true) (xs:List PV) (hp0:qiw (TyP Tryz.prog 12) [43,30] xs):Valid Tryz.prog 0 (.fn (.func 4) [] []) (xs.map .pv) [] (.ret (.pv (.b true))) []:=by
 obtain ⟨y0,zs0,rfl,h0,hp1⟩:=jh hp0
 obtain ⟨a0,rfl,k0⟩:=qMe _ _ h0
 obtain ⟨y1,zs1,rfl,h1,hp2⟩:=jh hp1
 obtain ⟨a1,rfl,k1⟩:=qLK _ _ h1
 obtain rfl:=qc7 hp2
 obtain ⟨N,hN⟩:=law a0 a1 k0 k1
 exact qmy N (a0,a1,()) true hN 0
end Go.Rx
namespace Go.Proofs.YtigkkdoljkhcfaaGreat
open Go.Rx Go.ChangeShapes Go.WideShapes Go.ChangeAt Go.RowKit
theorem qM7:ownKnob Tryz.prog.godebug=none:=by kernel_rfl
theorem qJR:laidOutB Tryz.prog=true:=by kernel_rfl
theorem qN4:Tryz.f4.body=some qKD:=by kernel_rfl
theorem qFw (law : ∀ (b0 : qc) (b1 : qd), qc.ok b0 → qd.ok b1 → ∃ N : Nat, ZB N b0 b1 = some true) (os : Os) (started : os.Started) (H : Type) (enc : TypeId × Value → H) :
    ReturnsInHanded {} Tryz.checked os 4 .any (Rows.opDoesSpec.pre6 enc Tryz.prog Tryz.f4 Rows.opDoesRow.domain false) (Rows.opDoesSpec.post enc Tryz.prog Tryz.f4 false true false false):=by
 refine returnsInHanded_of_change_sized (C:=Tryz.checked) qM7 started (by kernel_rfl) Tryz.func4
  (ChangeSpec.witness6 (enc:=enc) (C:=Tryz.checked) false ⟨#[],#[.agg #[.slice none 0 0],.agg #[.int .i64 0,.int .u8 0,.int .u8 0,.int .u8 0,.int .u8 0,.int .u8 0,.int .u8 0,.int .u8 0,.int .u8 0,.int .u8 0,.int .u8 0,.int .u8 0,.int .u8 0,.int .u8 0,.int .u8 0,.int .u8 0,.int .u8 0,.int .i64 0,.int .i64 0,.int .i64 0,.string ⟨#[]⟩,.slice none 0 0,.int .u8 0,.int .u8 0,.int .u8 0,.int .u8 0,.int .u8 0,.int .u8 0,.int .u8 0,.int .u8 0,.int .u8 0,.int .u8 0,.int .u8 0,.int .u8 0,.int .u8 0,.int .u8 0,.int .u8 0,.int .u8 0,.int .i64 0,.int .u8 0,.int .u8 0,.int .u8 0,.int .u8 0,.int .u8 0,.int .u8 0,.int .u8 0,.int .u8 0,.int .u8 0,.int .u8 0,.int .u8 0,.int .u8 0,.int .u8 0,.int .u8 0,.int .u8 0,.int .u8 0,.int .u8 0,.int .u8 0,.int .u8 0,.int .u8 0,.int .u8 0,.int .u8 0,.int .u8 0,.int .u8 0,.int .u8 0,.int .u8 0,.int .u8 0,.int .u8 0,.int .u8 0,.int .u8 0,.int .u8 0,.int .u8 0]],[]⟩ 12 (by kernel_rfl) (by kernel_rfl) (by kernel_rfl) (by kernel_rfl)) ?_
 intro W base args ds gs before hval hW _ hsz _
 exact qJW (P:=Tryz.prog) (K:=4) (n:=12) (tb:=4) (f:=Tryz.f4) (s:=Rows.opDoesSpec) Tryz.func4 qN4 (by kernel_rfl) qJR (by kernel_rfl) rfl (by kernel_rfl) Tryz.underlying4
  (fun ds h=>by
   match ds,h with
   | [d0,d1],_=>rfl)
  (fun xs hp=>qLz law xs hp) W base args ds gs before hval hW hsz
theorem OpDoes_row (law:∀ (b0:qc) (b1:qd),qc.ok b0→qd.ok b1→∃ N:Nat,ZB N b0 b1=some true):Rows.OpDoesSaid:=
 OpenClaim.holds_of_wide 4 Tryz.f4 rfl rfl rfl rfl rfl rfl rfl ⟨rfl,rfl,rfl,rfl,rfl⟩ rfl rfl rfl rfl rfl (by kernel_rfl) Tryz.func4 (by kernel_rfl)
  (of_decide_eq_true (by kernel_rfl)) (by unfold Func.isWrapper; first | (rw [if_pos (by decide +kernel)]; kernel_rfl) | (rw [if_neg (by decide +kernel)]; exact ⟨rfl,rfl⟩))
  (fun os started H enc _=>qFw law os started H enc)
end Go.Proofs.YtigkkdoljkhcfaaGreat
namespace Go.Rx
theorem qEC {b:qc} (h:qc.ok b):b.R.length≤4611686018427387904∧∀ k,k < b.R.length→(b.R.getD k zR).F.length≤4611686018427387904:=by
 have h1:=h.R.1
 have hr:reachBytes≤4611686018427387904:=by decide +kernel
 refine ⟨by have h1:(qc.R b).length * 56≤reachBytes:=h1; omega,fun k hk=>?_⟩
 have hm:b.R.getD k zR∈b.R:=by
  rw [List.getD_eq_getElem?_getD,List.getElem?_eq_getElem hk]; exact List.getElem_mem hk
 have h2:=(h.R.2 _ hm).F.1
 omega
end Go.Rx
namespace Go.Proofs.YtigkkdoljkhcfaaGreat
theorem opDoes_holds:Rows.OpDoesSaid:=OpDoes_row fun b o hb _=>Go.Rx.qU5 b o (Go.Rx.qEC hb).1 (Go.Rx.qEC hb).2
end Go.Proofs.YtigkkdoljkhcfaaGreat
