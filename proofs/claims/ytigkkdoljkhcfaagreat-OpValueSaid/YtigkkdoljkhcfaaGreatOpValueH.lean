/- A part of the proof of OpValue: the law returns true for every input, and its arguments read as before. No condition. -/
import Derived.Test.YtigkkdoljkhcfaaGreatRows
import Derived.ProofKit
import Derived.Test.YtigkkdoljkhcfaaGreatOpValueG
set_option linter.unusedSimpArgs false
set_option linter.unusedVariables false
set_option linter.unusedSectionVars false
set_option maxRecDepth 100000
namespace Go.Rx
open Go.Proofs
instance qI4:RB:=⟨reachBytes⟩
theorem qhF (n:Nat) (x:PV) (h:TyP Tryz.prog n 23 x):∃ a:Vector UInt8 16,x=qt (.ba 16) a∧True:=qyx Tryz.underlying23 (by kernel_rfl) h
theorem Xh (n:Nat) (x:PV) (h:TyP Tryz.prog n 3 x):∃ a:Int,x=qt (.i .i64) a∧qy (a):=qIf Tryz.underlying3 h
structure qe.ok (x:qe):Prop where
 N:qy (qe.N x)
 Rep:qy (qe.Rep x)
theorem qiM (n:Nat) (x:PV) (h:TyP Tryz.prog n 25 x):∃ a:qe,x=qt ql a∧qe.ok a:=by
 obtain ⟨xs,rfl,m,hp0⟩:=Yd Tryz.underlying25 h
 obtain ⟨y0,zs0,rfl,h0,hp1⟩:=zM hp0
 obtain ⟨a0,rfl,k0⟩:=Xh _ _ h0
 obtain ⟨y1,zs1,rfl,h1,hp2⟩:=zM hp1
 obtain ⟨a1,rfl,k1⟩:=Xh _ _ h1
 obtain rfl:=W5 hp2
 exact ⟨qe.mk a0 a1,rfl,⟨k0,k1⟩⟩
theorem qko (n:Nat) (x:PV) (h:TyP Tryz.prog n 9 x):∃ a:List UInt8,x=qt .s a∧(a).length≤reachBytes:=qIH Tryz.underlying9 h
structure qc.ok (x:qc):Prop where
 S:qe.ok (qc.S x)
 V:(qc.V x).length≤reachBytes
theorem qzY (n:Nat) (x:PV) (h:TyP Tryz.prog n 56 x):∃ a:qc,x=qt qp a∧qc.ok a:=by
 obtain ⟨xs,rfl,m,hp0⟩:=Yd Tryz.underlying56 h
 obtain ⟨y0,zs0,rfl,h0,hp1⟩:=zM hp0
 obtain ⟨a0,rfl,k0⟩:=qiM _ _ h0
 obtain ⟨y1,zs1,rfl,h1,hp2⟩:=zM hp1
 obtain ⟨a1,rfl,k1⟩:=qko _ _ h1
 obtain rfl:=W5 hp2
 exact ⟨qc.mk a0 a1,rfl,⟨k0,k1⟩⟩
structure qd.ok (x:qd):Prop where
 No:qy (qd.No x)
 C:qc.ok (qd.C x)
theorem qAO (n:Nat) (x:PV) (h:TyP Tryz.prog n 63 x):∃ a:qd,x=qt qE a∧qd.ok a:=by
 obtain ⟨xs,rfl,m,hp0⟩:=Yd Tryz.underlying63 h
 obtain ⟨y0,zs0,rfl,h0,hp1⟩:=zM hp0
 obtain ⟨a0,rfl,k0⟩:=Xh _ _ h0
 obtain ⟨y1,zs1,rfl,h1,hp2⟩:=zM hp1
 obtain ⟨a1,rfl,k1⟩:=qzY _ _ h1
 obtain rfl:=W5 hp2
 exact ⟨qd.mk a0 a1,rfl,⟨k0,k1⟩⟩
theorem qA9 (n:Nat) (x:PV) (h:TyP Tryz.prog n 50 x):∃ a:List qd,x=qt (.sl 4 qE) a∧((a).length * 40≤reachBytes∧∀ ea∈a,qd.ok ea):=qqW Tryz.underlying50 (by kernel_rfl) (by kernel_rfl) (by kernel_rfl) qAO h
structure qa.ok (x:qa):Prop where
 ID:True
 zi:qe.ok (qa.zi x)
 F:((qa.F x).length * 40≤reachBytes∧∀ eT_api_RecFx∈qa.F x,qd.ok eT_api_RecFx)
theorem qBh (n:Nat) (x:PV) (h:TyP Tryz.prog n 52 x):∃ a:qa,x=qt qj a∧qa.ok a:=by
 obtain ⟨xs,rfl,m,hp0⟩:=Yd Tryz.underlying52 h
 obtain ⟨y0,zs0,rfl,h0,hp1⟩:=zM hp0
 obtain ⟨a0,rfl,k0⟩:=qhF _ _ h0
 obtain ⟨y1,zs1,rfl,h1,hp2⟩:=zM hp1
 obtain ⟨a1,rfl,k1⟩:=qiM _ _ h1
 obtain ⟨y2,zs2,rfl,h2,hp3⟩:=zM hp2
 obtain ⟨a2,rfl,k2⟩:=qA9 _ _ h2
 obtain rfl:=W5 hp3
 exact ⟨qa.mk a0 a1 a2,rfl,⟨k0,k1,k2⟩⟩
theorem qzr (n:Nat) (x:PV) (h:TyP Tryz.prog n 41 x):∃ a:List qa,x=qt (.sl 19 qj) a∧((a).length * 56≤reachBytes∧∀ ea∈a,qa.ok ea):=qqW Tryz.underlying41 (by kernel_rfl) (by kernel_rfl) (by kernel_rfl) qBh h
structure qf.ok (x:qf):Prop where
 R:((qf.R x).length * 56≤reachBytes∧∀ eT_api_BookRx∈qf.R x,qa.ok eT_api_BookRx)
theorem qAM (n:Nat) (x:PV) (h:TyP Tryz.prog n 43 x):∃ a:qf,x=qt qU a∧qf.ok a:=by
 obtain ⟨xs,rfl,m,hp0⟩:=Yd Tryz.underlying43 h
 obtain ⟨y0,zs0,rfl,h0,hp1⟩:=zM hp0
 obtain ⟨a0,rfl,k0⟩:=qzr _ _ h0
 obtain rfl:=W5 hp1
 exact ⟨qf.mk a0,rfl,⟨k0⟩⟩
theorem qCh (n:Nat) (x:PV) (h:TyP Tryz.prog n 4 x):∃ a:Bool,x=qt .b a∧True:=qGY Tryz.underlying4 h
structure qg.ok (x:qg):Prop where
 qbj:True
 jw:qy (qg.jw x)
 Len:qy (qg.Len x)
 Lit:(qg.Lit x).length≤reachBytes
theorem qz4 (n:Nat) (x:PV) (h:TyP Tryz.prog n 67 x):∃ a:qg,x=qt qG a∧qg.ok a:=by
 obtain ⟨xs,rfl,m,hp0⟩:=Yd Tryz.underlying67 h
 obtain ⟨y0,zs0,rfl,h0,hp1⟩:=zM hp0
 obtain ⟨a0,rfl,k0⟩:=qCh _ _ h0
 obtain ⟨y1,zs1,rfl,h1,hp2⟩:=zM hp1
 obtain ⟨a1,rfl,k1⟩:=Xh _ _ h1
 obtain ⟨y2,zs2,rfl,h2,hp3⟩:=zM hp2
 obtain ⟨a2,rfl,k2⟩:=Xh _ _ h2
 obtain ⟨y3,zs3,rfl,h3,hp4⟩:=zM hp3
 obtain ⟨a3,rfl,k3⟩:=qko _ _ h3
 obtain rfl:=W5 hp4
 exact ⟨qg.mk a0 a1 a2 a3,rfl,⟨k0,k1,k2,k3⟩⟩
theorem qAg (n:Nat) (x:PV) (h:TyP Tryz.prog n 26 x):∃ a:List qg,x=qt (.sl 4 qG) a∧((a).length * 40≤reachBytes∧∀ ea∈a,qg.ok ea):=qqW Tryz.underlying26 (by kernel_rfl) (by kernel_rfl) (by kernel_rfl) qz4 h
theorem qBg (n:Nat) (x:PV) (h:TyP Tryz.prog n 28 x):∃ a:Vector UInt8 32,x=qt (.ba 32) a∧True:=qyx Tryz.underlying28 (by kernel_rfl) h
structure qb.ok (x:qb):Prop where
 Kind:qy (qb.Kind x)
 ID:True
 S:qe.ok (qb.S x)
 No:qy (qb.No x)
 V:(qb.V x).length≤reachBytes
 P:((qb.P x).length * 40≤reachBytes∧∀ eT_api_OpPx∈qb.P x,qg.ok eT_api_OpPx)
 jw:True
 Zc:qy (qb.Zc x)
 D:True
theorem qzu (n:Nat) (x:PV) (h:TyP Tryz.prog n 30 x):∃ a:qb,x=qt zN a∧qb.ok a:=by
 obtain ⟨xs,rfl,m,hp0⟩:=Yd Tryz.underlying30 h
 obtain ⟨y0,zs0,rfl,h0,hp1⟩:=zM hp0
 obtain ⟨a0,rfl,k0⟩:=Xh _ _ h0
 obtain ⟨y1,zs1,rfl,h1,hp2⟩:=zM hp1
 obtain ⟨a1,rfl,k1⟩:=qhF _ _ h1
 obtain ⟨y2,zs2,rfl,h2,hp3⟩:=zM hp2
 obtain ⟨a2,rfl,k2⟩:=qiM _ _ h2
 obtain ⟨y3,zs3,rfl,h3,hp4⟩:=zM hp3
 obtain ⟨a3,rfl,k3⟩:=Xh _ _ h3
 obtain ⟨y4,zs4,rfl,h4,hp5⟩:=zM hp4
 obtain ⟨a4,rfl,k4⟩:=qko _ _ h4
 obtain ⟨y5,zs5,rfl,h5,hp6⟩:=zM hp5
 obtain ⟨a5,rfl,k5⟩:=qAg _ _ h5
 obtain ⟨y6,zs6,rfl,h6,hp7⟩:=zM hp6
 obtain ⟨a6,rfl,k6⟩:=qhF _ _ h6
 obtain ⟨y7,zs7,rfl,h7,hp8⟩:=zM hp7
 obtain ⟨a7,rfl,k7⟩:=Xh _ _ h7
 obtain ⟨y8,zs8,rfl,h8,hp9⟩:=zM hp8
 obtain ⟨a8,rfl,k8⟩:=qBg _ _ h8
 obtain rfl:=W5 hp9
 exact ⟨qb.mk a0 a1 a2 a3 a4 a5 a6 a7 a8,rfl,⟨k0,k1,k2,k3,k4,k5,k6,k7,k8⟩⟩
theorem qyc (law:∀ (b0:qf) (b1:qb),qf.ok b0→qb.ok b1→∃ N:Nat,vI N b0 b1=some true) (xs:List PV) (hp0:qbw (TyP Tryz.prog 12) [43,30] xs):Valid Tryz.prog 0 (.fn (.func 5) [] []) (xs.map .pv) [] (.ret (.pv (.b true))) []:=by
 obtain ⟨y0,zs0,rfl,h0,hp1⟩:=zM hp0
 obtain ⟨a0,rfl,k0⟩:=qAM _ _ h0
 obtain ⟨y1,zs1,rfl,h1,hp2⟩:=zM hp1
 obtain ⟨a1,rfl,k1⟩:=qzu _ _ h1
 obtain rfl:=W5 hp2
 obtain ⟨N,hN⟩:=law a0 a1 k0 k1
 exact qeo N (a0,a1,()) true hN 0
end Go.Rx
namespace Go.Proofs.YtigkkdoljkhcfaaGreat
open Go.Rx Go.ChangeShapes Go.WideShapes Go.ChangeAt Go.RowKit
theorem qxK:ownKnob Tryz.prog.godebug=none:=by kernel_rfl
theorem qwg:laidOutB Tryz.prog=true:=by kernel_rfl
theorem qzp:Tryz.f5.body=some qy6:=by kernel_rfl
theorem qq3 (law : ∀ (b0 : qf) (b1 : qb), qf.ok b0 → qb.ok b1 → ∃ N : Nat, vI N b0 b1 = some true) (os : Os) (started : os.Started) (H : Type) (enc : TypeId × Value → H) :
    ReturnsInHanded {} Tryz.checked os 5 .any (Rows.opValueSpec.pre6 enc Tryz.prog Tryz.f5 Rows.opValueRow.domain false) (Rows.opValueSpec.post enc Tryz.prog Tryz.f5 false true false false):=by
 refine returnsInHanded_of_change_sized (C:=Tryz.checked) qxK started (by kernel_rfl) Tryz.func5
  (ChangeSpec.witness6 (enc:=enc) (C:=Tryz.checked) false ⟨#[],#[.agg #[.slice none 0 0],.agg #[.int .i64 0,.int .u8 0,.int .u8 0,.int .u8 0,.int .u8 0,.int .u8 0,.int .u8 0,.int .u8 0,.int .u8 0,.int .u8 0,.int .u8 0,.int .u8 0,.int .u8 0,.int .u8 0,.int .u8 0,.int .u8 0,.int .u8 0,.int .i64 0,.int .i64 0,.int .i64 0,.string ⟨#[]⟩,.slice none 0 0,.int .u8 0,.int .u8 0,.int .u8 0,.int .u8 0,.int .u8 0,.int .u8 0,.int .u8 0,.int .u8 0,.int .u8 0,.int .u8 0,.int .u8 0,.int .u8 0,.int .u8 0,.int .u8 0,.int .u8 0,.int .u8 0,.int .i64 0,.int .u8 0,.int .u8 0,.int .u8 0,.int .u8 0,.int .u8 0,.int .u8 0,.int .u8 0,.int .u8 0,.int .u8 0,.int .u8 0,.int .u8 0,.int .u8 0,.int .u8 0,.int .u8 0,.int .u8 0,.int .u8 0,.int .u8 0,.int .u8 0,.int .u8 0,.int .u8 0,.int .u8 0,.int .u8 0,.int .u8 0,.int .u8 0,.int .u8 0,.int .u8 0,.int .u8 0,.int .u8 0,.int .u8 0,.int .u8 0,.int .u8 0,.int .u8 0]],[]⟩ 12 (by kernel_rfl) (by kernel_rfl) (by kernel_rfl) (by kernel_rfl)) ?_
 intro W base args ds gs before hval hW _ hsz _
 exact qxa (P:=Tryz.prog) (K:=5) (n:=12) (tb:=4) (f:=Tryz.f5) (s:=Rows.opValueSpec) Tryz.func5 qzp (by kernel_rfl) qwg (by kernel_rfl) rfl (by kernel_rfl) Tryz.underlying4
  (fun ds h=>by
   match ds,h with
   | [d0,d1],_=>rfl)
  (fun xs hp=>qyc law xs hp) W base args ds gs before hval hW hsz
theorem OpValue_row (law:∀ (b0:qf) (b1:qb),qf.ok b0→qb.ok b1→∃ N:Nat,vI N b0 b1=some true):Rows.OpValueSaid:=
 OpenClaim.holds_of_wide 5 Tryz.f5 rfl rfl rfl rfl rfl rfl rfl ⟨rfl,rfl,rfl,rfl,rfl⟩ rfl rfl rfl rfl rfl (by kernel_rfl) Tryz.func5 (by kernel_rfl)
  (of_decide_eq_true (by kernel_rfl)) (by unfold Func.isWrapper; first | (rw [if_pos (by decide +kernel)]; kernel_rfl) | (rw [if_neg (by decide +kernel)]; exact ⟨rfl,rfl⟩))
  (fun os started H enc _=>qq3 law os started H enc)
end Go.Proofs.YtigkkdoljkhcfaaGreat
namespace Go.Rx
theorem qsd {b:qf} (h:qf.ok b):b.R.length≤4611686018427387904∧∀ k,k < b.R.length→(b.R.getD k zR).F.length≤4611686018427387904:=by
 have h1:=h.R.1
 have hr:reachBytes≤4611686018427387904:=by decide +kernel
 refine ⟨by have h1:(qf.R b).length * 56≤reachBytes:=h1; omega,fun k hk=>?_⟩
 have hm:b.R.getD k zR∈b.R:=by
  rw [List.getD_eq_getElem?_getD,List.getElem?_eq_getElem hk]; exact List.getElem_mem hk
 have h2:=(h.R.2 _ hm).F.1
 omega
end Go.Rx
namespace Go.Rx
theorem qG_ {o:qb} (h:qb.ok o):(qb.P o).length≤1000000000000000:=by
 have h1:(qb.P o).length * 40≤reachBytes:=h.P.1
 have hr:reachBytes≤4611686018427387:=by decide +kernel
 omega
end Go.Rx
namespace Go.Proofs.YtigkkdoljkhcfaaGreat
theorem opValue_holds:Rows.OpValueSaid:=OpValue_row fun b o hb ho=>Go.Rx.qHE b o (Go.Rx.qsd hb).1 (Go.Rx.qsd hb).2 (Go.Rx.qG_ ho)
end Go.Proofs.YtigkkdoljkhcfaaGreat
