/- A part of the proof of OpAdds: the law returns true for every input, and its arguments read as before. No condition. -/
import Derived.Test.YtigkkdoljkhcfaaGreatRows
import Derived.ProofKit
import Derived.Test.YtigkkdoljkhcfaaGreatOpAddsG
set_option linter.unusedSimpArgs false
set_option linter.unusedVariables false
set_option linter.unusedSectionVars false
set_option maxRecDepth 100000
namespace Go.Rx
open Go.Proofs
instance qKY:RB:=⟨reachBytes⟩
theorem qi4 (n:Nat) (x:PV) (h:TyP Tryz.prog n 23 x):∃ a:Vector UInt8 16,x=qw (.ba 16) a∧True:=qz1 Tryz.underlying23 (by kernel_rfl) h
theorem XI (n:Nat) (x:PV) (h:TyP Tryz.prog n 3 x):∃ a:Int,x=qw (.i .i64) a∧qz (a):=qKn Tryz.underlying3 h
structure qf.ok (x:qf):Prop where
 N:qz (qf.N x)
 Rep:qz (qf.Rep x)
theorem qjl (n:Nat) (x:PV) (h:TyP Tryz.prog n 25 x):∃ a:qf,x=qw qn a∧qf.ok a:=by
 obtain ⟨xs,rfl,m,hp0⟩:=YO Tryz.underlying25 h
 obtain ⟨y0,zs0,rfl,h0,hp1⟩:=zN hp0
 obtain ⟨a0,rfl,k0⟩:=XI _ _ h0
 obtain ⟨y1,zs1,rfl,h1,hp2⟩:=zN hp1
 obtain ⟨a1,rfl,k1⟩:=XI _ _ h1
 obtain rfl:=YL hp2
 exact ⟨qf.mk a0 a1,rfl,⟨k0,k1⟩⟩
theorem qmH (n:Nat) (x:PV) (h:TyP Tryz.prog n 9 x):∃ a:List UInt8,x=qw .s a∧(a).length≤reachBytes:=qKr Tryz.underlying9 h
structure qd.ok (x:qd):Prop where
 S:qf.ok (qd.S x)
 V:(qd.V x).length≤reachBytes
theorem qAU (n:Nat) (x:PV) (h:TyP Tryz.prog n 56 x):∃ a:qd,x=qw qq a∧qd.ok a:=by
 obtain ⟨xs,rfl,m,hp0⟩:=YO Tryz.underlying56 h
 obtain ⟨y0,zs0,rfl,h0,hp1⟩:=zN hp0
 obtain ⟨a0,rfl,k0⟩:=qjl _ _ h0
 obtain ⟨y1,zs1,rfl,h1,hp2⟩:=zN hp1
 obtain ⟨a1,rfl,k1⟩:=qmH _ _ h1
 obtain rfl:=YL hp2
 exact ⟨qd.mk a0 a1,rfl,⟨k0,k1⟩⟩
structure qc.ok (x:qc):Prop where
 No:qz (qc.No x)
 C:qd.ok (qc.C x)
theorem qBF (n:Nat) (x:PV) (h:TyP Tryz.prog n 63 x):∃ a:qc,x=qw qp a∧qc.ok a:=by
 obtain ⟨xs,rfl,m,hp0⟩:=YO Tryz.underlying63 h
 obtain ⟨y0,zs0,rfl,h0,hp1⟩:=zN hp0
 obtain ⟨a0,rfl,k0⟩:=XI _ _ h0
 obtain ⟨y1,zs1,rfl,h1,hp2⟩:=zN hp1
 obtain ⟨a1,rfl,k1⟩:=qAU _ _ h1
 obtain rfl:=YL hp2
 exact ⟨qc.mk a0 a1,rfl,⟨k0,k1⟩⟩
theorem qCD (n:Nat) (x:PV) (h:TyP Tryz.prog n 50 x):∃ a:List qc,x=qw (.sl 4 qp) a∧((a).length * 40≤reachBytes∧∀ ea∈a,qc.ok ea):=qsm Tryz.underlying50 (by kernel_rfl) (by kernel_rfl) (by kernel_rfl) qBF h
structure qa.ok (x:qa):Prop where
 ID:True
 qX:qf.ok (qa.qX x)
 F:((qa.F x).length * 40≤reachBytes∧∀ eT_api_RecFx∈qa.F x,qc.ok eT_api_RecFx)
theorem qA6 (n:Nat) (x:PV) (h:TyP Tryz.prog n 52 x):∃ a:qa,x=qw qh a∧qa.ok a:=by
 obtain ⟨xs,rfl,m,hp0⟩:=YO Tryz.underlying52 h
 obtain ⟨y0,zs0,rfl,h0,hp1⟩:=zN hp0
 obtain ⟨a0,rfl,k0⟩:=qi4 _ _ h0
 obtain ⟨y1,zs1,rfl,h1,hp2⟩:=zN hp1
 obtain ⟨a1,rfl,k1⟩:=qjl _ _ h1
 obtain ⟨y2,zs2,rfl,h2,hp3⟩:=zN hp2
 obtain ⟨a2,rfl,k2⟩:=qCD _ _ h2
 obtain rfl:=YL hp3
 exact ⟨qa.mk a0 a1 a2,rfl,⟨k0,k1,k2⟩⟩
theorem qBt (n:Nat) (x:PV) (h:TyP Tryz.prog n 41 x):∃ a:List qa,x=qw (.sl 19 qh) a∧((a).length * 56≤reachBytes∧∀ ea∈a,qa.ok ea):=qsm Tryz.underlying41 (by kernel_rfl) (by kernel_rfl) (by kernel_rfl) qA6 h
structure qb.ok (x:qb):Prop where
 R:((qb.R x).length * 56≤reachBytes∧∀ eT_api_BookRx∈qb.R x,qa.ok eT_api_BookRx)
theorem qA2 (n:Nat) (x:PV) (h:TyP Tryz.prog n 43 x):∃ a:qb,x=qw qL a∧qb.ok a:=by
 obtain ⟨xs,rfl,m,hp0⟩:=YO Tryz.underlying43 h
 obtain ⟨y0,zs0,rfl,h0,hp1⟩:=zN hp0
 obtain ⟨a0,rfl,k0⟩:=qBt _ _ h0
 obtain rfl:=YL hp1
 exact ⟨qb.mk a0,rfl,⟨k0⟩⟩
theorem qE0 (n:Nat) (x:PV) (h:TyP Tryz.prog n 4 x):∃ a:Bool,x=qw .b a∧True:=qJK Tryz.underlying4 h
structure qg.ok (x:qg):Prop where
 qbG:True
 jA:qz (qg.jA x)
 Len:qz (qg.Len x)
 Lit:(qg.Lit x).length≤reachBytes
theorem qCx (n:Nat) (x:PV) (h:TyP Tryz.prog n 67 x):∃ a:qg,x=qw qG a∧qg.ok a:=by
 obtain ⟨xs,rfl,m,hp0⟩:=YO Tryz.underlying67 h
 obtain ⟨y0,zs0,rfl,h0,hp1⟩:=zN hp0
 obtain ⟨a0,rfl,k0⟩:=qE0 _ _ h0
 obtain ⟨y1,zs1,rfl,h1,hp2⟩:=zN hp1
 obtain ⟨a1,rfl,k1⟩:=XI _ _ h1
 obtain ⟨y2,zs2,rfl,h2,hp3⟩:=zN hp2
 obtain ⟨a2,rfl,k2⟩:=XI _ _ h2
 obtain ⟨y3,zs3,rfl,h3,hp4⟩:=zN hp3
 obtain ⟨a3,rfl,k3⟩:=qmH _ _ h3
 obtain rfl:=YL hp4
 exact ⟨qg.mk a0 a1 a2 a3,rfl,⟨k0,k1,k2,k3⟩⟩
theorem qA7 (n:Nat) (x:PV) (h:TyP Tryz.prog n 26 x):∃ a:List qg,x=qw (.sl 4 qG) a∧((a).length * 40≤reachBytes∧∀ ea∈a,qg.ok ea):=qsm Tryz.underlying26 (by kernel_rfl) (by kernel_rfl) (by kernel_rfl) qCx h
theorem qBN (n:Nat) (x:PV) (h:TyP Tryz.prog n 28 x):∃ a:Vector UInt8 32,x=qw (.ba 32) a∧True:=qz1 Tryz.underlying28 (by kernel_rfl) h
structure qe.ok (x:qe):Prop where
 Kind:qz (qe.Kind x)
 ID:True
 S:qf.ok (qe.S x)
 No:qz (qe.No x)
 V:(qe.V x).length≤reachBytes
 P:((qe.P x).length * 40≤reachBytes∧∀ eT_api_OpPx∈qe.P x,qg.ok eT_api_OpPx)
 jA:True
 Jt:qz (qe.Jt x)
 D:True
theorem qBw (n:Nat) (x:PV) (h:TyP Tryz.prog n 30 x):∃ a:qe,x=qw zO a∧qe.ok a:=by
 obtain ⟨xs,rfl,m,hp0⟩:=YO Tryz.underlying30 h
 obtain ⟨y0,zs0,rfl,h0,hp1⟩:=zN hp0
 obtain ⟨a0,rfl,k0⟩:=XI _ _ h0
 obtain ⟨y1,zs1,rfl,h1,hp2⟩:=zN hp1
 obtain ⟨a1,rfl,k1⟩:=qi4 _ _ h1
 obtain ⟨y2,zs2,rfl,h2,hp3⟩:=zN hp2
 obtain ⟨a2,rfl,k2⟩:=qjl _ _ h2
 obtain ⟨y3,zs3,rfl,h3,hp4⟩:=zN hp3
 obtain ⟨a3,rfl,k3⟩:=XI _ _ h3
 obtain ⟨y4,zs4,rfl,h4,hp5⟩:=zN hp4
 obtain ⟨a4,rfl,k4⟩:=qmH _ _ h4
 obtain ⟨y5,zs5,rfl,h5,hp6⟩:=zN hp5
 obtain ⟨a5,rfl,k5⟩:=qA7 _ _ h5
 obtain ⟨y6,zs6,rfl,h6,hp7⟩:=zN hp6
 obtain ⟨a6,rfl,k6⟩:=qi4 _ _ h6
 obtain ⟨y7,zs7,rfl,h7,hp8⟩:=zN hp7
 obtain ⟨a7,rfl,k7⟩:=XI _ _ h7
 obtain ⟨y8,zs8,rfl,h8,hp9⟩:=zN hp8
 obtain ⟨a8,rfl,k8⟩:=qBN _ _ h8
 obtain rfl:=YL hp9
 exact ⟨qe.mk a0 a1 a2 a3 a4 a5 a6 a7 a8,rfl,⟨k0,k1,k2,k3,k4,k5,k6,k7,k8⟩⟩
theorem qAP (law:∀ (b0:qb) (b1:qe),qb.ok b0→qe.ok b1→∃ N:Nat,Qg N b0 b1=some true) (xs:List PV) (hp0:qcs (TyP Tryz.prog 12) [43,30] xs):Valid Tryz.prog 0 (.fn (.func 10) [] []) (xs.map .pv) [] (.ret (.pv (.b true))) []:=by
 obtain ⟨y0,zs0,rfl,h0,hp1⟩:=zN hp0
 obtain ⟨a0,rfl,k0⟩:=qA2 _ _ h0
 obtain ⟨y1,zs1,rfl,h1,hp2⟩:=zN hp1
 obtain ⟨a1,rfl,k1⟩:=qBw _ _ h1
 obtain rfl:=YL hp2
 obtain ⟨N,hN⟩:=law a0 a1 k0 k1
 exact qfz N (a0,a1,()) true hN 0
end Go.Rx
namespace Go.Proofs.YtigkkdoljkhcfaaGreat
open Go.Rx Go.ChangeShapes Go.WideShapes Go.ChangeAt Go.RowKit
theorem qCg:ownKnob Tryz.prog.godebug=none:=by kernel_rfl
theorem qzx:laidOutB Tryz.prog=true:=by kernel_rfl
theorem qDr:Tryz.f10.body=some qxK:=by kernel_rfl
theorem quc (law : ∀ (b0 : qb) (b1 : qe), qb.ok b0 → qe.ok b1 → ∃ N : Nat, Qg N b0 b1 = some true) (os : Os) (started : os.Started) (H : Type) (enc : TypeId × Value → H) :
    ReturnsInHanded {} Tryz.checked os 10 .any (Rows.opAddsSpec.pre6 enc Tryz.prog Tryz.f10 Rows.opAddsRow.domain false) (Rows.opAddsSpec.post enc Tryz.prog Tryz.f10 false true false false):=by
 refine returnsInHanded_of_change_sized (C:=Tryz.checked) qCg started (by kernel_rfl) Tryz.func10
  (ChangeSpec.witness6 (enc:=enc) (C:=Tryz.checked) false ⟨#[],#[.agg #[.slice none 0 0],.agg #[.int .i64 0,.int .u8 0,.int .u8 0,.int .u8 0,.int .u8 0,.int .u8 0,.int .u8 0,.int .u8 0,.int .u8 0,.int .u8 0,.int .u8 0,.int .u8 0,.int .u8 0,.int .u8 0,.int .u8 0,.int .u8 0,.int .u8 0,.int .i64 0,.int .i64 0,.int .i64 0,.string ⟨#[]⟩,.slice none 0 0,.int .u8 0,.int .u8 0,.int .u8 0,.int .u8 0,.int .u8 0,.int .u8 0,.int .u8 0,.int .u8 0,.int .u8 0,.int .u8 0,.int .u8 0,.int .u8 0,.int .u8 0,.int .u8 0,.int .u8 0,.int .u8 0,.int .i64 0,.int .u8 0,.int .u8 0,.int .u8 0,.int .u8 0,.int .u8 0,.int .u8 0,.int .u8 0,.int .u8 0,.int .u8 0,.int .u8 0,.int .u8 0,.int .u8 0,.int .u8 0,.int .u8 0,.int .u8 0,.int .u8 0,.int .u8 0,.int .u8 0,.int .u8 0,.int .u8 0,.int .u8 0,.int .u8 0,.int .u8 0,.int .u8 0,.int .u8 0,.int .u8 0,.int .u8 0,.int .u8 0,.int .u8 0,.int .u8 0,.int .u8 0,.int .u8 0]],[]⟩ 12 (by kernel_rfl) (by kernel_rfl) (by kernel_rfl) (by kernel_rfl)) ?_
 intro W base args ds gs before hval hW _ hsz _
 exact qzG (P:=Tryz.prog) (K:=10) (n:=12) (tb:=4) (f:=Tryz.f10) (s:=Rows.opAddsSpec) Tryz.func10 qDr (by kernel_rfl) qzx (by kernel_rfl) rfl (by kernel_rfl) Tryz.underlying4
  (fun ds h=>by
   match ds,h with
   | [d0,d1],_=>rfl)
  (fun xs hp=>qAP law xs hp) W base args ds gs before hval hW hsz
theorem OpAdds_row (law:∀ (b0:qb) (b1:qe),qb.ok b0→qe.ok b1→∃ N:Nat,Qg N b0 b1=some true):Rows.OpAddsSaid:=
 OpenClaim.holds_of_wide 10 Tryz.f10 rfl rfl rfl rfl rfl rfl rfl ⟨rfl,rfl,rfl,rfl,rfl⟩ rfl rfl rfl rfl rfl (by kernel_rfl) Tryz.func10 (by kernel_rfl)
  (of_decide_eq_true (by kernel_rfl)) (by unfold Func.isWrapper; first | (rw [if_pos (by decide +kernel)]; kernel_rfl) | (rw [if_neg (by decide +kernel)]; exact ⟨rfl,rfl⟩))
  (fun os started H enc _=>quc law os started H enc)
end Go.Proofs.YtigkkdoljkhcfaaGreat
namespace Go.Rx
theorem qtt {b:qb} (h:qb.ok b):b.R.length≤4611686018427387904∧∀ k,k < b.R.length→(b.R.getD k zR).F.length≤4611686018427387904:=by
 have h1:=h.R.1
 have hr:reachBytes≤4611686018427387904:=by decide +kernel
 refine ⟨by have h1:(qb.R b).length * 56≤reachBytes:=h1; omega,fun k hk=>?_⟩
 have hm:b.R.getD k zR∈b.R:=by
  rw [List.getD_eq_getElem?_getD,List.getElem?_eq_getElem hk]; exact List.getElem_mem hk
 have h2:=(h.R.2 _ hm).F.1
 omega
end Go.Rx
namespace Go.Rx
theorem qJD {o:qe} (h:qe.ok o):(qe.P o).length≤1000000000000000:=by
 have h1:(qe.P o).length * 40≤reachBytes:=h.P.1
 have hr:reachBytes≤4611686018427387:=by decide +kernel
 omega
end Go.Rx
namespace Go.Proofs.YtigkkdoljkhcfaaGreat
theorem opAdds_holds:Rows.OpAddsSaid:=OpAdds_row fun b o hb ho=>Go.Rx.qKy b o (Go.Rx.qtt hb).1 (Go.Rx.qtt hb).2 (Go.Rx.qJD ho)
end Go.Proofs.YtigkkdoljkhcfaaGreat
