/- A part of the proof of OpWrong: the law returns true for every input, and its arguments read as before. No condition. -/
import Derived.Test.YtigkkdoljkhcfaaGreatRows
import Derived.ProofKit
import Derived.Test.YtigkkdoljkhcfaaGreatOpWrongG
set_option linter.unusedSimpArgs false
set_option linter.unusedVariables false
set_option linter.unusedSectionVars false
set_option maxRecDepth 100000
namespace Go.Rx
open Go.Proofs
instance qHL:RB:=⟨reachBytes⟩
theorem qqd (n:Nat) (x:PV) (h:TyP Tryz.prog n 23 x):∃ a:Vector UInt8 16,x=qx (.ba 16) a∧True:=qyw Tryz.underlying23 (by kernel_rfl) h
theorem qeQ (n:Nat) (x:PV) (h:TyP Tryz.prog n 3 x):∃ a:Int,x=qx (.i .i64) a∧qy (a):=qG5 Tryz.underlying3 h
structure qe.ok (x:qe):Prop where
 N:qy (qe.N x)
 Rep:qy (qe.Rep x)
theorem qhq (n:Nat) (x:PV) (h:TyP Tryz.prog n 25 x):∃ a:qe,x=qx qn a∧qe.ok a:=by
 obtain ⟨xs,rfl,m,hp0⟩:=qcd Tryz.underlying25 h
 obtain ⟨y0,zs0,rfl,h0,hp1⟩:=vz hp0
 obtain ⟨a0,rfl,k0⟩:=qeQ _ _ h0
 obtain ⟨y1,zs1,rfl,h1,hp2⟩:=vz hp1
 obtain ⟨a1,rfl,k1⟩:=qeQ _ _ h1
 obtain rfl:=qbm hp2
 exact ⟨qe.mk a0 a1,rfl,⟨k0,k1⟩⟩
theorem qCd (n:Nat) (x:PV) (h:TyP Tryz.prog n 9 x):∃ a:List UInt8,x=qx .s a∧(a).length≤reachBytes:=qHu Tryz.underlying9 h
structure qd.ok (x:qd):Prop where
 S:qe.ok (qd.S x)
 V:(qd.V x).length≤reachBytes
theorem qzi (n:Nat) (x:PV) (h:TyP Tryz.prog n 56 x):∃ a:qd,x=qx qo a∧qd.ok a:=by
 obtain ⟨xs,rfl,m,hp0⟩:=qcd Tryz.underlying56 h
 obtain ⟨y0,zs0,rfl,h0,hp1⟩:=vz hp0
 obtain ⟨a0,rfl,k0⟩:=qhq _ _ h0
 obtain ⟨y1,zs1,rfl,h1,hp2⟩:=vz hp1
 obtain ⟨a1,rfl,k1⟩:=qCd _ _ h1
 obtain rfl:=qbm hp2
 exact ⟨qd.mk a0 a1,rfl,⟨k0,k1⟩⟩
structure qb.ok (x:qb):Prop where
 No:qy (qb.No x)
 C:qd.ok (qb.C x)
theorem qzn (n:Nat) (x:PV) (h:TyP Tryz.prog n 63 x):∃ a:qb,x=qx qC a∧qb.ok a:=by
 obtain ⟨xs,rfl,m,hp0⟩:=qcd Tryz.underlying63 h
 obtain ⟨y0,zs0,rfl,h0,hp1⟩:=vz hp0
 obtain ⟨a0,rfl,k0⟩:=qeQ _ _ h0
 obtain ⟨y1,zs1,rfl,h1,hp2⟩:=vz hp1
 obtain ⟨a1,rfl,k1⟩:=qzi _ _ h1
 obtain rfl:=qbm hp2
 exact ⟨qb.mk a0 a1,rfl,⟨k0,k1⟩⟩
theorem qyX (n:Nat) (x:PV) (h:TyP Tryz.prog n 50 x):∃ a:List qb,x=qx (.sl 4 qC) a∧((a).length * 40≤reachBytes∧∀ ea∈a,qb.ok ea):=qyO Tryz.underlying50 (by kernel_rfl) (by kernel_rfl) (by kernel_rfl) qzn h
structure qa.ok (x:qa):Prop where
 ID:True
 zq:qe.ok (qa.zq x)
 F:((qa.F x).length * 40≤reachBytes∧∀ eT_api_RecFx∈qa.F x,qb.ok eT_api_RecFx)
theorem qz1 (n:Nat) (x:PV) (h:TyP Tryz.prog n 52 x):∃ a:qa,x=qx qi a∧qa.ok a:=by
 obtain ⟨xs,rfl,m,hp0⟩:=qcd Tryz.underlying52 h
 obtain ⟨y0,zs0,rfl,h0,hp1⟩:=vz hp0
 obtain ⟨a0,rfl,k0⟩:=qqd _ _ h0
 obtain ⟨y1,zs1,rfl,h1,hp2⟩:=vz hp1
 obtain ⟨a1,rfl,k1⟩:=qhq _ _ h1
 obtain ⟨y2,zs2,rfl,h2,hp3⟩:=vz hp2
 obtain ⟨a2,rfl,k2⟩:=qyX _ _ h2
 obtain rfl:=qbm hp3
 exact ⟨qa.mk a0 a1 a2,rfl,⟨k0,k1,k2⟩⟩
theorem qAA (n:Nat) (x:PV) (h:TyP Tryz.prog n 41 x):∃ a:List qa,x=qx (.sl 19 qi) a∧((a).length * 56≤reachBytes∧∀ ea∈a,qa.ok ea):=qyO Tryz.underlying41 (by kernel_rfl) (by kernel_rfl) (by kernel_rfl) qz1 h
structure qc.ok (x:qc):Prop where
 R:((qc.R x).length * 56≤reachBytes∧∀ eT_api_BookRx∈qc.R x,qa.ok eT_api_BookRx)
theorem qzT (n:Nat) (x:PV) (h:TyP Tryz.prog n 43 x):∃ a:qc,x=qx qQ a∧qc.ok a:=by
 obtain ⟨xs,rfl,m,hp0⟩:=qcd Tryz.underlying43 h
 obtain ⟨y0,zs0,rfl,h0,hp1⟩:=vz hp0
 obtain ⟨a0,rfl,k0⟩:=qAA _ _ h0
 obtain rfl:=qbm hp1
 exact ⟨qc.mk a0,rfl,⟨k0⟩⟩
theorem qy2 (n:Nat) (x:PV) (h:TyP Tryz.prog n 28 x):∃ a:Vector UInt8 32,x=qx (.ba 32) a∧True:=qyw Tryz.underlying28 (by kernel_rfl) h
theorem qxG (law:∀ (b0:qc) (b1:Vector UInt8 16) (b2:Int) (b3:qe) (b4:Vector UInt8 32),qc.ok b0→True→qy (b2)→qe.ok b3→True→∃ N:Nat,vE N b0 b1 b2 b3 b4=some true) (xs:List PV) (hp0:qbr (TyP Tryz.prog 12) [43,23,3,25,28] xs):Valid Tryz.prog 0 (.fn (.func 8) [] []) (xs.map .pv) [] (.ret (.pv (.b true))) []:=by
 obtain ⟨y0,zs0,rfl,h0,hp1⟩:=vz hp0
 obtain ⟨a0,rfl,k0⟩:=qzT _ _ h0
 obtain ⟨y1,zs1,rfl,h1,hp2⟩:=vz hp1
 obtain ⟨a1,rfl,k1⟩:=qqd _ _ h1
 obtain ⟨y2,zs2,rfl,h2,hp3⟩:=vz hp2
 obtain ⟨a2,rfl,k2⟩:=qeQ _ _ h2
 obtain ⟨y3,zs3,rfl,h3,hp4⟩:=vz hp3
 obtain ⟨a3,rfl,k3⟩:=qhq _ _ h3
 obtain ⟨y4,zs4,rfl,h4,hp5⟩:=vz hp4
 obtain ⟨a4,rfl,k4⟩:=qy2 _ _ h4
 obtain rfl:=qbm hp5
 obtain ⟨N,hN⟩:=law a0 a1 a2 a3 a4 k0 k1 k2 k3 k4
 exact qdU N (a0,a1,a2,a3,a4,()) true hN 0
end Go.Rx
namespace Go.Proofs.YtigkkdoljkhcfaaGreat
open Go.Rx Go.ChangeShapes Go.WideShapes Go.ChangeAt Go.RowKit
theorem qw_:ownKnob Tryz.prog.godebug=none:=by kernel_rfl
theorem qvm:laidOutB Tryz.prog=true:=by kernel_rfl
theorem qAr:Tryz.f8.body=some qlO:=by kernel_rfl
theorem qqE (law : ∀ (b0 : qc) (b1 : Vector UInt8 16) (b2 : Int) (b3 : qe) (b4 : Vector UInt8 32), qc.ok b0 → True → qy (b2) → qe.ok b3 → True → ∃ N : Nat, vE N b0 b1 b2 b3 b4 = some true) (os : Os) (started : os.Started) (H : Type) (enc : TypeId × Value → H) :
    ReturnsInHanded {} Tryz.checked os 8 .any (Rows.opWrongSpec.pre6 enc Tryz.prog Tryz.f8 Rows.opWrongRow.domain false) (Rows.opWrongSpec.post enc Tryz.prog Tryz.f8 false true false false):=by
 refine returnsInHanded_of_change_sized (C:=Tryz.checked) qw_ started (by kernel_rfl) Tryz.func8
  (ChangeSpec.witness6 (enc:=enc) (C:=Tryz.checked) false ⟨#[],#[.agg #[.slice none 0 0],.agg #[.int .u8 0,.int .u8 0,.int .u8 0,.int .u8 0,.int .u8 0,.int .u8 0,.int .u8 0,.int .u8 0,.int .u8 0,.int .u8 0,.int .u8 0,.int .u8 0,.int .u8 0,.int .u8 0,.int .u8 0,.int .u8 0],.int .i64 0,.agg #[.int .i64 0,.int .i64 0],.agg #[.int .u8 0,.int .u8 0,.int .u8 0,.int .u8 0,.int .u8 0,.int .u8 0,.int .u8 0,.int .u8 0,.int .u8 0,.int .u8 0,.int .u8 0,.int .u8 0,.int .u8 0,.int .u8 0,.int .u8 0,.int .u8 0,.int .u8 0,.int .u8 0,.int .u8 0,.int .u8 0,.int .u8 0,.int .u8 0,.int .u8 0,.int .u8 0,.int .u8 0,.int .u8 0,.int .u8 0,.int .u8 0,.int .u8 0,.int .u8 0,.int .u8 0,.int .u8 0]],[]⟩ 12 (by kernel_rfl) (by kernel_rfl) (by kernel_rfl) (by kernel_rfl)) ?_
 intro W base args ds gs before hval hW _ hsz _
 exact qwR (P:=Tryz.prog) (K:=8) (n:=12) (tb:=4) (f:=Tryz.f8) (s:=Rows.opWrongSpec) Tryz.func8 qAr (by kernel_rfl) qvm (by kernel_rfl) rfl (by kernel_rfl) Tryz.underlying4
  (fun ds h=>by
   match ds,h with
   | [d0,d1,d2,d3,d4],_=>rfl)
  (fun xs hp=>qxG law xs hp) W base args ds gs before hval hW hsz
theorem OpWrong_row (law:∀ (b0:qc) (b1:Vector UInt8 16) (b2:Int) (b3:qe) (b4:Vector UInt8 32),qc.ok b0→True→qy (b2)→qe.ok b3→True→∃ N:Nat,vE N b0 b1 b2 b3 b4=some true):Rows.OpWrongSaid:=
 OpenClaim.holds_of_wide 8 Tryz.f8 rfl rfl rfl rfl rfl rfl rfl ⟨rfl,rfl,rfl,rfl,rfl⟩ rfl rfl rfl rfl rfl (by kernel_rfl) Tryz.func8 (by kernel_rfl)
  (of_decide_eq_true (by kernel_rfl)) (by unfold Func.isWrapper; first | (rw [if_pos (by decide +kernel)]; kernel_rfl) | (rw [if_neg (by decide +kernel)]; exact ⟨rfl,rfl⟩))
  (fun os started H enc _=>qqE law os started H enc)
end Go.Proofs.YtigkkdoljkhcfaaGreat
namespace Go.Rx
theorem qr9 {b:qc} (h:qc.ok b):b.R.length≤4611686018427387904∧∀ k,k < b.R.length→(b.R.getD k zR).F.length≤4611686018427387904:=by
 have h1:=h.R.1
 have hr:reachBytes≤4611686018427387904:=by decide +kernel
 refine ⟨by have h1:(qc.R b).length * 56≤reachBytes:=h1; omega,fun k hk=>?_⟩
 have hm:b.R.getD k zR∈b.R:=by
  rw [List.getD_eq_getElem?_getD,List.getElem?_eq_getElem hk]; exact List.getElem_mem hk
 have h2:=(h.R.2 _ hm).F.1
 omega
end Go.Rx
namespace Go.Proofs.YtigkkdoljkhcfaaGreat
theorem opWrong_holds:Rows.OpWrongSaid:=OpWrong_row fun b f no s d hb _ _ _ _=>Go.Rx.qGJ b f no s d (Go.Rx.qr9 hb).1 (Go.Rx.qr9 hb).2
end Go.Proofs.YtigkkdoljkhcfaaGreat
