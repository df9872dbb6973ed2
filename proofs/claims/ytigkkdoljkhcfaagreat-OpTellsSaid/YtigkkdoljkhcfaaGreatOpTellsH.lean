/- A part of the proof of OpTells: the law returns true for every input, and its arguments read as before. No condition. -/
import Derived.Test.YtigkkdoljkhcfaaGreatRows
import Derived.ProofKit
import Derived.Test.YtigkkdoljkhcfaaGreatOpTellsG
set_option linter.unusedSimpArgs false
set_option linter.unusedVariables false
set_option linter.unusedSectionVars false
set_option maxRecDepth 100000
namespace Go.Rx
open Go.Proofs
instance qF1:RB:=⟨reachBytes⟩
theorem W3 (n:Nat) (x:PV) (h:TyP Tryz.prog n 3 x):∃ a:Int,x=qw (.i .i64) a∧qf (a):=qFp Tryz.underlying3 h
theorem qpY (n:Nat) (x:PV) (h:TyP Tryz.prog n 23 x):∃ a:Vector UInt8 16,x=qw (.ba 16) a∧True:=qyb Tryz.underlying23 (by kernel_rfl) h
structure qd.ok (x:qd):Prop where
 N:qf (qd.N x)
 Rep:qf (qd.Rep x)
theorem qzc (n:Nat) (x:PV) (h:TyP Tryz.prog n 25 x):∃ a:qd,x=qw qB a∧qd.ok a:=by
 obtain ⟨xs,rfl,m,hp0⟩:=qlb Tryz.underlying25 h
 obtain ⟨y0,zs0,rfl,h0,hp1⟩:=jg hp0
 obtain ⟨a0,rfl,k0⟩:=W3 _ _ h0
 obtain ⟨y1,zs1,rfl,h1,hp2⟩:=jg hp1
 obtain ⟨a1,rfl,k1⟩:=W3 _ _ h1
 obtain rfl:=qiH hp2
 exact ⟨qd.mk a0 a1,rfl,⟨k0,k1⟩⟩
theorem qst (n:Nat) (x:PV) (h:TyP Tryz.prog n 9 x):∃ a:List UInt8,x=qw .s a∧(a).length≤reachBytes:=qFH Tryz.underlying9 h
theorem qAv (n:Nat) (x:PV) (h:TyP Tryz.prog n 4 x):∃ a:Bool,x=qw .b a∧True:=qEJ Tryz.underlying4 h
structure qa.ok (x:qa):Prop where
 zg:True
 zi:qf (qa.zi x)
 Len:qf (qa.Len x)
 Lit:(qa.Lit x).length≤reachBytes
theorem qzH (n:Nat) (x:PV) (h:TyP Tryz.prog n 67 x):∃ a:qa,x=qw ql a∧qa.ok a:=by
 obtain ⟨xs,rfl,m,hp0⟩:=qlb Tryz.underlying67 h
 obtain ⟨y0,zs0,rfl,h0,hp1⟩:=jg hp0
 obtain ⟨a0,rfl,k0⟩:=qAv _ _ h0
 obtain ⟨y1,zs1,rfl,h1,hp2⟩:=jg hp1
 obtain ⟨a1,rfl,k1⟩:=W3 _ _ h1
 obtain ⟨y2,zs2,rfl,h2,hp3⟩:=jg hp2
 obtain ⟨a2,rfl,k2⟩:=W3 _ _ h2
 obtain ⟨y3,zs3,rfl,h3,hp4⟩:=jg hp3
 obtain ⟨a3,rfl,k3⟩:=qst _ _ h3
 obtain rfl:=qiH hp4
 exact ⟨qa.mk a0 a1 a2 a3,rfl,⟨k0,k1,k2,k3⟩⟩
theorem qzM (n:Nat) (x:PV) (h:TyP Tryz.prog n 26 x):∃ a:List qa,x=qw (.sl 4 ql) a∧((a).length * 40≤reachBytes∧∀ ea∈a,qa.ok ea):=qEY Tryz.underlying26 (by kernel_rfl) (by kernel_rfl) (by kernel_rfl) qzH h
theorem qzS (n:Nat) (x:PV) (h:TyP Tryz.prog n 28 x):∃ a:Vector UInt8 32,x=qw (.ba 32) a∧True:=qyb Tryz.underlying28 (by kernel_rfl) h
structure qb.ok (x:qb):Prop where
 Kind:qf (qb.Kind x)
 ID:True
 S:qd.ok (qb.S x)
 No:qf (qb.No x)
 V:(qb.V x).length≤reachBytes
 P:((qb.P x).length * 40≤reachBytes∧∀ eT_api_OpPx∈qb.P x,qa.ok eT_api_OpPx)
 zi:True
 zk:qf (qb.zk x)
 D:True
theorem qpL (n:Nat) (x:PV) (h:TyP Tryz.prog n 30 x):∃ a:qb,x=qw qF a∧qb.ok a:=by
 obtain ⟨xs,rfl,m,hp0⟩:=qlb Tryz.underlying30 h
 obtain ⟨y0,zs0,rfl,h0,hp1⟩:=jg hp0
 obtain ⟨a0,rfl,k0⟩:=W3 _ _ h0
 obtain ⟨y1,zs1,rfl,h1,hp2⟩:=jg hp1
 obtain ⟨a1,rfl,k1⟩:=qpY _ _ h1
 obtain ⟨y2,zs2,rfl,h2,hp3⟩:=jg hp2
 obtain ⟨a2,rfl,k2⟩:=qzc _ _ h2
 obtain ⟨y3,zs3,rfl,h3,hp4⟩:=jg hp3
 obtain ⟨a3,rfl,k3⟩:=W3 _ _ h3
 obtain ⟨y4,zs4,rfl,h4,hp5⟩:=jg hp4
 obtain ⟨a4,rfl,k4⟩:=qst _ _ h4
 obtain ⟨y5,zs5,rfl,h5,hp6⟩:=jg hp5
 obtain ⟨a5,rfl,k5⟩:=qzM _ _ h5
 obtain ⟨y6,zs6,rfl,h6,hp7⟩:=jg hp6
 obtain ⟨a6,rfl,k6⟩:=qpY _ _ h6
 obtain ⟨y7,zs7,rfl,h7,hp8⟩:=jg hp7
 obtain ⟨a7,rfl,k7⟩:=W3 _ _ h7
 obtain ⟨y8,zs8,rfl,h8,hp9⟩:=jg hp8
 obtain ⟨a8,rfl,k8⟩:=qzS _ _ h8
 obtain rfl:=qiH hp9
 exact ⟨qb.mk a0 a1 a2 a3 a4 a5 a6 a7 a8,rfl,⟨k0,k1,k2,k3,k4,k5,k6,k7,k8⟩⟩
theorem qyF (n:Nat) (x:PV) (h:TyP Tryz.prog n 31 x):∃ a:List UInt8,x=qw .bl a∧(a).length≤reachBytes:=qDQ Tryz.underlying31 (by kernel_rfl) (by kernel_rfl) h
theorem qwf (law:∀ (b0:qb) (b1:qb) (b2:List UInt8),qb.ok b0→qb.ok b1→(b2).length≤reachBytes→∃ N:Nat,vr N b0 b1 b2=some true) (xs:List PV) (hp0:qcx (TyP Tryz.prog 12) [30,30,31] xs):Valid Tryz.prog 0 (.fn (.func 3) [] []) (xs.map .pv) [] (.ret (.pv (.b true))) []:=by
 obtain ⟨y0,zs0,rfl,h0,hp1⟩:=jg hp0
 obtain ⟨a0,rfl,k0⟩:=qpL _ _ h0
 obtain ⟨y1,zs1,rfl,h1,hp2⟩:=jg hp1
 obtain ⟨a1,rfl,k1⟩:=qpL _ _ h1
 obtain ⟨y2,zs2,rfl,h2,hp3⟩:=jg hp2
 obtain ⟨a2,rfl,k2⟩:=qyF _ _ h2
 obtain rfl:=qiH hp3
 obtain ⟨N,hN⟩:=law a0 a1 a2 k0 k1 k2
 exact qeI N (a0,a1,a2,()) true hN 0
end Go.Rx
namespace Go.Proofs.YtigkkdoljkhcfaaGreat
open Go.Rx Go.ChangeShapes Go.WideShapes Go.ChangeAt Go.RowKit
theorem qwU:ownKnob Tryz.prog.godebug=none:=by kernel_rfl
theorem qvG:laidOutB Tryz.prog=true:=by kernel_rfl
theorem qyV:Tryz.f3.body=some qxN:=by kernel_rfl
theorem qrd (law : ∀ (b0 : qb) (b1 : qb) (b2 : List UInt8), qb.ok b0 → qb.ok b1 → (b2).length ≤ reachBytes → ∃ N : Nat, vr N b0 b1 b2 = some true) (os : Os) (started : os.Started) (H : Type) (enc : TypeId × Value → H) :
    ReturnsInHanded {} Tryz.checked os 3 .any (Rows.opTellsSpec.pre6 enc Tryz.prog Tryz.f3 Rows.opTellsRow.domain false) (Rows.opTellsSpec.post enc Tryz.prog Tryz.f3 false true false false):=by
 refine returnsInHanded_of_change_sized (C:=Tryz.checked) qwU started (by kernel_rfl) Tryz.func3
  (ChangeSpec.witness6 (enc:=enc) (C:=Tryz.checked) false ⟨#[],#[.agg #[.int .i64 0,.int .u8 0,.int .u8 0,.int .u8 0,.int .u8 0,.int .u8 0,.int .u8 0,.int .u8 0,.int .u8 0,.int .u8 0,.int .u8 0,.int .u8 0,.int .u8 0,.int .u8 0,.int .u8 0,.int .u8 0,.int .u8 0,.int .i64 0,.int .i64 0,.int .i64 0,.string ⟨#[]⟩,.slice none 0 0,.int .u8 0,.int .u8 0,.int .u8 0,.int .u8 0,.int .u8 0,.int .u8 0,.int .u8 0,.int .u8 0,.int .u8 0,.int .u8 0,.int .u8 0,.int .u8 0,.int .u8 0,.int .u8 0,.int .u8 0,.int .u8 0,.int .i64 0,.int .u8 0,.int .u8 0,.int .u8 0,.int .u8 0,.int .u8 0,.int .u8 0,.int .u8 0,.int .u8 0,.int .u8 0,.int .u8 0,.int .u8 0,.int .u8 0,.int .u8 0,.int .u8 0,.int .u8 0,.int .u8 0,.int .u8 0,.int .u8 0,.int .u8 0,.int .u8 0,.int .u8 0,.int .u8 0,.int .u8 0,.int .u8 0,.int .u8 0,.int .u8 0,.int .u8 0,.int .u8 0,.int .u8 0,.int .u8 0,.int .u8 0,.int .u8 0],.agg #[.int .i64 0,.int .u8 0,.int .u8 0,.int .u8 0,.int .u8 0,.int .u8 0,.int .u8 0,.int .u8 0,.int .u8 0,.int .u8 0,.int .u8 0,.int .u8 0,.int .u8 0,.int .u8 0,.int .u8 0,.int .u8 0,.int .u8 0,.int .i64 0,.int .i64 0,.int .i64 0,.string ⟨#[]⟩,.slice none 0 0,.int .u8 0,.int .u8 0,.int .u8 0,.int .u8 0,.int .u8 0,.int .u8 0,.int .u8 0,.int .u8 0,.int .u8 0,.int .u8 0,.int .u8 0,.int .u8 0,.int .u8 0,.int .u8 0,.int .u8 0,.int .u8 0,.int .i64 0,.int .u8 0,.int .u8 0,.int .u8 0,.int .u8 0,.int .u8 0,.int .u8 0,.int .u8 0,.int .u8 0,.int .u8 0,.int .u8 0,.int .u8 0,.int .u8 0,.int .u8 0,.int .u8 0,.int .u8 0,.int .u8 0,.int .u8 0,.int .u8 0,.int .u8 0,.int .u8 0,.int .u8 0,.int .u8 0,.int .u8 0,.int .u8 0,.int .u8 0,.int .u8 0,.int .u8 0,.int .u8 0,.int .u8 0,.int .u8 0,.int .u8 0,.int .u8 0],.slice none 0 0],[]⟩ 12 (by kernel_rfl) (by kernel_rfl) (by kernel_rfl) (by kernel_rfl)) ?_
 intro W base args ds gs before hval hW _ hsz _
 exact qwP (P:=Tryz.prog) (K:=3) (n:=12) (tb:=4) (f:=Tryz.f3) (s:=Rows.opTellsSpec) Tryz.func3 qyV (by kernel_rfl) qvG (by kernel_rfl) rfl (by kernel_rfl) Tryz.underlying4
  (fun ds h=>by
   match ds,h with
   | [d0,d1,d2],_=>rfl)
  (fun xs hp=>qwf law xs hp) W base args ds gs before hval hW hsz
theorem OpTells_row (law:∀ (b0:qb) (b1:qb) (b2:List UInt8),qb.ok b0→qb.ok b1→(b2).length≤reachBytes→∃ N:Nat,vr N b0 b1 b2=some true):Rows.OpTellsSaid:=
 OpenClaim.holds_of_wide 3 Tryz.f3 rfl rfl rfl rfl rfl rfl rfl ⟨rfl,rfl,rfl,rfl,rfl⟩ rfl rfl rfl rfl rfl (by kernel_rfl) Tryz.func3 (by kernel_rfl)
  (of_decide_eq_true (by kernel_rfl)) (by unfold Func.isWrapper; first | (rw [if_pos (by decide +kernel)]; kernel_rfl) | (rw [if_neg (by decide +kernel)]; exact ⟨rfl,rfl⟩))
  (fun os started H enc _=>qrd law os started H enc)
end Go.Proofs.YtigkkdoljkhcfaaGreat
namespace Go.Proofs.YtigkkdoljkhcfaaGreat
theorem opTells_holds:Rows.OpTellsSaid:=OpTells_row fun o p b _ _ _=>Go.Rx.qE4 o p b
end Go.Proofs.YtigkkdoljkhcfaaGreat
