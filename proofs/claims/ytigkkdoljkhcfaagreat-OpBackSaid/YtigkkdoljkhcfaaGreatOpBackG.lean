/- A part of the proof of OpBack: the law returns true for every input, and its arguments read as before. No condition. -/
import Derived.Test.YtigkkdoljkhcfaaGreatRows
import Derived.ProofKit
import Derived.Test.YtigkkdoljkhcfaaGreatOpBackF
set_option linter.unusedSimpArgs false
set_option linter.unusedVariables false
set_option linter.unusedSectionVars false
set_option maxRecDepth 100000
namespace Go.Rx
open Go.Proofs
instance qwU:RB:=⟨reachBytes⟩
theorem JP (n:Nat) (x:PV) (h:TyP Tryz.prog n 3 x):∃ a:Int,x=qm (.i .i64) a∧qx (a):=qv_ Tryz.underlying3 h
theorem qhi (n:Nat) (x:PV) (h:TyP Tryz.prog n 23 x):∃ a:Vector UInt8 16,x=qm (.ba 16) a∧True:=qo1 Tryz.underlying23 (by kernel_rfl) h
structure qi.ok (x:qi):Prop where
 N:qx (qi.N x)
 Rep:qx (qi.Rep x)
theorem qqh (n:Nat) (x:PV) (h:TyP Tryz.prog n 25 x):∃ a:qi,x=qm zF a∧qi.ok a:=by
 obtain ⟨xs,rfl,m,hp0⟩:=qc4 Tryz.underlying25 h
 obtain ⟨y0,zs0,rfl,h0,hp1⟩:=zM hp0
 obtain ⟨a0,rfl,k0⟩:=JP _ _ h0
 obtain ⟨y1,zs1,rfl,h1,hp2⟩:=zM hp1
 obtain ⟨a1,rfl,k1⟩:=JP _ _ h1
 obtain rfl:=qbH hp2
 exact ⟨qi.mk a0 a1,rfl,⟨k0,k1⟩⟩
theorem qjL (n:Nat) (x:PV) (h:TyP Tryz.prog n 9 x):∃ a:List UInt8,x=qm .s a∧(a).length≤reachBytes:=qv8 Tryz.underlying9 h
theorem qsn (n:Nat) (x:PV) (h:TyP Tryz.prog n 4 x):∃ a:Bool,x=qm .b a∧True:=qvK Tryz.underlying4 h
structure qb.ok (x:qb):Prop where
 JV:True
 jK:qx (qb.jK x)
 Len:qx (qb.Len x)
 Lit:(qb.Lit x).length≤reachBytes
theorem qqA (n:Nat) (x:PV) (h:TyP Tryz.prog n 67 x):∃ a:qb,x=qm qu a∧qb.ok a:=by
 obtain ⟨xs,rfl,m,hp0⟩:=qc4 Tryz.underlying67 h
 obtain ⟨y0,zs0,rfl,h0,hp1⟩:=zM hp0
 obtain ⟨a0,rfl,k0⟩:=qsn _ _ h0
 obtain ⟨y1,zs1,rfl,h1,hp2⟩:=zM hp1
 obtain ⟨a1,rfl,k1⟩:=JP _ _ h1
 obtain ⟨y2,zs2,rfl,h2,hp3⟩:=zM hp2
 obtain ⟨a2,rfl,k2⟩:=JP _ _ h2
 obtain ⟨y3,zs3,rfl,h3,hp4⟩:=zM hp3
 obtain ⟨a3,rfl,k3⟩:=qjL _ _ h3
 obtain rfl:=qbH hp4
 exact ⟨qb.mk a0 a1 a2 a3,rfl,⟨k0,k1,k2,k3⟩⟩
theorem qrc (n:Nat) (x:PV) (h:TyP Tryz.prog n 26 x):∃ a:List qb,x=qm (.sl 4 qu) a∧((a).length * 40≤reachBytes∧∀ ea∈a,qb.ok ea):=qvF Tryz.underlying26 (by kernel_rfl) (by kernel_rfl) (by kernel_rfl) qqA h
theorem qqn (n:Nat) (x:PV) (h:TyP Tryz.prog n 28 x):∃ a:Vector UInt8 32,x=qm (.ba 32) a∧True:=qo1 Tryz.underlying28 (by kernel_rfl) h
structure qa.ok (x:qa):Prop where
 Kind:qx (qa.Kind x)
 ID:True
 S:qi.ok (qa.S x)
 No:qx (qa.No x)
 V:(qa.V x).length≤reachBytes
 P:((qa.P x).length * 40≤reachBytes∧∀ eT_api_OpPx∈qa.P x,qb.ok eT_api_OpPx)
 jK:True
 je:qx (qa.je x)
 D:True
theorem qrf (n:Nat) (x:PV) (h:TyP Tryz.prog n 30 x):∃ a:qa,x=qm q6 a∧qa.ok a:=by
 obtain ⟨xs,rfl,m,hp0⟩:=qc4 Tryz.underlying30 h
 obtain ⟨y0,zs0,rfl,h0,hp1⟩:=zM hp0
 obtain ⟨a0,rfl,k0⟩:=JP _ _ h0
 obtain ⟨y1,zs1,rfl,h1,hp2⟩:=zM hp1
 obtain ⟨a1,rfl,k1⟩:=qhi _ _ h1
 obtain ⟨y2,zs2,rfl,h2,hp3⟩:=zM hp2
 obtain ⟨a2,rfl,k2⟩:=qqh _ _ h2
 obtain ⟨y3,zs3,rfl,h3,hp4⟩:=zM hp3
 obtain ⟨a3,rfl,k3⟩:=JP _ _ h3
 obtain ⟨y4,zs4,rfl,h4,hp5⟩:=zM hp4
 obtain ⟨a4,rfl,k4⟩:=qjL _ _ h4
 obtain ⟨y5,zs5,rfl,h5,hp6⟩:=zM hp5
 obtain ⟨a5,rfl,k5⟩:=qrc _ _ h5
 obtain ⟨y6,zs6,rfl,h6,hp7⟩:=zM hp6
 obtain ⟨a6,rfl,k6⟩:=qhi _ _ h6
 obtain ⟨y7,zs7,rfl,h7,hp8⟩:=zM hp7
 obtain ⟨a7,rfl,k7⟩:=JP _ _ h7
 obtain ⟨y8,zs8,rfl,h8,hp9⟩:=zM hp8
 obtain ⟨a8,rfl,k8⟩:=qqn _ _ h8
 obtain rfl:=qbH hp9
 exact ⟨qa.mk a0 a1 a2 a3 a4 a5 a6 a7 a8,rfl,⟨k0,k1,k2,k3,k4,k5,k6,k7,k8⟩⟩
theorem qq_ (n:Nat) (x:PV) (h:TyP Tryz.prog n 31 x):∃ a:List UInt8,x=qm .bl a∧(a).length≤reachBytes:=qt8 Tryz.underlying31 (by kernel_rfl) (by kernel_rfl) h
theorem qqN (law:∀ (b0:qa) (b1:List UInt8),qa.ok b0→(b1).length≤reachBytes→∃ N:Nat,jB N b0 b1=some true) (xs:List PV) (hp0:X9 (TyP Tryz.prog 12) [30,31] xs):Valid Tryz.prog 0 (.fn (.func 6) [] []) (xs.map .pv) [] (.ret (.pv (.b true))) []:=by
 obtain ⟨y0,zs0,rfl,h0,hp1⟩:=zM hp0
 obtain ⟨a0,rfl,k0⟩:=qrf _ _ h0
 obtain ⟨y1,zs1,rfl,h1,hp2⟩:=zM hp1
 obtain ⟨a1,rfl,k1⟩:=qq_ _ _ h1
 obtain rfl:=qbH hp2
 obtain ⟨N,hN⟩:=law a0 a1 k0 k1
 exact KC N (a0,a1,()) true hN 0
end Go.Rx
namespace Go.Proofs.YtigkkdoljkhcfaaGreat
open Go.Rx Go.ChangeShapes Go.WideShapes Go.ChangeAt Go.RowKit
theorem qqc:ownKnob Tryz.prog.godebug=none:=by kernel_rfl
theorem qoe:laidOutB Tryz.prog=true:=by kernel_rfl
theorem qsz:Tryz.f6.body=some qpG:=by kernel_rfl
theorem qkD (law : ∀ (b0 : qa) (b1 : List UInt8), qa.ok b0 → (b1).length ≤ reachBytes → ∃ N : Nat, jB N b0 b1 = some true) (os : Os) (started : os.Started) (H : Type) (enc : TypeId × Value → H) :
    ReturnsInHanded {} Tryz.checked os 6 .any (Rows.opBackSpec.pre6 enc Tryz.prog Tryz.f6 Rows.opBackRow.domain false) (Rows.opBackSpec.post enc Tryz.prog Tryz.f6 false true false false):=by
 refine returnsInHanded_of_change_sized (C:=Tryz.checked) qqc started (by kernel_rfl) Tryz.func6
  (ChangeSpec.witness6 (enc:=enc) (C:=Tryz.checked) false ⟨#[],#[.agg #[.int .i64 0,.int .u8 0,.int .u8 0,.int .u8 0,.int .u8 0,.int .u8 0,.int .u8 0,.int .u8 0,.int .u8 0,.int .u8 0,.int .u8 0,.int .u8 0,.int .u8 0,.int .u8 0,.int .u8 0,.int .u8 0,.int .u8 0,.int .i64 0,.int .i64 0,.int .i64 0,.string ⟨#[]⟩,.slice none 0 0,.int .u8 0,.int .u8 0,.int .u8 0,.int .u8 0,.int .u8 0,.int .u8 0,.int .u8 0,.int .u8 0,.int .u8 0,.int .u8 0,.int .u8 0,.int .u8 0,.int .u8 0,.int .u8 0,.int .u8 0,.int .u8 0,.int .i64 0,.int .u8 0,.int .u8 0,.int .u8 0,.int .u8 0,.int .u8 0,.int .u8 0,.int .u8 0,.int .u8 0,.int .u8 0,.int .u8 0,.int .u8 0,.int .u8 0,.int .u8 0,.int .u8 0,.int .u8 0,.int .u8 0,.int .u8 0,.int .u8 0,.int .u8 0,.int .u8 0,.int .u8 0,.int .u8 0,.int .u8 0,.int .u8 0,.int .u8 0,.int .u8 0,.int .u8 0,.int .u8 0,.int .u8 0,.int .u8 0,.int .u8 0,.int .u8 0],.slice none 0 0],[]⟩ 12 (by kernel_rfl) (by kernel_rfl) (by kernel_rfl) (by kernel_rfl)) ?_
 intro W base args ds gs before hval hW _ hsz _
 exact qn6 (P:=Tryz.prog) (K:=6) (n:=12) (tb:=4) (f:=Tryz.f6) (s:=Rows.opBackSpec) Tryz.func6 qsz (by kernel_rfl) qoe (by kernel_rfl) rfl (by kernel_rfl) Tryz.underlying4
  (fun ds h=>by
   match ds,h with
   | [d0,d1],_=>rfl)
  (fun xs hp=>qqN law xs hp) W base args ds gs before hval hW hsz
theorem OpBack_row (law:∀ (b0:qa) (b1:List UInt8),qa.ok b0→(b1).length≤reachBytes→∃ N:Nat,jB N b0 b1=some true):Rows.OpBackSaid:=
 OpenClaim.holds_of_wide 6 Tryz.f6 rfl rfl rfl rfl rfl rfl rfl ⟨rfl,rfl,rfl,rfl,rfl⟩ rfl rfl rfl rfl rfl (by kernel_rfl) Tryz.func6 (by kernel_rfl)
  (of_decide_eq_true (by kernel_rfl)) (by unfold Func.isWrapper; first | (rw [if_pos (by decide +kernel)]; kernel_rfl) | (rw [if_neg (by decide +kernel)]; exact ⟨rfl,rfl⟩))
  (fun os started H enc _=>qkD law os started H enc)
end Go.Proofs.YtigkkdoljkhcfaaGreat
namespace Go.Proofs.YtigkkdoljkhcfaaGreat
theorem opBack_holds:Rows.OpBackSaid:=OpBack_row fun o b _ _=>Go.Rx.qwG o b
end Go.Proofs.YtigkkdoljkhcfaaGreat
