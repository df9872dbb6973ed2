/- A part of the proof of OpCut: the law returns true for every input, and its arguments read as before. No condition. -/
import Derived.Test.YtigkkdoljkhcfaaGreatRows
import Derived.ProofKit
import Derived.Test.YtigkkdoljkhcfaaGreatOpCutF
set_option linter.unusedSimpArgs false
set_option linter.unusedVariables false
set_option linter.unusedSectionVars false
set_option maxRecDepth 100000
namespace Go.Rx
open Go.Proofs
instance qwV:RB:=⟨reachBytes⟩
theorem ZE (n:Nat) (x:PV) (h:TyP Tryz.prog n 3 x):∃ a:Int,x=qm (.i .i64) a∧qv (a):=qwb Tryz.underlying3 h
theorem qh2 (n:Nat) (x:PV) (h:TyP Tryz.prog n 23 x):∃ a:Vector UInt8 16,x=qm (.ba 16) a∧True:=qoR Tryz.underlying23 (by kernel_rfl) h
structure qi.ok (x:qi):Prop where
 N:qv (qi.N x)
 Rep:qv (qi.Rep x)
theorem qqG (n:Nat) (x:PV) (h:TyP Tryz.prog n 25 x):∃ a:qi,x=qm zF a∧qi.ok a:=by
 obtain ⟨xs,rfl,m,hp0⟩:=qdJ Tryz.underlying25 h
 obtain ⟨y0,zs0,rfl,h0,hp1⟩:=zM hp0
 obtain ⟨a0,rfl,k0⟩:=ZE _ _ h0
 obtain ⟨y1,zs1,rfl,h1,hp2⟩:=zM hp1
 obtain ⟨a1,rfl,k1⟩:=ZE _ _ h1
 obtain rfl:=qbs hp2
 exact ⟨qi.mk a0 a1,rfl,⟨k0,k1⟩⟩
theorem qj6 (n:Nat) (x:PV) (h:TyP Tryz.prog n 9 x):∃ a:List UInt8,x=qm .s a∧(a).length≤reachBytes:=qv0 Tryz.underlying9 h
theorem qrD (n:Nat) (x:PV) (h:TyP Tryz.prog n 4 x):∃ a:Bool,x=qm .b a∧True:=qve Tryz.underlying4 h
structure qb.ok (x:qb):Prop where
 JM:True
 jL:qv (qb.jL x)
 Len:qv (qb.Len x)
 Lit:(qb.Lit x).length≤reachBytes
theorem qqv (n:Nat) (x:PV) (h:TyP Tryz.prog n 67 x):∃ a:qb,x=qm qu a∧qb.ok a:=by
 obtain ⟨xs,rfl,m,hp0⟩:=qdJ Tryz.underlying67 h
 obtain ⟨y0,zs0,rfl,h0,hp1⟩:=zM hp0
 obtain ⟨a0,rfl,k0⟩:=qrD _ _ h0
 obtain ⟨y1,zs1,rfl,h1,hp2⟩:=zM hp1
 obtain ⟨a1,rfl,k1⟩:=ZE _ _ h1
 obtain ⟨y2,zs2,rfl,h2,hp3⟩:=zM hp2
 obtain ⟨a2,rfl,k2⟩:=ZE _ _ h2
 obtain ⟨y3,zs3,rfl,h3,hp4⟩:=zM hp3
 obtain ⟨a3,rfl,k3⟩:=qj6 _ _ h3
 obtain rfl:=qbs hp4
 exact ⟨qb.mk a0 a1 a2 a3,rfl,⟨k0,k1,k2,k3⟩⟩
theorem qp8 (n:Nat) (x:PV) (h:TyP Tryz.prog n 26 x):∃ a:List qb,x=qm (.sl 4 qu) a∧((a).length * 40≤reachBytes∧∀ ea∈a,qb.ok ea):=qvp Tryz.underlying26 (by kernel_rfl) (by kernel_rfl) (by kernel_rfl) qqv h
theorem qp5 (n:Nat) (x:PV) (h:TyP Tryz.prog n 28 x):∃ a:Vector UInt8 32,x=qm (.ba 32) a∧True:=qoR Tryz.underlying28 (by kernel_rfl) h
structure qa.ok (x:qa):Prop where
 Kind:qv (qa.Kind x)
 ID:True
 S:qi.ok (qa.S x)
 No:qv (qa.No x)
 V:(qa.V x).length≤reachBytes
 P:((qa.P x).length * 40≤reachBytes∧∀ eT_api_OpPx∈qa.P x,qb.ok eT_api_OpPx)
 jL:True
 je:qv (qa.je x)
 D:True
theorem qpB (n:Nat) (x:PV) (h:TyP Tryz.prog n 30 x):∃ a:qa,x=qm q_ a∧qa.ok a:=by
 obtain ⟨xs,rfl,m,hp0⟩:=qdJ Tryz.underlying30 h
 obtain ⟨y0,zs0,rfl,h0,hp1⟩:=zM hp0
 obtain ⟨a0,rfl,k0⟩:=ZE _ _ h0
 obtain ⟨y1,zs1,rfl,h1,hp2⟩:=zM hp1
 obtain ⟨a1,rfl,k1⟩:=qh2 _ _ h1
 obtain ⟨y2,zs2,rfl,h2,hp3⟩:=zM hp2
 obtain ⟨a2,rfl,k2⟩:=qqG _ _ h2
 obtain ⟨y3,zs3,rfl,h3,hp4⟩:=zM hp3
 obtain ⟨a3,rfl,k3⟩:=ZE _ _ h3
 obtain ⟨y4,zs4,rfl,h4,hp5⟩:=zM hp4
 obtain ⟨a4,rfl,k4⟩:=qj6 _ _ h4
 obtain ⟨y5,zs5,rfl,h5,hp6⟩:=zM hp5
 obtain ⟨a5,rfl,k5⟩:=qp8 _ _ h5
 obtain ⟨y6,zs6,rfl,h6,hp7⟩:=zM hp6
 obtain ⟨a6,rfl,k6⟩:=qh2 _ _ h6
 obtain ⟨y7,zs7,rfl,h7,hp8⟩:=zM hp7
 obtain ⟨a7,rfl,k7⟩:=ZE _ _ h7
 obtain ⟨y8,zs8,rfl,h8,hp9⟩:=zM hp8
 obtain ⟨a8,rfl,k8⟩:=qp5 _ _ h8
 obtain rfl:=qbs hp9
 exact ⟨qa.mk a0 a1 a2 a3 a4 a5 a6 a7 a8,rfl,⟨k0,k1,k2,k3,k4,k5,k6,k7,k8⟩⟩
theorem qst (law:∀ (b0:qa) (b1:Int),qa.ok b0→qv (b1)→∃ N:Nat,jT N b0 b1=some true) (xs:List PV) (hp0:Wn (TyP Tryz.prog 12) [30,3] xs):Valid Tryz.prog 0 (.fn (.func 7) [] []) (xs.map .pv) [] (.ret (.pv (.b true))) []:=by
 obtain ⟨y0,zs0,rfl,h0,hp1⟩:=zM hp0
 obtain ⟨a0,rfl,k0⟩:=qpB _ _ h0
 obtain ⟨y1,zs1,rfl,h1,hp2⟩:=zM hp1
 obtain ⟨a1,rfl,k1⟩:=ZE _ _ h1
 obtain rfl:=qbs hp2
 obtain ⟨N,hN⟩:=law a0 a1 k0 k1
 exact qag N (a0,a1,()) true hN 0
end Go.Rx
namespace Go.Proofs.YtigkkdoljkhcfaaGreat
open Go.Rx Go.ChangeShapes Go.WideShapes Go.ChangeAt Go.RowKit
theorem qr8:ownKnob Tryz.prog.godebug=none:=by kernel_rfl
theorem qpP:laidOutB Tryz.prog=true:=by kernel_rfl
theorem qtl:Tryz.f7.body=some qo0:=by kernel_rfl
theorem qlD (law : ∀ (b0 : qa) (b1 : Int), qa.ok b0 → qv (b1) → ∃ N : Nat, jT N b0 b1 = some true) (os : Os) (started : os.Started) (H : Type) (enc : TypeId × Value → H) :
    ReturnsInHanded {} Tryz.checked os 7 .any (Rows.opCutSpec.pre6 enc Tryz.prog Tryz.f7 Rows.opCutRow.domain false) (Rows.opCutSpec.post enc Tryz.prog Tryz.f7 false true false false):=by
 refine returnsInHanded_of_change_sized (C:=Tryz.checked) qr8 started (by kernel_rfl) Tryz.func7
  (ChangeSpec.witness6 (enc:=enc) (C:=Tryz.checked) false ⟨#[],#[.agg #[.int .i64 0,.int .u8 0,.int .u8 0,.int .u8 0,.int .u8 0,.int .u8 0,.int .u8 0,.int .u8 0,.int .u8 0,.int .u8 0,.int .u8 0,.int .u8 0,.int .u8 0,.int .u8 0,.int .u8 0,.int .u8 0,.int .u8 0,.int .i64 0,.int .i64 0,.int .i64 0,.string ⟨#[]⟩,.slice none 0 0,.int .u8 0,.int .u8 0,.int .u8 0,.int .u8 0,.int .u8 0,.int .u8 0,.int .u8 0,.int .u8 0,.int .u8 0,.int .u8 0,.int .u8 0,.int .u8 0,.int .u8 0,.int .u8 0,.int .u8 0,.int .u8 0,.int .i64 0,.int .u8 0,.int .u8 0,.int .u8 0,.int .u8 0,.int .u8 0,.int .u8 0,.int .u8 0,.int .u8 0,.int .u8 0,.int .u8 0,.int .u8 0,.int .u8 0,.int .u8 0,.int .u8 0,.int .u8 0,.int .u8 0,.int .u8 0,.int .u8 0,.int .u8 0,.int .u8 0,.int .u8 0,.int .u8 0,.int .u8 0,.int .u8 0,.int .u8 0,.int .u8 0,.int .u8 0,.int .u8 0,.int .u8 0,.int .u8 0,.int .u8 0,.int .u8 0],.int .i64 0],[]⟩ 12 (by kernel_rfl) (by kernel_rfl) (by kernel_rfl) (by kernel_rfl)) ?_
 intro W base args ds gs before hval hW _ hsz _
 exact qoq (P:=Tryz.prog) (K:=7) (n:=12) (tb:=4) (f:=Tryz.f7) (s:=Rows.opCutSpec) Tryz.func7 qtl (by kernel_rfl) qpP (by kernel_rfl) rfl (by kernel_rfl) Tryz.underlying4
  (fun ds h=>by
   match ds,h with
   | [d0,d1],_=>rfl)
  (fun xs hp=>qst law xs hp) W base args ds gs before hval hW hsz
theorem OpCut_row (law:∀ (b0:qa) (b1:Int),qa.ok b0→qv (b1)→∃ N:Nat,jT N b0 b1=some true):Rows.OpCutSaid:=
 OpenClaim.holds_of_wide 7 Tryz.f7 rfl rfl rfl rfl rfl rfl rfl ⟨rfl,rfl,rfl,rfl,rfl⟩ rfl rfl rfl rfl rfl (by kernel_rfl) Tryz.func7 (by kernel_rfl)
  (of_decide_eq_true (by kernel_rfl)) (by unfold Func.isWrapper; first | (rw [if_pos (by decide +kernel)]; kernel_rfl) | (rw [if_neg (by decide +kernel)]; exact ⟨rfl,rfl⟩))
  (fun os started H enc _=>qlD law os started H enc)
end Go.Proofs.YtigkkdoljkhcfaaGreat
namespace Go.Rx
theorem qvy {o:qa} (h:qa.ok o):(qa.P o).length≤1000000000000000:=by
 have h1:(qa.P o).length * 40≤reachBytes:=h.P.1
 have hr:reachBytes≤4611686018427387:=by decide +kernel
 omega
end Go.Rx
namespace Go.Proofs.YtigkkdoljkhcfaaGreat
theorem opCut_holds:Rows.OpCutSaid:=OpCut_row fun o k ho _=>Go.Rx.qwG o k (Go.Rx.qvy ho)
end Go.Proofs.YtigkkdoljkhcfaaGreat
