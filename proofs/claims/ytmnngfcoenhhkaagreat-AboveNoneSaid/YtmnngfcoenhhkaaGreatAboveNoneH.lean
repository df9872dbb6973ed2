/- A part of the proof of AboveNone: the law returns true for every input, and its arguments read as before. No condition. -/
import Derived.Test.YtmnngfcoenhhkaaGreatRows
import Derived.ProofKit
import Derived.Test.YtmnngfcoenhhkaaGreatAboveNoneG
set_option linter.unusedSimpArgs false
set_option linter.unusedVariables false
set_option linter.unusedSectionVars false
set_option maxRecDepth 100000
namespace Go.Rx
open Go.Proofs
theorem qpB (n:Nat) (x:PV) (h:TyP Tryz.prog n 31 x):∃ a:Vector UInt8 16,x=toPV (.ba 16) a∧True:=ty_arr8 Tryz.underlying31 (by kernel_rfl) h
theorem qil (n:Nat) (x:PV) (h:TyP Tryz.prog n 3 x):∃ a:Int,x=toPV (.i .i64) a∧in64 (a):=ty_i64 Tryz.underlying3 h
structure qc.ok (x:qc):Prop where
  N:in64 (qc.N x)
  Rep:in64 (qc.Rep x)
theorem qkK (n:Nat) (x:PV) (h:TyP Tryz.prog n 33 x):∃ a:qc,x=toPV qn a∧qc.ok a:=by
  obtain ⟨xs,rfl,m,hp0⟩:=ty_struct Tryz.underlying33 h
  obtain ⟨y0,zs0,rfl,h0,hp1⟩:=pair_cons hp0
  obtain ⟨a0,rfl,k0⟩:=qil _ _ h0
  obtain ⟨y1,zs1,rfl,h1,hp2⟩:=pair_cons hp1
  obtain ⟨a1,rfl,k1⟩:=qil _ _ h1
  obtain rfl:=pair_nil hp2
  exact ⟨qc.mk a0 a1,rfl,⟨k0,k1⟩⟩
theorem qqJ (n:Nat) (x:PV) (h:TyP Tryz.prog n 9 x):∃ a:List UInt8,x=toPV .s a∧(a).length≤reachBytes:=ty_str Tryz.underlying9 h
structure qi.ok (x:qi):Prop where
  S:qc.ok (qi.S x)
  V:(qi.V x).length≤reachBytes
theorem qpv (n:Nat) (x:PV) (h:TyP Tryz.prog n 38 x):∃ a:qi,x=toPV zh a∧qi.ok a:=by
  obtain ⟨xs,rfl,m,hp0⟩:=ty_struct Tryz.underlying38 h
  obtain ⟨y0,zs0,rfl,h0,hp1⟩:=pair_cons hp0
  obtain ⟨a0,rfl,k0⟩:=qkK _ _ h0
  obtain ⟨y1,zs1,rfl,h1,hp2⟩:=pair_cons hp1
  obtain ⟨a1,rfl,k1⟩:=qqJ _ _ h1
  obtain rfl:=pair_nil hp2
  exact ⟨qi.mk a0 a1,rfl,⟨k0,k1⟩⟩
structure qb.ok (x:qb):Prop where
  No:in64 (qb.No x)
  C:qi.ok (qb.C x)
theorem qph (n:Nat) (x:PV) (h:TyP Tryz.prog n 72 x):∃ a:qb,x=toPV qp a∧qb.ok a:=by
  obtain ⟨xs,rfl,m,hp0⟩:=ty_struct Tryz.underlying72 h
  obtain ⟨y0,zs0,rfl,h0,hp1⟩:=pair_cons hp0
  obtain ⟨a0,rfl,k0⟩:=qil _ _ h0
  obtain ⟨y1,zs1,rfl,h1,hp2⟩:=pair_cons hp1
  obtain ⟨a1,rfl,k1⟩:=qpv _ _ h1
  obtain rfl:=pair_nil hp2
  exact ⟨qb.mk a0 a1,rfl,⟨k0,k1⟩⟩
theorem qpg (n:Nat) (x:PV) (h:TyP Tryz.prog n 34 x):∃ a:List qb,x=toPV (.sl 4 qp) a∧((a).length * 40≤reachBytes∧∀ ea∈a,qb.ok ea):=ty_list Tryz.underlying34 (by kernel_rfl) (by kernel_rfl) (by kernel_rfl) qph h
structure qa.ok (x:qa):Prop where
  ID:True
  Dead:qc.ok (qa.Dead x)
  F:((qa.F x).length * 40≤reachBytes∧∀ eT_api_RecFx∈qa.F x,qb.ok eT_api_RecFx)
theorem qpF (n:Nat) (x:PV) (h:TyP Tryz.prog n 36 x):∃ a:qa,x=toPV qj a∧qa.ok a:=by
  obtain ⟨xs,rfl,m,hp0⟩:=ty_struct Tryz.underlying36 h
  obtain ⟨y0,zs0,rfl,h0,hp1⟩:=pair_cons hp0
  obtain ⟨a0,rfl,k0⟩:=qpB _ _ h0
  obtain ⟨y1,zs1,rfl,h1,hp2⟩:=pair_cons hp1
  obtain ⟨a1,rfl,k1⟩:=qkK _ _ h1
  obtain ⟨y2,zs2,rfl,h2,hp3⟩:=pair_cons hp2
  obtain ⟨a2,rfl,k2⟩:=qpg _ _ h2
  obtain rfl:=pair_nil hp3
  exact ⟨qa.mk a0 a1 a2,rfl,⟨k0,k1,k2⟩⟩
theorem qpx (n:Nat) (x:PV) (h:TyP Tryz.prog n 22 x):∃ a:List qa,x=toPV (.sl 19 qj) a∧((a).length * 56≤reachBytes∧∀ ea∈a,qa.ok ea):=ty_list Tryz.underlying22 (by kernel_rfl) (by kernel_rfl) (by kernel_rfl) qpF h
structure qe.ok (x:qe):Prop where
  R:((qe.R x).length * 56≤reachBytes∧∀ eT_api_BookRx∈qe.R x,qa.ok eT_api_BookRx)
theorem qpD (n:Nat) (x:PV) (h:TyP Tryz.prog n 24 x):∃ a:qe,x=toPV ql a∧qe.ok a:=by
  obtain ⟨xs,rfl,m,hp0⟩:=ty_struct Tryz.underlying24 h
  obtain ⟨y0,zs0,rfl,h0,hp1⟩:=pair_cons hp0
  obtain ⟨a0,rfl,k0⟩:=qpx _ _ h0
  obtain rfl:=pair_nil hp1
  exact ⟨qe.mk a0,rfl,⟨k0⟩⟩
theorem qmw (law:∀ (b0:qe),qe.ok b0→∃ N:Nat,qC N b0=some true) (xs:List PV) (hp0:Pair (TyP Tryz.prog 12) [24] xs):Valid Tryz.prog 0 (.fn (.func 5) [] []) (xs.map .pv) [] (.ret (.pv (.b true))) []:=by
  obtain ⟨y0,zs0,rfl,h0,hp1⟩:=pair_cons hp0
  obtain ⟨a0,rfl,k0⟩:=qpD _ _ h0
  obtain rfl:=pair_nil hp1
  obtain ⟨N,hN⟩:=law a0 k0
  exact qag N (a0,()) true hN 0
end Go.Rx
namespace Go.Proofs.YtmnngfcoenhhkaaGreat
open Go.Rx Go.ChangeShapes Go.WideShapes Go.ChangeAt Go.RowKit
theorem qmt:ownKnob Tryz.prog.godebug=none:=by kernel_rfl
theorem qlR:laidOutB Tryz.prog=true:=by kernel_rfl
theorem qnE:Tryz.f5.body=some qoP:=by kernel_rfl
theorem qkB (law : ∀ (b0 : qe), qe.ok b0 → ∃ N : Nat, qC N b0 = some true) (os : Os) (started : os.Started) (H : Type) (enc : TypeId × Value → H) :
    ReturnsInHanded {} Tryz.checked os 5 .any (Rows.aboveNoneSpec.pre6 enc Tryz.prog Tryz.f5 Rows.aboveNoneRow.domain false) (Rows.aboveNoneSpec.post enc Tryz.prog Tryz.f5 false true false false):=by
  refine returnsInHanded_of_change_sized (C:=Tryz.checked) qmt started (by kernel_rfl) Tryz.func5
    (ChangeSpec.witness6 (enc:=enc) (C:=Tryz.checked) false ⟨#[],#[.agg #[.slice none 0 0]],[]⟩ 12 (by kernel_rfl) (by kernel_rfl) (by kernel_rfl) (by kernel_rfl)) ?_
  intro W base args ds gs before hval hW _ hsz _
  exact contract_of (P:=Tryz.prog) (K:=5) (n:=12) (tb:=4) (f:=Tryz.f5) (s:=Rows.aboveNoneSpec) Tryz.func5 qnE (by kernel_rfl) qlR (by kernel_rfl) rfl (by kernel_rfl) Tryz.underlying4
    (fun ds h=>by
      match ds,h with
      | [d0],_=>rfl)
    (fun xs hp=>qmw law xs hp) W base args ds gs before hval hW hsz
theorem qmT (law:∀ (b0:qe),qe.ok b0→∃ N:Nat,qC N b0=some true):Rows.AboveNoneSaid:=
  OpenClaim.holds_of_wide 5 Tryz.f5 rfl rfl rfl rfl rfl rfl rfl ⟨rfl,rfl,rfl,rfl,rfl⟩ rfl rfl rfl rfl rfl (by kernel_rfl) Tryz.func5 (by kernel_rfl)
    (of_decide_eq_true (by kernel_rfl)) (by unfold Func.isWrapper; first | (rw [if_pos (by decide +kernel)]; kernel_rfl) | (rw [if_neg (by decide +kernel)]; exact ⟨rfl,rfl⟩))
    (fun os started H enc _=>qkB law os started H enc)
end Go.Proofs.YtmnngfcoenhhkaaGreat
namespace Go.Rx
theorem book_fits {b:qe} (h:qe.ok b):b.R.length≤4611686018427387904∧∀ k,k < b.R.length→(b.R.getD k zR).F.length≤4611686018427387904:=by
  have h1:=h.R.1
  have hr:reachBytes≤4611686018427387904:=by decide +kernel
  refine ⟨by have h1:(qe.R b).length * 56≤reachBytes:=h1; omega,fun k hk=>?_⟩
  have hm:b.R.getD k zR∈b.R:=by
    rw [List.getD_eq_getElem?_getD,List.getElem?_eq_getElem hk]; exact List.getElem_mem hk
  have h2:=(h.R.2 _ hm).F.1
  omega
end Go.Rx
namespace Go.Proofs.YtmnngfcoenhhkaaGreat
theorem aboveNone_holds:Rows.AboveNoneSaid:=qmT fun a ha=>Go.Rx.aboveNone a (Go.Rx.book_fits ha).1 (Go.Rx.book_fits ha).2
end Go.Proofs.YtmnngfcoenhhkaaGreat
