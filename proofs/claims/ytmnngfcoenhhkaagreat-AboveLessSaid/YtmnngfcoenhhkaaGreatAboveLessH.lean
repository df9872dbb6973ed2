/- A part of the proof of AboveLess: the law returns true for every input, and its arguments read as before. No condition. -/
import Derived.Test.YtmnngfcoenhhkaaGreatRows
import Derived.ProofKit
import Derived.Test.YtmnngfcoenhhkaaGreatAboveLessG
set_option linter.unusedSimpArgs false
set_option linter.unusedVariables false
set_option linter.unusedSectionVars false
set_option maxRecDepth 100000
namespace Go.Rx
open Go.Proofs
theorem qFb (n:Nat) (x:PV) (h:TyP Tryz.prog n 31 x):∃ a:Vector UInt8 16,x=qE (.ba 16) a∧True:=qNn Tryz.underlying31 (by kernel_rfl) h
theorem qoB (n:Nat) (x:PV) (h:TyP Tryz.prog n 3 x):∃ a:Int,x=qE (.i .i64) a∧qt (a):=qN_ Tryz.underlying3 h
structure qc.ok (x:qc):Prop where
 N:qt (qc.N x)
 Rep:qt (qc.Rep x)
theorem que (n:Nat) (x:PV) (h:TyP Tryz.prog n 33 x):∃ a:qc,x=qE qi a∧qc.ok a:=by
 obtain ⟨xs,rfl,m,hp0⟩:=qeK Tryz.underlying33 h
 obtain ⟨y0,zs0,rfl,h0,hp1⟩:=Zz hp0
 obtain ⟨a0,rfl,k0⟩:=qoB _ _ h0
 obtain ⟨y1,zs1,rfl,h1,hp2⟩:=Zz hp1
 obtain ⟨a1,rfl,k1⟩:=qoB _ _ h1
 obtain rfl:=qd4 hp2
 exact ⟨qc.mk a0 a1,rfl,⟨k0,k1⟩⟩
theorem qH6 (n:Nat) (x:PV) (h:TyP Tryz.prog n 9 x):∃ a:List UInt8,x=qE .s a∧(a).length≤reachBytes:=qOn Tryz.underlying9 h
structure qd.ok (x:qd):Prop where
 S:qc.ok (qd.S x)
 V:(qd.V x).length≤reachBytes
theorem qFh (n:Nat) (x:PV) (h:TyP Tryz.prog n 38 x):∃ a:qd,x=qE qp a∧qd.ok a:=by
 obtain ⟨xs,rfl,m,hp0⟩:=qeK Tryz.underlying38 h
 obtain ⟨y0,zs0,rfl,h0,hp1⟩:=Zz hp0
 obtain ⟨a0,rfl,k0⟩:=que _ _ h0
 obtain ⟨y1,zs1,rfl,h1,hp2⟩:=Zz hp1
 obtain ⟨a1,rfl,k1⟩:=qH6 _ _ h1
 obtain rfl:=qd4 hp2
 exact ⟨qd.mk a0 a1,rfl,⟨k0,k1⟩⟩
structure qb.ok (x:qb):Prop where
 No:qt (qb.No x)
 C:qd.ok (qb.C x)
theorem qFF (n:Nat) (x:PV) (h:TyP Tryz.prog n 72 x):∃ a:qb,x=qE qx a∧qb.ok a:=by
 obtain ⟨xs,rfl,m,hp0⟩:=qeK Tryz.underlying72 h
 obtain ⟨y0,zs0,rfl,h0,hp1⟩:=Zz hp0
 obtain ⟨a0,rfl,k0⟩:=qoB _ _ h0
 obtain ⟨y1,zs1,rfl,h1,hp2⟩:=Zz hp1
 obtain ⟨a1,rfl,k1⟩:=qFh _ _ h1
 obtain rfl:=qd4 hp2
 exact ⟨qb.mk a0 a1,rfl,⟨k0,k1⟩⟩
theorem qFA (n:Nat) (x:PV) (h:TyP Tryz.prog n 34 x):∃ a:List qb,x=qE (.sl 4 qx) a∧((a).length * 40≤reachBytes∧∀ ea∈a,qb.ok ea):=qEd Tryz.underlying34 (by kernel_rfl) (by kernel_rfl) (by kernel_rfl) qFF h
structure qa.ok (x:qa):Prop where
 ID:True
 qH:qc.ok (qa.qH x)
 F:((qa.F x).length * 40≤reachBytes∧∀ eT_api_RecFx∈qa.F x,qb.ok eT_api_RecFx)
theorem qFj (n:Nat) (x:PV) (h:TyP Tryz.prog n 36 x):∃ a:qa,x=qE qf a∧qa.ok a:=by
 obtain ⟨xs,rfl,m,hp0⟩:=qeK Tryz.underlying36 h
 obtain ⟨y0,zs0,rfl,h0,hp1⟩:=Zz hp0
 obtain ⟨a0,rfl,k0⟩:=qFb _ _ h0
 obtain ⟨y1,zs1,rfl,h1,hp2⟩:=Zz hp1
 obtain ⟨a1,rfl,k1⟩:=que _ _ h1
 obtain ⟨y2,zs2,rfl,h2,hp3⟩:=Zz hp2
 obtain ⟨a2,rfl,k2⟩:=qFA _ _ h2
 obtain rfl:=qd4 hp3
 exact ⟨qa.mk a0 a1 a2,rfl,⟨k0,k1,k2⟩⟩
theorem qFf (n:Nat) (x:PV) (h:TyP Tryz.prog n 22 x):∃ a:List qa,x=qE (.sl 19 qf) a∧((a).length * 56≤reachBytes∧∀ ea∈a,qa.ok ea):=qEd Tryz.underlying22 (by kernel_rfl) (by kernel_rfl) (by kernel_rfl) qFj h
structure qe.ok (x:qe):Prop where
 R:((qe.R x).length * 56≤reachBytes∧∀ eT_api_BookRx∈qe.R x,qa.ok eT_api_BookRx)
theorem quR (n:Nat) (x:PV) (h:TyP Tryz.prog n 24 x):∃ a:qe,x=qE qu a∧qe.ok a:=by
 obtain ⟨xs,rfl,m,hp0⟩:=qeK Tryz.underlying24 h
 obtain ⟨y0,zs0,rfl,h0,hp1⟩:=Zz hp0
 obtain ⟨a0,rfl,k0⟩:=qFf _ _ h0
 obtain rfl:=qd4 hp1
 exact ⟨qe.mk a0,rfl,⟨k0⟩⟩
theorem qzK (law:∀ (b0:qe) (b1:qe),qe.ok b0→qe.ok b1→∃ N:Nat,vF N b0 b1=some true) (xs:List PV) (hp0:qdJ (TyP Tryz.prog 12) [24,24] xs):Valid Tryz.prog 0 (.fn (.func 8) [] []) (xs.map .pv) [] (.ret (.pv (.b true))) []:=by
 obtain ⟨y0,zs0,rfl,h0,hp1⟩:=Zz hp0
 obtain ⟨a0,rfl,k0⟩:=quR _ _ h0
 obtain ⟨y1,zs1,rfl,h1,hp2⟩:=Zz hp1
 obtain ⟨a1,rfl,k1⟩:=quR _ _ h1
 obtain rfl:=qd4 hp2
 obtain ⟨N,hN⟩:=law a0 a1 k0 k1
 exact qfr N (a0,a1,()) true hN 0
end Go.Rx
namespace Go.Proofs.YtmnngfcoenhhkaaGreat
open Go.Rx Go.ChangeShapes Go.WideShapes Go.ChangeAt Go.RowKit
theorem qyJ:ownKnob Tryz.prog.godebug=none:=by kernel_rfl
theorem qw2:laidOutB Tryz.prog=true:=by kernel_rfl
theorem qAW:Tryz.f8.body=some qgM:=by kernel_rfl
theorem qth (law : ∀ (b0 : qe) (b1 : qe), qe.ok b0 → qe.ok b1 → ∃ N : Nat, vF N b0 b1 = some true) (os : Os) (started : os.Started) (H : Type) (enc : TypeId × Value → H) :
    ReturnsInHanded {} Tryz.checked os 8 .any (Rows.aboveLessSpec.pre6 enc Tryz.prog Tryz.f8 Rows.aboveLessRow.domain false) (Rows.aboveLessSpec.post enc Tryz.prog Tryz.f8 false true false false):=by
 refine returnsInHanded_of_change_sized (C:=Tryz.checked) qyJ started (by kernel_rfl) Tryz.func8
  (ChangeSpec.witness6 (enc:=enc) (C:=Tryz.checked) false ⟨#[],#[.agg #[.slice none 0 0],.agg #[.slice none 0 0]],[]⟩ 12 (by kernel_rfl) (by kernel_rfl) (by kernel_rfl) (by kernel_rfl)) ?_
 intro W base args ds gs before hval hW _ hsz _
 exact qD1 (P:=Tryz.prog) (K:=8) (n:=12) (tb:=4) (f:=Tryz.f8) (s:=Rows.aboveLessSpec) Tryz.func8 qAW (by kernel_rfl) qw2 (by kernel_rfl) rfl (by kernel_rfl) Tryz.underlying4
  (fun ds h=>by
   match ds,h with
   | [d0,d1],_=>rfl)
  (fun xs hp=>qzK law xs hp) W base args ds gs before hval hW hsz
theorem AboveLess_row (law:∀ (b0:qe) (b1:qe),qe.ok b0→qe.ok b1→∃ N:Nat,vF N b0 b1=some true):Rows.AboveLessSaid:=
 OpenClaim.holds_of_wide 8 Tryz.f8 rfl rfl rfl rfl rfl rfl rfl ⟨rfl,rfl,rfl,rfl,rfl⟩ rfl rfl rfl rfl rfl (by kernel_rfl) Tryz.func8 (by kernel_rfl)
  (of_decide_eq_true (by kernel_rfl)) (by unfold Func.isWrapper; first | (rw [if_pos (by decide +kernel)]; kernel_rfl) | (rw [if_neg (by decide +kernel)]; exact ⟨rfl,rfl⟩))
  (fun os started H enc _=>qth law os started H enc)
end Go.Proofs.YtmnngfcoenhhkaaGreat
namespace Go.Rx
theorem qiQ {b:qe} (h:qe.ok b):b.R.length≤4611686018427387904∧∀ k,k < b.R.length→(b.R.getD k zR).F.length≤4611686018427387904:=by
 have h1:=h.R.1
 have hr:reachBytes≤4611686018427387904:=by decide +kernel
 refine ⟨by have h1:(qe.R b).length * 56≤reachBytes:=h1; omega,fun k hk=>?_⟩
 have hm:b.R.getD k zR∈b.R:=by
  rw [List.getD_eq_getElem?_getD,List.getElem?_eq_getElem hk]; exact List.getElem_mem hk
 have h2:=(h.R.2 _ hm).F.1
 omega
end Go.Rx
namespace Go.Proofs.YtmnngfcoenhhkaaGreat
theorem aboveLess_holds:Rows.AboveLessSaid:=AboveLess_row fun a b ha hb=>Go.Rx.qHh a b (Go.Rx.qiQ ha).1 (Go.Rx.qiQ ha).2 (Go.Rx.qiQ hb).1 (Go.Rx.qiQ hb).2
end Go.Proofs.YtmnngfcoenhhkaaGreat
