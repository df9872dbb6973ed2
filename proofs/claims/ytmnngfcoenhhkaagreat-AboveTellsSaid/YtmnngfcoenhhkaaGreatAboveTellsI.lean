/- A part of the proof of AboveTells: the law returns true for every input, and its arguments read as before. No condition. -/
import Derived.Test.YtmnngfcoenhhkaaGreatRows
import Derived.ProofKit
import Derived.Test.YtmnngfcoenhhkaaGreatAboveTellsH
set_option linter.unusedSimpArgs false
set_option linter.unusedVariables false
set_option linter.unusedSectionVars false
set_option maxRecDepth 100000
namespace Go.Rx
open Go.Proofs
theorem quy (n:Nat) (x:PV) (h:TyP Tryz.prog n 31 x):∃ a:Vector UInt8 16,x=qG (.ba 16) a∧True:=qL6 Tryz.underlying31 (by kernel_rfl) h
theorem qg1 (n:Nat) (x:PV) (h:TyP Tryz.prog n 3 x):∃ a:Int,x=qG (.i .i64) a∧qp (a):=qVY Tryz.underlying3 h
structure qc.ok (x:qc):Prop where
 N:qp (qc.N x)
 Rep:qp (qc.Rep x)
theorem qmh (n:Nat) (x:PV) (h:TyP Tryz.prog n 33 x):∃ a:qc,x=qG qh a∧qc.ok a:=by
 obtain ⟨xs,rfl,m,hp0⟩:=Kf Tryz.underlying33 h
 obtain ⟨y0,zs0,rfl,h0,hp1⟩:=zX hp0
 obtain ⟨a0,rfl,k0⟩:=qg1 _ _ h0
 obtain ⟨y1,zs1,rfl,h1,hp2⟩:=zX hp1
 obtain ⟨a1,rfl,k1⟩:=qg1 _ _ h1
 obtain rfl:=Ko hp2
 exact ⟨qc.mk a0 a1,rfl,⟨k0,k1⟩⟩
theorem qPA (n:Nat) (x:PV) (h:TyP Tryz.prog n 9 x):∃ a:List UInt8,x=qG .s a∧(a).length≤reachBytes:=qWw Tryz.underlying9 h
structure qe.ok (x:qe):Prop where
 S:qc.ok (qe.S x)
 V:(qe.V x).length≤reachBytes
theorem qDS (n:Nat) (x:PV) (h:TyP Tryz.prog n 38 x):∃ a:qe,x=qG qq a∧qe.ok a:=by
 obtain ⟨xs,rfl,m,hp0⟩:=Kf Tryz.underlying38 h
 obtain ⟨y0,zs0,rfl,h0,hp1⟩:=zX hp0
 obtain ⟨a0,rfl,k0⟩:=qmh _ _ h0
 obtain ⟨y1,zs1,rfl,h1,hp2⟩:=zX hp1
 obtain ⟨a1,rfl,k1⟩:=qPA _ _ h1
 obtain rfl:=Ko hp2
 exact ⟨qe.mk a0 a1,rfl,⟨k0,k1⟩⟩
structure qd.ok (x:qd):Prop where
 No:qp (qd.No x)
 C:qe.ok (qd.C x)
theorem qNP (n:Nat) (x:PV) (h:TyP Tryz.prog n 72 x):∃ a:qd,x=qG qB a∧qd.ok a:=by
 obtain ⟨xs,rfl,m,hp0⟩:=Kf Tryz.underlying72 h
 obtain ⟨y0,zs0,rfl,h0,hp1⟩:=zX hp0
 obtain ⟨a0,rfl,k0⟩:=qg1 _ _ h0
 obtain ⟨y1,zs1,rfl,h1,hp2⟩:=zX hp1
 obtain ⟨a1,rfl,k1⟩:=qDS _ _ h1
 obtain rfl:=Ko hp2
 exact ⟨qd.mk a0 a1,rfl,⟨k0,k1⟩⟩
theorem qM5 (n:Nat) (x:PV) (h:TyP Tryz.prog n 34 x):∃ a:List qd,x=qG (.sl 4 qB) a∧((a).length * 40≤reachBytes∧∀ ea∈a,qd.ok ea):=qrQ Tryz.underlying34 (by kernel_rfl) (by kernel_rfl) (by kernel_rfl) qNP h
structure qa.ok (x:qa):Prop where
 ID:True
 qz:qc.ok (qa.qz x)
 F:((qa.F x).length * 40≤reachBytes∧∀ eT_api_RecFx∈qa.F x,qd.ok eT_api_RecFx)
theorem qEt (n:Nat) (x:PV) (h:TyP Tryz.prog n 36 x):∃ a:qa,x=qG qf a∧qa.ok a:=by
 obtain ⟨xs,rfl,m,hp0⟩:=Kf Tryz.underlying36 h
 obtain ⟨y0,zs0,rfl,h0,hp1⟩:=zX hp0
 obtain ⟨a0,rfl,k0⟩:=quy _ _ h0
 obtain ⟨y1,zs1,rfl,h1,hp2⟩:=zX hp1
 obtain ⟨a1,rfl,k1⟩:=qmh _ _ h1
 obtain ⟨y2,zs2,rfl,h2,hp3⟩:=zX hp2
 obtain ⟨a2,rfl,k2⟩:=qM5 _ _ h2
 obtain rfl:=Ko hp3
 exact ⟨qa.mk a0 a1 a2,rfl,⟨k0,k1,k2⟩⟩
theorem qNG (n:Nat) (x:PV) (h:TyP Tryz.prog n 22 x):∃ a:List qa,x=qG (.sl 19 qf) a∧((a).length * 56≤reachBytes∧∀ ea∈a,qa.ok ea):=qrQ Tryz.underlying22 (by kernel_rfl) (by kernel_rfl) (by kernel_rfl) qEt h
structure qb.ok (x:qb):Prop where
 R:((qb.R x).length * 56≤reachBytes∧∀ eT_api_BookRx∈qb.R x,qa.ok eT_api_BookRx)
theorem qOy (n:Nat) (x:PV) (h:TyP Tryz.prog n 24 x):∃ a:qb,x=qG qj a∧qb.ok a:=by
 obtain ⟨xs,rfl,m,hp0⟩:=Kf Tryz.underlying24 h
 obtain ⟨y0,zs0,rfl,h0,hp1⟩:=zX hp0
 obtain ⟨a0,rfl,k0⟩:=qNG _ _ h0
 obtain rfl:=Ko hp1
 exact ⟨qb.mk a0,rfl,⟨k0⟩⟩
theorem quN (n:Nat) (x:PV) (h:TyP Tryz.prog n 26 x):∃ a:Vector UInt8 32,x=qG (.ba 32) a∧True:=qL6 Tryz.underlying26 (by kernel_rfl) h
theorem qLj (n:Nat) (x:PV) (h:TyP Tryz.prog n 114 x):∃ a:Int,x=qG (.i .u32) a∧(Lit.int .u32 (a)).wf=true:=qQL Tryz.underlying114 h
structure zy.ok (x:zy):Prop where
 vZ:(Lit.int .u32 (zy.vZ x)).wf=true
 qWo:True
theorem qLq (n:Nat) (x:PV) (h:TyP Tryz.prog n 116 x):∃ a:zy,x=qG VB a∧zy.ok a:=by
 obtain ⟨xs,rfl,m,hp0⟩:=Kf Tryz.underlying116 h
 obtain ⟨y0,zs0,rfl,h0,hp1⟩:=zX hp0
 obtain ⟨a0,rfl,k0⟩:=qLj _ _ h0
 obtain ⟨y1,zs1,rfl,h1,hp2⟩:=zX hp1
 obtain ⟨a1,rfl,k1⟩:=quN _ _ h1
 obtain rfl:=Ko hp2
 exact ⟨zy.mk a0 a1,rfl,⟨k0,k1⟩⟩
theorem qNI (n:Nat) (x:PV) (h:TyP Tryz.prog n 59 x):∃ a:List zy,x=qG (.sl 33 VB) a∧((a).length * 36≤reachBytes∧∀ ea∈a,zy.ok ea):=qrQ Tryz.underlying59 (by kernel_rfl) (by kernel_rfl) (by kernel_rfl) qLq h
structure qm.ok (x:qm):Prop where
 No:qp (qm.No x)
 S:qc.ok (qm.S x)
 Len:qp (qm.Len x)
 D:True
 B:((qm.B x).length * 36≤reachBytes∧∀ eT_api_EntryBx∈qm.B x,zy.ok eT_api_EntryBx)
theorem qOm (n:Nat) (x:PV) (h:TyP Tryz.prog n 61 x):∃ a:qm,x=qG qX a∧qm.ok a:=by
 obtain ⟨xs,rfl,m,hp0⟩:=Kf Tryz.underlying61 h
 obtain ⟨y0,zs0,rfl,h0,hp1⟩:=zX hp0
 obtain ⟨a0,rfl,k0⟩:=qg1 _ _ h0
 obtain ⟨y1,zs1,rfl,h1,hp2⟩:=zX hp1
 obtain ⟨a1,rfl,k1⟩:=qmh _ _ h1
 obtain ⟨y2,zs2,rfl,h2,hp3⟩:=zX hp2
 obtain ⟨a2,rfl,k2⟩:=qg1 _ _ h2
 obtain ⟨y3,zs3,rfl,h3,hp4⟩:=zX hp3
 obtain ⟨a3,rfl,k3⟩:=quN _ _ h3
 obtain ⟨y4,zs4,rfl,h4,hp5⟩:=zX hp4
 obtain ⟨a4,rfl,k4⟩:=qNI _ _ h4
 obtain rfl:=Ko hp5
 exact ⟨qm.mk a0 a1 a2 a3 a4,rfl,⟨k0,k1,k2,k3,k4⟩⟩
theorem qM1 (n:Nat) (x:PV) (h:TyP Tryz.prog n 54 x):∃ a:List qm,x=qG (.sl 37 qX) a∧((a).length * 88≤reachBytes∧∀ ea∈a,qm.ok ea):=qrQ Tryz.underlying54 (by kernel_rfl) (by kernel_rfl) (by kernel_rfl) qOm h
structure qn.ok (x:qn):Prop where
 ID:True
 qz:qc.ok (qn.qz x)
 F:((qn.F x).length * 88≤reachBytes∧∀ eT_api_LineFx∈qn.F x,qm.ok eT_api_LineFx)
theorem qOh (n:Nat) (x:PV) (h:TyP Tryz.prog n 56 x):∃ a:qn,x=qG qZ a∧qn.ok a:=by
 obtain ⟨xs,rfl,m,hp0⟩:=Kf Tryz.underlying56 h
 obtain ⟨y0,zs0,rfl,h0,hp1⟩:=zX hp0
 obtain ⟨a0,rfl,k0⟩:=quy _ _ h0
 obtain ⟨y1,zs1,rfl,h1,hp2⟩:=zX hp1
 obtain ⟨a1,rfl,k1⟩:=qmh _ _ h1
 obtain ⟨y2,zs2,rfl,h2,hp3⟩:=zX hp2
 obtain ⟨a2,rfl,k2⟩:=qM1 _ _ h2
 obtain rfl:=Ko hp3
 exact ⟨qn.mk a0 a1 a2,rfl,⟨k0,k1,k2⟩⟩
theorem qNo (n:Nat) (x:PV) (h:TyP Tryz.prog n 27 x):∃ a:List qn,x=qG (.sl 19 qZ) a∧((a).length * 56≤reachBytes∧∀ ea∈a,qn.ok ea):=qrQ Tryz.underlying27 (by kernel_rfl) (by kernel_rfl) (by kernel_rfl) qOh h
structure qg.ok (x:qg):Prop where
 qWP:True
 L:((qg.L x).length * 56≤reachBytes∧∀ eT_api_ManifestLx∈qg.L x,qn.ok eT_api_ManifestLx)
theorem qOg (n:Nat) (x:PV) (h:TyP Tryz.prog n 29 x):∃ a:qg,x=qG qo a∧qg.ok a:=by
 obtain ⟨xs,rfl,m,hp0⟩:=Kf Tryz.underlying29 h
 obtain ⟨y0,zs0,rfl,h0,hp1⟩:=zX hp0
 obtain ⟨a0,rfl,k0⟩:=quN _ _ h0
 obtain ⟨y1,zs1,rfl,h1,hp2⟩:=zX hp1
 obtain ⟨a1,rfl,k1⟩:=qNo _ _ h1
 obtain rfl:=Ko hp2
 exact ⟨qg.mk a0 a1,rfl,⟨k0,k1⟩⟩
theorem qGg (law:∀ (b0:qb) (b1:qg) (b2:qa) (b3:qe) (b4:Vector UInt8 16) (b5:Int),qb.ok b0→qg.ok b1→qa.ok b2→qe.ok b3→True→qp (b5)→∃ N:Nat,vR N b0 b1 b2 b3 b4 b5=some true) (xs:List PV) (hp0:qjF (TyP Tryz.prog 12) [24,29,36,38,31,3] xs):Valid Tryz.prog 0 (.fn (.func 3) [] []) (xs.map .pv) [] (.ret (.pv (.b true))) []:=by
 obtain ⟨y0,zs0,rfl,h0,hp1⟩:=zX hp0
 obtain ⟨a0,rfl,k0⟩:=qOy _ _ h0
 obtain ⟨y1,zs1,rfl,h1,hp2⟩:=zX hp1
 obtain ⟨a1,rfl,k1⟩:=qOg _ _ h1
 obtain ⟨y2,zs2,rfl,h2,hp3⟩:=zX hp2
 obtain ⟨a2,rfl,k2⟩:=qEt _ _ h2
 obtain ⟨y3,zs3,rfl,h3,hp4⟩:=zX hp3
 obtain ⟨a3,rfl,k3⟩:=qDS _ _ h3
 obtain ⟨y4,zs4,rfl,h4,hp5⟩:=zX hp4
 obtain ⟨a4,rfl,k4⟩:=quy _ _ h4
 obtain ⟨y5,zs5,rfl,h5,hp6⟩:=zX hp5
 obtain ⟨a5,rfl,k5⟩:=qg1 _ _ h5
 obtain rfl:=Ko hp6
 obtain ⟨N,hN⟩:=law a0 a1 a2 a3 a4 a5 k0 k1 k2 k3 k4 k5
 exact qk4 N (a0,a1,a2,a3,a4,a5,()) true hN 0
end Go.Rx
namespace Go.Proofs.YtmnngfcoenhhkaaGreat
open Go.Rx Go.ChangeShapes Go.WideShapes Go.ChangeAt Go.RowKit
theorem qFp:ownKnob Tryz.prog.godebug=none:=by kernel_rfl
theorem qE7:laidOutB Tryz.prog=true:=by kernel_rfl
theorem qHP:Tryz.f3.body=some qLY:=by kernel_rfl
theorem qAu (law : ∀ (b0 : qb) (b1 : qg) (b2 : qa) (b3 : qe) (b4 : Vector UInt8 16) (b5 : Int), qb.ok b0 → qg.ok b1 → qa.ok b2 → qe.ok b3 → True → qp (b5) → ∃ N : Nat, vR N b0 b1 b2 b3 b4 b5 = some true) (os : Os) (started : os.Started) (H : Type) (enc : TypeId × Value → H) :
    ReturnsInHanded {} Tryz.checked os 3 .any (Rows.aboveTellsSpec.pre6 enc Tryz.prog Tryz.f3 Rows.aboveTellsRow.domain false) (Rows.aboveTellsSpec.post enc Tryz.prog Tryz.f3 false true false false):=by
 refine returnsInHanded_of_change_sized (C:=Tryz.checked) qFp started (by kernel_rfl) Tryz.func3
  (ChangeSpec.witness6 (enc:=enc) (C:=Tryz.checked) false ⟨#[],#[.agg #[.slice none 0 0],.agg #[.int .u8 0,.int .u8 0,.int .u8 0,.int .u8 0,.int .u8 0,.int .u8 0,.int .u8 0,.int .u8 0,.int .u8 0,.int .u8 0,.int .u8 0,.int .u8 0,.int .u8 0,.int .u8 0,.int .u8 0,.int .u8 0,.int .u8 0,.int .u8 0,.int .u8 0,.int .u8 0,.int .u8 0,.int .u8 0,.int .u8 0,.int .u8 0,.int .u8 0,.int .u8 0,.int .u8 0,.int .u8 0,.int .u8 0,.int .u8 0,.int .u8 0,.int .u8 0,.slice none 0 0],.agg #[.int .u8 0,.int .u8 0,.int .u8 0,.int .u8 0,.int .u8 0,.int .u8 0,.int .u8 0,.int .u8 0,.int .u8 0,.int .u8 0,.int .u8 0,.int .u8 0,.int .u8 0,.int .u8 0,.int .u8 0,.int .u8 0,.int .i64 0,.int .i64 0,.slice none 0 0],.agg #[.int .i64 0,.int .i64 0,.string ⟨#[]⟩],.agg #[.int .u8 0,.int .u8 0,.int .u8 0,.int .u8 0,.int .u8 0,.int .u8 0,.int .u8 0,.int .u8 0,.int .u8 0,.int .u8 0,.int .u8 0,.int .u8 0,.int .u8 0,.int .u8 0,.int .u8 0,.int .u8 0],.int .i64 0],[]⟩ 12 (by kernel_rfl) (by kernel_rfl) (by kernel_rfl) (by kernel_rfl)) ?_
 intro W base args ds gs before hval hW _ hsz _
 exact qLG (P:=Tryz.prog) (K:=3) (n:=12) (tb:=4) (f:=Tryz.f3) (s:=Rows.aboveTellsSpec) Tryz.func3 qHP (by kernel_rfl) qE7 (by kernel_rfl) rfl (by kernel_rfl) Tryz.underlying4
  (fun ds h=>by
   match ds,h with
   | [d0,d1,d2,d3,d4,d5],_=>rfl)
  (fun xs hp=>qGg law xs hp) W base args ds gs before hval hW hsz
theorem AboveTells_row (law:∀ (b0:qb) (b1:qg) (b2:qa) (b3:qe) (b4:Vector UInt8 16) (b5:Int),qb.ok b0→qg.ok b1→qa.ok b2→qe.ok b3→True→qp (b5)→∃ N:Nat,vR N b0 b1 b2 b3 b4 b5=some true):Rows.AboveTellsSaid:=
 OpenClaim.holds_of_wide 3 Tryz.f3 rfl rfl rfl rfl rfl rfl rfl ⟨rfl,rfl,rfl,rfl,rfl⟩ rfl rfl rfl rfl rfl (by kernel_rfl) Tryz.func3 (by kernel_rfl)
  (of_decide_eq_true (by kernel_rfl)) (by unfold Func.isWrapper; first | (rw [if_pos (by decide +kernel)]; kernel_rfl) | (rw [if_neg (by decide +kernel)]; exact ⟨rfl,rfl⟩))
  (fun os started H enc _=>qAu law os started H enc)
end Go.Proofs.YtmnngfcoenhhkaaGreat
namespace Go.Rx
theorem qGZ {b:qb} (h:qb.ok b):b.R.length≤4611686018427387904∧∀ k,k < b.R.length→(b.R.getD k zR).F.length≤4611686018427387904:=by
 have h1:=h.R.1
 have hr:reachBytes≤4611686018427387904:=by decide +kernel
 refine ⟨by have h1:(qb.R b).length * 56≤reachBytes:=h1; omega,fun k hk=>?_⟩
 have hm:b.R.getD k zR∈b.R:=by
  rw [List.getD_eq_getElem?_getD,List.getElem?_eq_getElem hk]; exact List.getElem_mem hk
 have h2:=(h.R.2 _ hm).F.1
 omega
theorem qSF {r:qa} (h:qa.ok r):r.F.length≤4611686018427387904:=by
 have h1:=h.F.1
 have hr:reachBytes≤4611686018427387904:=by decide +kernel
 omega
end Go.Rx
namespace Go.Proofs.YtmnngfcoenhhkaaGreat
theorem aboveTells_holds:Rows.AboveTellsSaid:=AboveTells_row fun a m p c id no ha _ hp _ _ _=>Go.Rx.qOt a m p c id no (Go.Rx.qGZ ha).1 (Go.Rx.qGZ ha).2 (Go.Rx.qSF hp)
end Go.Proofs.YtmnngfcoenhhkaaGreat
