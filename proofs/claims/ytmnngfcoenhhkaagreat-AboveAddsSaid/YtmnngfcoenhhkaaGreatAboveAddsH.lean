/- A part of the proof of AboveAdds: the law returns true for every input, and its arguments read as before. No condition. -/
import Derived.Test.YtmnngfcoenhhkaaGreatRows
import Derived.ProofKit
import Derived.Test.YtmnngfcoenhhkaaGreatAboveAddsG
set_option linter.unusedSimpArgs false
set_option linter.unusedVariables false
set_option linter.unusedSectionVars false
set_option maxRecDepth 100000
namespace Go.Rx
open Go.Proofs
theorem qxw (n:Nat) (x:PV) (h:TyP Tryz.prog n 31 x):∃ a:Vector UInt8 16,x=qv (.ba 16) a∧True:=qCS Tryz.underlying31 (by kernel_rfl) h
theorem qi0 (n:Nat) (x:PV) (h:TyP Tryz.prog n 3 x):∃ a:Int,x=qv (.i .i64) a∧qx (a):=qDR Tryz.underlying3 h
structure qd.ok (x:qd):Prop where
 N:qx (qd.N x)
 Rep:qx (qd.Rep x)
theorem qni (n:Nat) (x:PV) (h:TyP Tryz.prog n 33 x):∃ a:qd,x=qv ql a∧qd.ok a:=by
 obtain ⟨xs,rfl,m,hp0⟩:=qbt Tryz.underlying33 h
 obtain ⟨y0,zs0,rfl,h0,hp1⟩:=QK hp0
 obtain ⟨a0,rfl,k0⟩:=qi0 _ _ h0
 obtain ⟨y1,zs1,rfl,h1,hp2⟩:=QK hp1
 obtain ⟨a1,rfl,k1⟩:=qi0 _ _ h1
 obtain rfl:=qaH hp2
 exact ⟨qd.mk a0 a1,rfl,⟨k0,k1⟩⟩
theorem qzC (n:Nat) (x:PV) (h:TyP Tryz.prog n 9 x):∃ a:List UInt8,x=qv .s a∧(a).length≤reachBytes:=qD_ Tryz.underlying9 h
structure qc.ok (x:qc):Prop where
 S:qd.ok (qc.S x)
 V:(qc.V x).length≤reachBytes
theorem qx2 (n:Nat) (x:PV) (h:TyP Tryz.prog n 38 x):∃ a:qc,x=qv qm a∧qc.ok a:=by
 obtain ⟨xs,rfl,m,hp0⟩:=qbt Tryz.underlying38 h
 obtain ⟨y0,zs0,rfl,h0,hp1⟩:=QK hp0
 obtain ⟨a0,rfl,k0⟩:=qni _ _ h0
 obtain ⟨y1,zs1,rfl,h1,hp2⟩:=QK hp1
 obtain ⟨a1,rfl,k1⟩:=qzC _ _ h1
 obtain rfl:=qaH hp2
 exact ⟨qc.mk a0 a1,rfl,⟨k0,k1⟩⟩
structure qb.ok (x:qb):Prop where
 No:qx (qb.No x)
 C:qc.ok (qb.C x)
theorem qw6 (n:Nat) (x:PV) (h:TyP Tryz.prog n 72 x):∃ a:qb,x=qv qq a∧qb.ok a:=by
 obtain ⟨xs,rfl,m,hp0⟩:=qbt Tryz.underlying72 h
 obtain ⟨y0,zs0,rfl,h0,hp1⟩:=QK hp0
 obtain ⟨a0,rfl,k0⟩:=qi0 _ _ h0
 obtain ⟨y1,zs1,rfl,h1,hp2⟩:=QK hp1
 obtain ⟨a1,rfl,k1⟩:=qx2 _ _ h1
 obtain rfl:=qaH hp2
 exact ⟨qb.mk a0 a1,rfl,⟨k0,k1⟩⟩
theorem qwD (n:Nat) (x:PV) (h:TyP Tryz.prog n 34 x):∃ a:List qb,x=qv (.sl 4 qq) a∧((a).length * 40≤reachBytes∧∀ ea∈a,qb.ok ea):=qwc Tryz.underlying34 (by kernel_rfl) (by kernel_rfl) (by kernel_rfl) qw6 h
structure qa.ok (x:qa):Prop where
 ID:True
 qQ:qd.ok (qa.qQ x)
 F:((qa.F x).length * 40≤reachBytes∧∀ eT_api_RecFx∈qa.F x,qb.ok eT_api_RecFx)
theorem qnW (n:Nat) (x:PV) (h:TyP Tryz.prog n 36 x):∃ a:qa,x=qv qf a∧qa.ok a:=by
 obtain ⟨xs,rfl,m,hp0⟩:=qbt Tryz.underlying36 h
 obtain ⟨y0,zs0,rfl,h0,hp1⟩:=QK hp0
 obtain ⟨a0,rfl,k0⟩:=qxw _ _ h0
 obtain ⟨y1,zs1,rfl,h1,hp2⟩:=QK hp1
 obtain ⟨a1,rfl,k1⟩:=qni _ _ h1
 obtain ⟨y2,zs2,rfl,h2,hp3⟩:=QK hp2
 obtain ⟨a2,rfl,k2⟩:=qwD _ _ h2
 obtain rfl:=qaH hp3
 exact ⟨qa.mk a0 a1 a2,rfl,⟨k0,k1,k2⟩⟩
theorem qwK (n:Nat) (x:PV) (h:TyP Tryz.prog n 22 x):∃ a:List qa,x=qv (.sl 19 qf) a∧((a).length * 56≤reachBytes∧∀ ea∈a,qa.ok ea):=qwc Tryz.underlying22 (by kernel_rfl) (by kernel_rfl) (by kernel_rfl) qnW h
structure qe.ok (x:qe):Prop where
 R:((qe.R x).length * 56≤reachBytes∧∀ eT_api_BookRx∈qe.R x,qa.ok eT_api_BookRx)
theorem qxx (n:Nat) (x:PV) (h:TyP Tryz.prog n 24 x):∃ a:qe,x=qv qL a∧qe.ok a:=by
 obtain ⟨xs,rfl,m,hp0⟩:=qbt Tryz.underlying24 h
 obtain ⟨y0,zs0,rfl,h0,hp1⟩:=QK hp0
 obtain ⟨a0,rfl,k0⟩:=qwK _ _ h0
 obtain rfl:=qaH hp1
 exact ⟨qe.mk a0,rfl,⟨k0⟩⟩
theorem qqZ (law:∀ (b0:qe) (b1:qa),qe.ok b0→qa.ok b1→∃ N:Nat,jI N b0 b1=some true) (xs:List PV) (hp0:qaT (TyP Tryz.prog 12) [24,36] xs):Valid Tryz.prog 0 (.fn (.func 7) [] []) (xs.map .pv) [] (.ret (.pv (.b true))) []:=by
 obtain ⟨y0,zs0,rfl,h0,hp1⟩:=QK hp0
 obtain ⟨a0,rfl,k0⟩:=qxx _ _ h0
 obtain ⟨y1,zs1,rfl,h1,hp2⟩:=QK hp1
 obtain ⟨a1,rfl,k1⟩:=qnW _ _ h1
 obtain rfl:=qaH hp2
 obtain ⟨N,hN⟩:=law a0 a1 k0 k1
 exact qbQ N (a0,a1,()) true hN 0
end Go.Rx
namespace Go.Proofs.YtmnngfcoenhhkaaGreat
open Go.Rx Go.ChangeShapes Go.WideShapes Go.ChangeAt Go.RowKit
theorem qqG:ownKnob Tryz.prog.godebug=none:=by kernel_rfl
theorem qoO:laidOutB Tryz.prog=true:=by kernel_rfl
theorem qtS:Tryz.f7.body=some qvZ:=by kernel_rfl
theorem qmC (law : ∀ (b0 : qe) (b1 : qa), qe.ok b0 → qa.ok b1 → ∃ N : Nat, jI N b0 b1 = some true) (os : Os) (started : os.Started) (H : Type) (enc : TypeId × Value → H) :
    ReturnsInHanded {} Tryz.checked os 7 .any (Rows.aboveAddsSpec.pre6 enc Tryz.prog Tryz.f7 Rows.aboveAddsRow.domain false) (Rows.aboveAddsSpec.post enc Tryz.prog Tryz.f7 false true false false):=by
 refine returnsInHanded_of_change_sized (C:=Tryz.checked) qqG started (by kernel_rfl) Tryz.func7
  (ChangeSpec.witness6 (enc:=enc) (C:=Tryz.checked) false ⟨#[],#[.agg #[.slice none 0 0],.agg #[.int .u8 0,.int .u8 0,.int .u8 0,.int .u8 0,.int .u8 0,.int .u8 0,.int .u8 0,.int .u8 0,.int .u8 0,.int .u8 0,.int .u8 0,.int .u8 0,.int .u8 0,.int .u8 0,.int .u8 0,.int .u8 0,.int .i64 0,.int .i64 0,.slice none 0 0]],[]⟩ 12 (by kernel_rfl) (by kernel_rfl) (by kernel_rfl) (by kernel_rfl)) ?_
 intro W base args ds gs before hval hW _ hsz _
 exact quM (P:=Tryz.prog) (K:=7) (n:=12) (tb:=4) (f:=Tryz.f7) (s:=Rows.aboveAddsSpec) Tryz.func7 qtS (by kernel_rfl) qoO (by kernel_rfl) rfl (by kernel_rfl) Tryz.underlying4
  (fun ds h=>by
   match ds,h with
   | [d0,d1],_=>rfl)
  (fun xs hp=>qqZ law xs hp) W base args ds gs before hval hW hsz
theorem AboveAdds_row (law:∀ (b0:qe) (b1:qa),qe.ok b0→qa.ok b1→∃ N:Nat,jI N b0 b1=some true):Rows.AboveAddsSaid:=
 OpenClaim.holds_of_wide 7 Tryz.f7 rfl rfl rfl rfl rfl rfl rfl ⟨rfl,rfl,rfl,rfl,rfl⟩ rfl rfl rfl rfl rfl (by kernel_rfl) Tryz.func7 (by kernel_rfl)
  (of_decide_eq_true (by kernel_rfl)) (by unfold Func.isWrapper; first | (rw [if_pos (by decide +kernel)]; kernel_rfl) | (rw [if_neg (by decide +kernel)]; exact ⟨rfl,rfl⟩))
  (fun os started H enc _=>qmC law os started H enc)
end Go.Proofs.YtmnngfcoenhhkaaGreat
namespace Go.Rx
theorem qqa {b:qe} (h:qe.ok b):b.R.length≤4611686018427387904∧∀ k,k < b.R.length→(b.R.getD k zR).F.length≤4611686018427387904:=by
 have h1:=h.R.1
 have hr:reachBytes≤4611686018427387904:=by decide +kernel
 refine ⟨by have h1:(qe.R b).length * 56≤reachBytes:=h1; omega,fun k hk=>?_⟩
 have hm:b.R.getD k zR∈b.R:=by
  rw [List.getD_eq_getElem?_getD,List.getElem?_eq_getElem hk]; exact List.getElem_mem hk
 have h2:=(h.R.2 _ hm).F.1
 omega
theorem qBC {r:qa} (h:qa.ok r):r.F.length≤4611686018427387904:=by
 have h1:=h.F.1
 have hr:reachBytes≤4611686018427387904:=by decide +kernel
 omega
end Go.Rx
namespace Go.Proofs.YtmnngfcoenhhkaaGreat
theorem aboveAdds_holds:Rows.AboveAddsSaid:=AboveAdds_row fun b p hb hp=>Go.Rx.qzj b p (Go.Rx.qqa hb).1 (Go.Rx.qqa hb).2 (Go.Rx.qBC hp)
end Go.Proofs.YtmnngfcoenhhkaaGreat
