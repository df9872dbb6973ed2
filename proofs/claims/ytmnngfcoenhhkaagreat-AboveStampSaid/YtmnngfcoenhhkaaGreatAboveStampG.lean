/- A part of the proof of AboveStamp: the law returns true for every input, and its arguments read as before. No condition. -/
import Derived.Test.YtmnngfcoenhhkaaGreatRows
import Derived.ProofKit
import Derived.Test.YtmnngfcoenhhkaaGreatAboveStampF
set_option linter.unusedSimpArgs false
set_option linter.unusedVariables false
set_option linter.unusedSectionVars false
set_option maxRecDepth 100000
namespace Go.Rx
open Go.Proofs
theorem qll (n:Nat) (x:PV) (h:TyP Tryz.prog n 31 x):∃ a:Vector UInt8 16,x=qp (.ba 16) a∧True:=qy3 Tryz.underlying31 (by kernel_rfl) h
theorem qcb (n:Nat) (x:PV) (h:TyP Tryz.prog n 3 x):∃ a:Int,x=qp (.i .i64) a∧qx (a):=qzH Tryz.underlying3 h
structure qd.ok (x:qd):Prop where
 N:qx (qd.N x)
 Rep:qx (qd.Rep x)
theorem qkD (n:Nat) (x:PV) (h:TyP Tryz.prog n 33 x):∃ a:qd,x=qp qJ a∧qd.ok a:=by
 obtain ⟨xs,rfl,m,hp0⟩:=KH Tryz.underlying33 h
 obtain ⟨y0,zs0,rfl,h0,hp1⟩:=jP hp0
 obtain ⟨a0,rfl,k0⟩:=qcb _ _ h0
 obtain ⟨y1,zs1,rfl,h1,hp2⟩:=jP hp1
 obtain ⟨a1,rfl,k1⟩:=qcb _ _ h1
 obtain rfl:=YU hp2
 exact ⟨qd.mk a0 a1,rfl,⟨k0,k1⟩⟩
theorem qvc (n:Nat) (x:PV) (h:TyP Tryz.prog n 9 x):∃ a:List UInt8,x=qp .s a∧(a).length≤reachBytes:=qzN Tryz.underlying9 h
structure qq.ok (x:qq):Prop where
 S:qd.ok (qq.S x)
 V:(qq.V x).length≤reachBytes
theorem qkP (n:Nat) (x:PV) (h:TyP Tryz.prog n 38 x):∃ a:qq,x=qp zT a∧qq.ok a:=by
 obtain ⟨xs,rfl,m,hp0⟩:=KH Tryz.underlying38 h
 obtain ⟨y0,zs0,rfl,h0,hp1⟩:=jP hp0
 obtain ⟨a0,rfl,k0⟩:=qkD _ _ h0
 obtain ⟨y1,zs1,rfl,h1,hp2⟩:=jP hp1
 obtain ⟨a1,rfl,k1⟩:=qvc _ _ h1
 obtain rfl:=YU hp2
 exact ⟨qq.mk a0 a1,rfl,⟨k0,k1⟩⟩
structure qk.ok (x:qk):Prop where
 No:qx (qk.No x)
 C:qq.ok (qk.C x)
theorem quf (n:Nat) (x:PV) (h:TyP Tryz.prog n 72 x):∃ a:qk,x=qp zN a∧qk.ok a:=by
 obtain ⟨xs,rfl,m,hp0⟩:=KH Tryz.underlying72 h
 obtain ⟨y0,zs0,rfl,h0,hp1⟩:=jP hp0
 obtain ⟨a0,rfl,k0⟩:=qcb _ _ h0
 obtain ⟨y1,zs1,rfl,h1,hp2⟩:=jP hp1
 obtain ⟨a1,rfl,k1⟩:=qkP _ _ h1
 obtain rfl:=YU hp2
 exact ⟨qk.mk a0 a1,rfl,⟨k0,k1⟩⟩
theorem qtI (n:Nat) (x:PV) (h:TyP Tryz.prog n 34 x):∃ a:List qk,x=qp (.sl 4 zN) a∧((a).length * 40≤reachBytes∧∀ ea∈a,qk.ok ea):=qsJ Tryz.underlying34 (by kernel_rfl) (by kernel_rfl) (by kernel_rfl) quf h
structure qf.ok (x:qf):Prop where
 ID:True
 jh:qd.ok (qf.jh x)
 F:((qf.F x).length * 40≤reachBytes∧∀ eT_api_RecFx∈qf.F x,qk.ok eT_api_RecFx)
theorem qtg (n:Nat) (x:PV) (h:TyP Tryz.prog n 36 x):∃ a:qf,x=qp qW a∧qf.ok a:=by
 obtain ⟨xs,rfl,m,hp0⟩:=KH Tryz.underlying36 h
 obtain ⟨y0,zs0,rfl,h0,hp1⟩:=jP hp0
 obtain ⟨a0,rfl,k0⟩:=qll _ _ h0
 obtain ⟨y1,zs1,rfl,h1,hp2⟩:=jP hp1
 obtain ⟨a1,rfl,k1⟩:=qkD _ _ h1
 obtain ⟨y2,zs2,rfl,h2,hp3⟩:=jP hp2
 obtain ⟨a2,rfl,k2⟩:=qtI _ _ h2
 obtain rfl:=YU hp3
 exact ⟨qf.mk a0 a1 a2,rfl,⟨k0,k1,k2⟩⟩
theorem qtt (n:Nat) (x:PV) (h:TyP Tryz.prog n 22 x):∃ a:List qf,x=qp (.sl 19 qW) a∧((a).length * 56≤reachBytes∧∀ ea∈a,qf.ok ea):=qsJ Tryz.underlying22 (by kernel_rfl) (by kernel_rfl) (by kernel_rfl) qtg h
structure qo.ok (x:qo):Prop where
 R:((qo.R x).length * 56≤reachBytes∧∀ eT_api_BookRx∈qo.R x,qf.ok eT_api_BookRx)
theorem qtk (n:Nat) (x:PV) (h:TyP Tryz.prog n 24 x):∃ a:qo,x=qp zg a∧qo.ok a:=by
 obtain ⟨xs,rfl,m,hp0⟩:=KH Tryz.underlying24 h
 obtain ⟨y0,zs0,rfl,h0,hp1⟩:=jP hp0
 obtain ⟨a0,rfl,k0⟩:=qtt _ _ h0
 obtain rfl:=YU hp1
 exact ⟨qo.mk a0,rfl,⟨k0⟩⟩
theorem qmT (law:∀ (b0:qo) (b1:qq) (b2:Vector UInt8 16) (b3:Int),qo.ok b0→qq.ok b1→True→qx (b3)→∃ N:Nat,jg N b0 b1 b2 b3=some true) (xs:List PV) (hp0:Y0 (TyP Tryz.prog 12) [24,38,31,3] xs):Valid Tryz.prog 0 (.fn (.func 6) [] []) (xs.map .pv) [] (.ret (.pv (.b true))) []:=by
 obtain ⟨y0,zs0,rfl,h0,hp1⟩:=jP hp0
 obtain ⟨a0,rfl,k0⟩:=qtk _ _ h0
 obtain ⟨y1,zs1,rfl,h1,hp2⟩:=jP hp1
 obtain ⟨a1,rfl,k1⟩:=qkP _ _ h1
 obtain ⟨y2,zs2,rfl,h2,hp3⟩:=jP hp2
 obtain ⟨a2,rfl,k2⟩:=qll _ _ h2
 obtain ⟨y3,zs3,rfl,h3,hp4⟩:=jP hp3
 obtain ⟨a3,rfl,k3⟩:=qcb _ _ h3
 obtain rfl:=YU hp4
 obtain ⟨N,hN⟩:=law a0 a1 a2 a3 k0 k1 k2 k3
 exact KB N (a0,a1,a2,a3,()) true hN 0
end Go.Rx
namespace Go.Proofs.YtmnngfcoenhhkaaGreat
open Go.Rx Go.ChangeShapes Go.WideShapes Go.ChangeAt Go.RowKit
theorem qlW:ownKnob Tryz.prog.godebug=none:=by kernel_rfl
theorem qkN:laidOutB Tryz.prog=true:=by kernel_rfl
theorem qov:Tryz.f6.body=some qsj:=by kernel_rfl
theorem qhQ (law : ∀ (b0 : qo) (b1 : qq) (b2 : Vector UInt8 16) (b3 : Int), qo.ok b0 → qq.ok b1 → True → qx (b3) → ∃ N : Nat, jg N b0 b1 b2 b3 = some true) (os : Os) (started : os.Started) (H : Type) (enc : TypeId × Value → H) :
    ReturnsInHanded {} Tryz.checked os 6 .any (Rows.aboveStampSpec.pre6 enc Tryz.prog Tryz.f6 Rows.aboveStampRow.domain false) (Rows.aboveStampSpec.post enc Tryz.prog Tryz.f6 false true false false):=by
 refine returnsInHanded_of_change_sized (C:=Tryz.checked) qlW started (by kernel_rfl) Tryz.func6
  (ChangeSpec.witness6 (enc:=enc) (C:=Tryz.checked) false ⟨#[],#[.agg #[.slice none 0 0],.agg #[.int .i64 0,.int .i64 0,.string ⟨#[]⟩],.agg #[.int .u8 0,.int .u8 0,.int .u8 0,.int .u8 0,.int .u8 0,.int .u8 0,.int .u8 0,.int .u8 0,.int .u8 0,.int .u8 0,.int .u8 0,.int .u8 0,.int .u8 0,.int .u8 0,.int .u8 0,.int .u8 0],.int .i64 0],[]⟩ 12 (by kernel_rfl) (by kernel_rfl) (by kernel_rfl) (by kernel_rfl)) ?_
 intro W base args ds gs before hval hW _ hsz _
 exact qrF (P:=Tryz.prog) (K:=6) (n:=12) (tb:=4) (f:=Tryz.f6) (s:=Rows.aboveStampSpec) Tryz.func6 qov (by kernel_rfl) qkN (by kernel_rfl) rfl (by kernel_rfl) Tryz.underlying4
  (fun ds h=>by
   match ds,h with
   | [d0,d1,d2,d3],_=>rfl)
  (fun xs hp=>qmT law xs hp) W base args ds gs before hval hW hsz
theorem AboveStamp_row (law:∀ (b0:qo) (b1:qq) (b2:Vector UInt8 16) (b3:Int),qo.ok b0→qq.ok b1→True→qx (b3)→∃ N:Nat,jg N b0 b1 b2 b3=some true):Rows.AboveStampSaid:=
 OpenClaim.holds_of_wide 6 Tryz.f6 rfl rfl rfl rfl rfl rfl rfl ⟨rfl,rfl,rfl,rfl,rfl⟩ rfl rfl rfl rfl rfl (by kernel_rfl) Tryz.func6 (by kernel_rfl)
  (of_decide_eq_true (by kernel_rfl)) (by unfold Func.isWrapper; first | (rw [if_pos (by decide +kernel)]; kernel_rfl) | (rw [if_neg (by decide +kernel)]; exact ⟨rfl,rfl⟩))
  (fun os started H enc _=>qhQ law os started H enc)
end Go.Proofs.YtmnngfcoenhhkaaGreat
namespace Go.Rx
theorem qnA {b:qo} (h:qo.ok b):b.R.length≤4611686018427387904∧∀ k,k < b.R.length→(b.R.getD k zR).F.length≤4611686018427387904:=by
 have h1:=h.R.1
 have hr:reachBytes≤4611686018427387904:=by decide +kernel
 refine ⟨by have h1:(qo.R b).length * 56≤reachBytes:=h1; omega,fun k hk=>?_⟩
 have hm:b.R.getD k zR∈b.R:=by
  rw [List.getD_eq_getElem?_getD,List.getElem?_eq_getElem hk]; exact List.getElem_mem hk
 have h2:=(h.R.2 _ hm).F.1
 omega
end Go.Rx
namespace Go.Proofs.YtmnngfcoenhhkaaGreat
theorem aboveStamp_holds:Rows.AboveStampSaid:=AboveStamp_row fun b c id no hb _ _ _=>Go.Rx.qta b c id no (Go.Rx.qnA hb).1 (Go.Rx.qnA hb).2
end Go.Proofs.YtmnngfcoenhhkaaGreat
