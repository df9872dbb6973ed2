/- A part of the proof of OpBoth: the law returns true for every input, and its arguments read as before. No condition. -/
import Derived.Test.YtigkkdoljkhcfaaGreatRows
import Derived.ProofKit
import Derived.Test.YtigkkdoljkhcfaaGreatOpBothG
set_option linter.unusedSimpArgs false
set_option linter.unusedVariables false
set_option linter.unusedSectionVars false
set_option maxRecDepth 100000
namespace Go.Rx
open Go.Proofs
instance qJ1:RB:=⟨reachBytes⟩
theorem qi6 (n:Nat) (x:PV) (h:TyP Tryz.prog n 23 x):∃ a:Vector UInt8 16,x=qy (.ba 16) a∧True:=qzO Tryz.underlying23 (by kernel_rfl) h
theorem Xo (n:Nat) (x:PV) (h:TyP Tryz.prog n 3 x):∃ a:Int,x=qy (.i .i64) a∧qz (a):=qJC Tryz.underlying3 h
structure qe.ok (x:qe):Prop where
 N:qz (qe.N x)
 Rep:qz (qe.Rep x)
theorem qib (n:Nat) (x:PV) (h:TyP Tryz.prog n 25 x):∃ a:qe,x=qy qn a∧qe.ok a:=by
 obtain ⟨xs,rfl,m,hp0⟩:=YC Tryz.underlying25 h
 obtain ⟨y0,zs0,rfl,h0,hp1⟩:=zH hp0
 obtain ⟨a0,rfl,k0⟩:=Xo _ _ h0
 obtain ⟨y1,zs1,rfl,h1,hp2⟩:=zH hp1
 obtain ⟨a1,rfl,k1⟩:=Xo _ _ h1
 obtain rfl:=W4 hp2
 exact ⟨qe.mk a0 a1,rfl,⟨k0,k1⟩⟩
theorem qmb (n:Nat) (x:PV) (h:TyP Tryz.prog n 9 x):∃ a:List UInt8,x=qy .s a∧(a).length≤reachBytes:=qJk Tryz.underlying9 h
structure qc.ok (x:qc):Prop where
 S:qe.ok (qc.S x)
 V:(qc.V x).length≤reachBytes
theorem qAG (n:Nat) (x:PV) (h:TyP Tryz.prog n 56 x):∃ a:qc,x=qy qq a∧qc.ok a:=by
 obtain ⟨xs,rfl,m,hp0⟩:=YC Tryz.underlying56 h
 obtain ⟨y0,zs0,rfl,h0,hp1⟩:=zH hp0
 obtain ⟨a0,rfl,k0⟩:=qib _ _ h0
 obtain ⟨y1,zs1,rfl,h1,hp2⟩:=zH hp1
 obtain ⟨a1,rfl,k1⟩:=qmb _ _ h1
 obtain rfl:=W4 hp2
 exact ⟨qc.mk a0 a1,rfl,⟨k0,k1⟩⟩
structure qb.ok (x:qb):Prop where
 No:qz (qb.No x)
 C:qc.ok (qb.C x)
theorem qBI (n:Nat) (x:PV) (h:TyP Tryz.prog n 63 x):∃ a:qb,x=qy qp a∧qb.ok a:=by
 obtain ⟨xs,rfl,m,hp0⟩:=YC Tryz.underlying63 h
 obtain ⟨y0,zs0,rfl,h0,hp1⟩:=zH hp0
 obtain ⟨a0,rfl,k0⟩:=Xo _ _ h0
 obtain ⟨y1,zs1,rfl,h1,hp2⟩:=zH hp1
 obtain ⟨a1,rfl,k1⟩:=qAG _ _ h1
 obtain rfl:=W4 hp2
 exact ⟨qb.mk a0 a1,rfl,⟨k0,k1⟩⟩
theorem qAM (n:Nat) (x:PV) (h:TyP Tryz.prog n 50 x):∃ a:List qb,x=qy (.sl 4 qp) a∧((a).length * 40≤reachBytes∧∀ ea∈a,qb.ok ea):=qsb Tryz.underlying50 (by kernel_rfl) (by kernel_rfl) (by kernel_rfl) qBI h
structure qa.ok (x:qa):Prop where
 ID:True
 qX:qe.ok (qa.qX x)
 F:((qa.F x).length * 40≤reachBytes∧∀ eT_api_RecFx∈qa.F x,qb.ok eT_api_RecFx)
theorem qBU (n:Nat) (x:PV) (h:TyP Tryz.prog n 52 x):∃ a:qa,x=qy qg a∧qa.ok a:=by
 obtain ⟨xs,rfl,m,hp0⟩:=YC Tryz.underlying52 h
 obtain ⟨y0,zs0,rfl,h0,hp1⟩:=zH hp0
 obtain ⟨a0,rfl,k0⟩:=qi6 _ _ h0
 obtain ⟨y1,zs1,rfl,h1,hp2⟩:=zH hp1
 obtain ⟨a1,rfl,k1⟩:=qib _ _ h1
 obtain ⟨y2,zs2,rfl,h2,hp3⟩:=zH hp2
 obtain ⟨a2,rfl,k2⟩:=qAM _ _ h2
 obtain rfl:=W4 hp3
 exact ⟨qa.mk a0 a1 a2,rfl,⟨k0,k1,k2⟩⟩
theorem qAp (n:Nat) (x:PV) (h:TyP Tryz.prog n 41 x):∃ a:List qa,x=qy (.sl 19 qg) a∧((a).length * 56≤reachBytes∧∀ ea∈a,qa.ok ea):=qsb Tryz.underlying41 (by kernel_rfl) (by kernel_rfl) (by kernel_rfl) qBU h
structure qd.ok (x:qd):Prop where
 R:((qd.R x).length * 56≤reachBytes∧∀ eT_api_BookRx∈qd.R x,qa.ok eT_api_BookRx)
theorem qBm (n:Nat) (x:PV) (h:TyP Tryz.prog n 43 x):∃ a:qd,x=qy qR a∧qd.ok a:=by
 obtain ⟨xs,rfl,m,hp0⟩:=YC Tryz.underlying43 h
 obtain ⟨y0,zs0,rfl,h0,hp1⟩:=zH hp0
 obtain ⟨a0,rfl,k0⟩:=qAp _ _ h0
 obtain rfl:=W4 hp1
 exact ⟨qd.mk a0,rfl,⟨k0⟩⟩
theorem qEV (n:Nat) (x:PV) (h:TyP Tryz.prog n 4 x):∃ a:Bool,x=qy .b a∧True:=qIF Tryz.underlying4 h
structure qk.ok (x:qk):Prop where
 qwG:True
 XU:qz (qk.XU x)
 Len:qz (qk.Len x)
 Lit:(qk.Lit x).length≤reachBytes
theorem qAO (n:Nat) (x:PV) (h:TyP Tryz.prog n 67 x):∃ a:qk,x=qy qK a∧qk.ok a:=by
 obtain ⟨xs,rfl,m,hp0⟩:=YC Tryz.underlying67 h
 obtain ⟨y0,zs0,rfl,h0,hp1⟩:=zH hp0
 obtain ⟨a0,rfl,k0⟩:=qEV _ _ h0
 obtain ⟨y1,zs1,rfl,h1,hp2⟩:=zH hp1
 obtain ⟨a1,rfl,k1⟩:=Xo _ _ h1
 obtain ⟨y2,zs2,rfl,h2,hp3⟩:=zH hp2
 obtain ⟨a2,rfl,k2⟩:=Xo _ _ h2
 obtain ⟨y3,zs3,rfl,h3,hp4⟩:=zH hp3
 obtain ⟨a3,rfl,k3⟩:=qmb _ _ h3
 obtain rfl:=W4 hp4
 exact ⟨qk.mk a0 a1 a2 a3,rfl,⟨k0,k1,k2,k3⟩⟩
theorem qA2 (n:Nat) (x:PV) (h:TyP Tryz.prog n 26 x):∃ a:List qk,x=qy (.sl 4 qK) a∧((a).length * 40≤reachBytes∧∀ ea∈a,qk.ok ea):=qsb Tryz.underlying26 (by kernel_rfl) (by kernel_rfl) (by kernel_rfl) qAO h
theorem qBQ (n:Nat) (x:PV) (h:TyP Tryz.prog n 28 x):∃ a:Vector UInt8 32,x=qy (.ba 32) a∧True:=qzO Tryz.underlying28 (by kernel_rfl) h
structure qf.ok (x:qf):Prop where
 Kind:qz (qf.Kind x)
 ID:True
 S:qe.ok (qf.S x)
 No:qz (qf.No x)
 V:(qf.V x).length≤reachBytes
 P:((qf.P x).length * 40≤reachBytes∧∀ eT_api_OpPx∈qf.P x,qk.ok eT_api_OpPx)
 XU:True
 Jb:qz (qf.Jb x)
 D:True
theorem qpP (n:Nat) (x:PV) (h:TyP Tryz.prog n 30 x):∃ a:qf,x=qy zC a∧qf.ok a:=by
 obtain ⟨xs,rfl,m,hp0⟩:=YC Tryz.underlying30 h
 obtain ⟨y0,zs0,rfl,h0,hp1⟩:=zH hp0
 obtain ⟨a0,rfl,k0⟩:=Xo _ _ h0
 obtain ⟨y1,zs1,rfl,h1,hp2⟩:=zH hp1
 obtain ⟨a1,rfl,k1⟩:=qi6 _ _ h1
 obtain ⟨y2,zs2,rfl,h2,hp3⟩:=zH hp2
 obtain ⟨a2,rfl,k2⟩:=qib _ _ h2
 obtain ⟨y3,zs3,rfl,h3,hp4⟩:=zH hp3
 obtain ⟨a3,rfl,k3⟩:=Xo _ _ h3
 obtain ⟨y4,zs4,rfl,h4,hp5⟩:=zH hp4
 obtain ⟨a4,rfl,k4⟩:=qmb _ _ h4
 obtain ⟨y5,zs5,rfl,h5,hp6⟩:=zH hp5
 obtain ⟨a5,rfl,k5⟩:=qA2 _ _ h5
 obtain ⟨y6,zs6,rfl,h6,hp7⟩:=zH hp6
 obtain ⟨a6,rfl,k6⟩:=qi6 _ _ h6
 obtain ⟨y7,zs7,rfl,h7,hp8⟩:=zH hp7
 obtain ⟨a7,rfl,k7⟩:=Xo _ _ h7
 obtain ⟨y8,zs8,rfl,h8,hp9⟩:=zH hp8
 obtain ⟨a8,rfl,k8⟩:=qBQ _ _ h8
 obtain rfl:=W4 hp9
 exact ⟨qf.mk a0 a1 a2 a3 a4 a5 a6 a7 a8,rfl,⟨k0,k1,k2,k3,k4,k5,k6,k7,k8⟩⟩
theorem qBv (law:∀ (b0:qd) (b1:qf) (b2:qf),qd.ok b0→qf.ok b1→qf.ok b2→∃ N:Nat,v5 N b0 b1 b2=some true) (xs:List PV) (hp0:qbY (TyP Tryz.prog 12) [43,30,30] xs):Valid Tryz.prog 0 (.fn (.func 9) [] []) (xs.map .pv) [] (.ret (.pv (.b true))) []:=by
 obtain ⟨y0,zs0,rfl,h0,hp1⟩:=zH hp0
 obtain ⟨a0,rfl,k0⟩:=qBm _ _ h0
 obtain ⟨y1,zs1,rfl,h1,hp2⟩:=zH hp1
 obtain ⟨a1,rfl,k1⟩:=qpP _ _ h1
 obtain ⟨y2,zs2,rfl,h2,hp3⟩:=zH hp2
 obtain ⟨a2,rfl,k2⟩:=qpP _ _ h2
 obtain rfl:=W4 hp3
 obtain ⟨N,hN⟩:=law a0 a1 a2 k0 k1 k2
 exact qe9 N (a0,a1,a2,()) true hN 0
end Go.Rx
namespace Go.Proofs.YtigkkdoljkhcfaaGreat
open Go.Rx Go.ChangeShapes Go.WideShapes Go.ChangeAt Go.RowKit
theorem qBX:ownKnob Tryz.prog.godebug=none:=by kernel_rfl
theorem qyT:laidOutB Tryz.prog=true:=by kernel_rfl
theorem qCn:Tryz.f9.body=some qz7:=by kernel_rfl
theorem qtQ (law : ∀ (b0 : qd) (b1 : qf) (b2 : qf), qd.ok b0 → qf.ok b1 → qf.ok b2 → ∃ N : Nat, v5 N b0 b1 b2 = some true) (os : Os) (started : os.Started) (H : Type) (enc : TypeId × Value → H) :
    ReturnsInHanded {} Tryz.checked os 9 .any (Rows.opBothSpec.pre6 enc Tryz.prog Tryz.f9 Rows.opBothRow.domain false) (Rows.opBothSpec.post enc Tryz.prog Tryz.f9 false true false false):=by
 refine returnsInHanded_of_change_sized (C:=Tryz.checked) qBX started (by kernel_rfl) Tryz.func9
  (ChangeSpec.witness6 (enc:=enc) (C:=Tryz.checked) false ⟨#[],#[.agg #[.slice none 0 0],.agg #[.int .i64 0,.int .u8 0,.int .u8 0,.int .u8 0,.int .u8 0,.int .u8 0,.int .u8 0,.int .u8 0,.int .u8 0,.int .u8 0,.int .u8 0,.int .u8 0,.int .u8 0,.int .u8 0,.int .u8 0,.int .u8 0,.int .u8 0,.int .i64 0,.int .i64 0,.int .i64 0,.string ⟨#[]⟩,.slice none 0 0,.int .u8 0,.int .u8 0,.int .u8 0,.int .u8 0,.int .u8 0,.int .u8 0,.int .u8 0,.int .u8 0,.int .u8 0,.int .u8 0,.int .u8 0,.int .u8 0,.int .u8 0,.int .u8 0,.int .u8 0,.int .u8 0,.int .i64 0,.int .u8 0,.int .u8 0,.int .u8 0,.int .u8 0,.int .u8 0,.int .u8 0,.int .u8 0,.int .u8 0,.int .u8 0,.int .u8 0,.int .u8 0,.int .u8 0,.int .u8 0,.int .u8 0,.int .u8 0,.int .u8 0,.int .u8 0,.int .u8 0,.int .u8 0,.int .u8 0,.int .u8 0,.int .u8 0,.int .u8 0,.int .u8 0,.int .u8 0,.int .u8 0,.int .u8 0,.int .u8 0,.int .u8 0,.int .u8 0,.int .u8 0,.int .u8 0],.agg #[.int .i64 0,.int .u8 0,.int .u8 0,.int .u8 0,.int .u8 0,.int .u8 0,.int .u8 0,.int .u8 0,.int .u8 0,.int .u8 0,.int .u8 0,.int .u8 0,.int .u8 0,.int .u8 0,.int .u8 0,.int .u8 0,.int .u8 0,.int .i64 0,.int .i64 0,.int .i64 0,.string ⟨#[]⟩,.slice none 0 0,.int .u8 0,.int .u8 0,.int .u8 0,.int .u8 0,.int .u8 0,.int .u8 0,.int .u8 0,.int .u8 0,.int .u8 0,.int .u8 0,.int .u8 0,.int .u8 0,.int .u8 0,.int .u8 0,.int .u8 0,.int .u8 0,.int .i64 0,.int .u8 0,.int .u8 0,.int .u8 0,.int .u8 0,.int .u8 0,.int .u8 0,.int .u8 0,.int .u8 0,.int .u8 0,.int .u8 0,.int .u8 0,.int .u8 0,.int .u8 0,.int .u8 0,.int .u8 0,.int .u8 0,.int .u8 0,.int .u8 0,.int .u8 0,.int .u8 0,.int .u8 0,.int .u8 0,.int .u8 0,.int .u8 0,.int .u8 0,.int .u8 0,.int .u8 0,.int .u8 0,.int .u8 0,.int .u8 0,.int .u8 0,.int .u8 0]],[]⟩ 12 (by kernel_rfl) (by kernel_rfl) (by kernel_rfl) (by kernel_rfl)) ?_
 intro W base args ds gs before hval hW _ hsz _
 exact qy6 (P:=Tryz.prog) (K:=9) (n:=12) (tb:=4) (f:=Tryz.f9) (s:=Rows.opBothSpec) Tryz.func9 qCn (by kernel_rfl) qyT (by kernel_rfl) rfl (by kernel_rfl) Tryz.underlying4
  (fun ds h=>by
   match ds,h with
   | [d0,d1,d2],_=>rfl)
  (fun xs hp=>qBv law xs hp) W base args ds gs before hval hW hsz
theorem OpBoth_row (law:∀ (b0:qd) (b1:qf) (b2:qf),qd.ok b0→qf.ok b1→qf.ok b2→∃ N:Nat,v5 N b0 b1 b2=some true):Rows.OpBothSaid:=
 OpenClaim.holds_of_wide 9 Tryz.f9 rfl rfl rfl rfl rfl rfl rfl ⟨rfl,rfl,rfl,rfl,rfl⟩ rfl rfl rfl rfl rfl (by kernel_rfl) Tryz.func9 (by kernel_rfl)
  (of_decide_eq_true (by kernel_rfl)) (by unfold Func.isWrapper; first | (rw [if_pos (by decide +kernel)]; kernel_rfl) | (rw [if_neg (by decide +kernel)]; exact ⟨rfl,rfl⟩))
  (fun os started H enc _=>qtQ law os started H enc)
end Go.Proofs.YtigkkdoljkhcfaaGreat
namespace Go.Rx
theorem qtu {b:qd} (h:qd.ok b):b.R.length≤4611686018427387904∧∀ k,k < b.R.length→(b.R.getD k zR).F.length≤4611686018427387904:=by
 have h1:=h.R.1
 have hr:reachBytes≤4611686018427387904:=by decide +kernel
 refine ⟨by have h1:(qd.R b).length * 56≤reachBytes:=h1; omega,fun k hk=>?_⟩
 have hm:b.R.getD k zR∈b.R:=by
  rw [List.getD_eq_getElem?_getD,List.getElem?_eq_getElem hk]; exact List.getElem_mem hk
 have h2:=(h.R.2 _ hm).F.1
 omega
end Go.Rx
namespace Go.Proofs.YtigkkdoljkhcfaaGreat
theorem opBoth_holds:Rows.OpBothSaid:=OpBoth_row fun b o p hb _ _=>Go.Rx.qJn b o p (Go.Rx.qtu hb).1 (Go.Rx.qtu hb).2
end Go.Proofs.YtigkkdoljkhcfaaGreat
