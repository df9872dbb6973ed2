/- A part of the proof of ManifestTells: the law returns true for every input, and its arguments read as before. No condition. -/
import Derived.Test.YthflaibfpmgkfaaGreatRows
import Derived.ProofKit
import Derived.Test.YthflaibfpmgkfaaGreatManifestTellsG
set_option linter.unusedSimpArgs false
set_option linter.unusedVariables false
set_option linter.unusedSectionVars false
set_option maxRecDepth 100000
namespace Go.Rx
open Go.Proofs
theorem qsa (n:Nat) (x:PV) (h:TyP Tryz.prog n 38 x):∃ a:Vector UInt8 16,x=toPV (.ba 16) a∧True:=ty_arr8 Tryz.underlying38 (by kernel_rfl) h
theorem qh8 (n:Nat) (x:PV) (h:TyP Tryz.prog n 3 x):∃ a:Int,x=toPV (.i .i64) a∧in64 (a):=ty_i64 Tryz.underlying3 h
structure qc.ok (x:qc):Prop where
  N:in64 (qc.N x)
  Rep:in64 (qc.Rep x)
theorem qiV (n:Nat) (x:PV) (h:TyP Tryz.prog n 40 x):∃ a:qc,x=toPV qo a∧qc.ok a:=by
  obtain ⟨xs,rfl,m,hp0⟩:=ty_struct Tryz.underlying40 h
  obtain ⟨y0,zs0,rfl,h0,hp1⟩:=pair_cons hp0
  obtain ⟨a0,rfl,k0⟩:=qh8 _ _ h0
  obtain ⟨y1,zs1,rfl,h1,hp2⟩:=pair_cons hp1
  obtain ⟨a1,rfl,k1⟩:=qh8 _ _ h1
  obtain rfl:=pair_nil hp2
  exact ⟨qc.mk a0 a1,rfl,⟨k0,k1⟩⟩
theorem qwW (n:Nat) (x:PV) (h:TyP Tryz.prog n 9 x):∃ a:List UInt8,x=toPV .s a∧(a).length≤reachBytes:=ty_str Tryz.underlying9 h
structure qr.ok (x:qr):Prop where
  S:qc.ok (qr.S x)
  V:(qr.V x).length≤reachBytes
theorem qv6 (n:Nat) (x:PV) (h:TyP Tryz.prog n 64 x):∃ a:qr,x=toPV q8 a∧qr.ok a:=by
  obtain ⟨xs,rfl,m,hp0⟩:=ty_struct Tryz.underlying64 h
  obtain ⟨y0,zs0,rfl,h0,hp1⟩:=pair_cons hp0
  obtain ⟨a0,rfl,k0⟩:=qiV _ _ h0
  obtain ⟨y1,zs1,rfl,h1,hp2⟩:=pair_cons hp1
  obtain ⟨a1,rfl,k1⟩:=qwW _ _ h1
  obtain rfl:=pair_nil hp2
  exact ⟨qr.mk a0 a1,rfl,⟨k0,k1⟩⟩
structure qk.ok (x:qk):Prop where
  No:in64 (qk.No x)
  C:qr.ok (qk.C x)
theorem qvB (n:Nat) (x:PV) (h:TyP Tryz.prog n 79 x):∃ a:qk,x=toPV qM a∧qk.ok a:=by
  obtain ⟨xs,rfl,m,hp0⟩:=ty_struct Tryz.underlying79 h
  obtain ⟨y0,zs0,rfl,h0,hp1⟩:=pair_cons hp0
  obtain ⟨a0,rfl,k0⟩:=qh8 _ _ h0
  obtain ⟨y1,zs1,rfl,h1,hp2⟩:=pair_cons hp1
  obtain ⟨a1,rfl,k1⟩:=qv6 _ _ h1
  obtain rfl:=pair_nil hp2
  exact ⟨qk.mk a0 a1,rfl,⟨k0,k1⟩⟩
theorem qv0 (n:Nat) (x:PV) (h:TyP Tryz.prog n 58 x):∃ a:List qk,x=toPV (.sl 4 qM) a∧((a).length * 40≤reachBytes∧∀ ea∈a,qk.ok ea):=ty_list Tryz.underlying58 (by kernel_rfl) (by kernel_rfl) (by kernel_rfl) qvB h
structure qf.ok (x:qf):Prop where
  ID:True
  Dead:qc.ok (qf.Dead x)
  F:((qf.F x).length * 40≤reachBytes∧∀ eT_api_RecFx∈qf.F x,qk.ok eT_api_RecFx)
theorem qvV (n:Nat) (x:PV) (h:TyP Tryz.prog n 60 x):∃ a:qf,x=toPV qv a∧qf.ok a:=by
  obtain ⟨xs,rfl,m,hp0⟩:=ty_struct Tryz.underlying60 h
  obtain ⟨y0,zs0,rfl,h0,hp1⟩:=pair_cons hp0
  obtain ⟨a0,rfl,k0⟩:=qsa _ _ h0
  obtain ⟨y1,zs1,rfl,h1,hp2⟩:=pair_cons hp1
  obtain ⟨a1,rfl,k1⟩:=qiV _ _ h1
  obtain ⟨y2,zs2,rfl,h2,hp3⟩:=pair_cons hp2
  obtain ⟨a2,rfl,k2⟩:=qv0 _ _ h2
  obtain rfl:=pair_nil hp3
  exact ⟨qf.mk a0 a1 a2,rfl,⟨k0,k1,k2⟩⟩
theorem qvX (n:Nat) (x:PV) (h:TyP Tryz.prog n 22 x):∃ a:List qf,x=toPV (.sl 19 qv) a∧((a).length * 56≤reachBytes∧∀ ea∈a,qf.ok ea):=ty_list Tryz.underlying22 (by kernel_rfl) (by kernel_rfl) (by kernel_rfl) qvV h
structure qh.ok (x:qh):Prop where
  R:((qh.R x).length * 56≤reachBytes∧∀ eT_api_BookRx∈qh.R x,qf.ok eT_api_BookRx)
theorem qv5 (n:Nat) (x:PV) (h:TyP Tryz.prog n 24 x):∃ a:qh,x=toPV qt a∧qh.ok a:=by
  obtain ⟨xs,rfl,m,hp0⟩:=ty_struct Tryz.underlying24 h
  obtain ⟨y0,zs0,rfl,h0,hp1⟩:=pair_cons hp0
  obtain ⟨a0,rfl,k0⟩:=qvX _ _ h0
  obtain rfl:=pair_nil hp1
  exact ⟨qh.mk a0,rfl,⟨k0⟩⟩
theorem qmJ (n:Nat) (x:PV) (h:TyP Tryz.prog n 26 x):∃ a:Vector UInt8 32,x=toPV (.ba 32) a∧True:=ty_arr8 Tryz.underlying26 (by kernel_rfl) h
theorem qvw (n:Nat) (x:PV) (h:TyP Tryz.prog n 84 x):∃ a:Int,x=toPV (.i .u32) a∧(Lit.int .u32 (a)).wf=true:=ty_int Tryz.underlying84 h
structure qp.ok (x:qp):Prop where
  Weak:(Lit.int .u32 (qp.Weak x)).wf=true
  Strong:True
theorem qvZ (n:Nat) (x:PV) (h:TyP Tryz.prog n 86 x):∃ a:qp,x=toPV qu a∧qp.ok a:=by
  obtain ⟨xs,rfl,m,hp0⟩:=ty_struct Tryz.underlying86 h
  obtain ⟨y0,zs0,rfl,h0,hp1⟩:=pair_cons hp0
  obtain ⟨a0,rfl,k0⟩:=qvw _ _ h0
  obtain ⟨y1,zs1,rfl,h1,hp2⟩:=pair_cons hp1
  obtain ⟨a1,rfl,k1⟩:=qmJ _ _ h1
  obtain rfl:=pair_nil hp2
  exact ⟨qp.mk a0 a1,rfl,⟨k0,k1⟩⟩
theorem qvL (n:Nat) (x:PV) (h:TyP Tryz.prog n 46 x):∃ a:List qp,x=toPV (.sl 33 qu) a∧((a).length * 36≤reachBytes∧∀ ea∈a,qp.ok ea):=ty_list Tryz.underlying46 (by kernel_rfl) (by kernel_rfl) (by kernel_rfl) qvZ h
structure qe.ok (x:qe):Prop where
  No:in64 (qe.No x)
  S:qc.ok (qe.S x)
  Len:in64 (qe.Len x)
  D:True
  B:((qe.B x).length * 36≤reachBytes∧∀ eT_api_EntryBx∈qe.B x,qp.ok eT_api_EntryBx)
theorem qvS (n:Nat) (x:PV) (h:TyP Tryz.prog n 48 x):∃ a:qe,x=toPV qq a∧qe.ok a:=by
  obtain ⟨xs,rfl,m,hp0⟩:=ty_struct Tryz.underlying48 h
  obtain ⟨y0,zs0,rfl,h0,hp1⟩:=pair_cons hp0
  obtain ⟨a0,rfl,k0⟩:=qh8 _ _ h0
  obtain ⟨y1,zs1,rfl,h1,hp2⟩:=pair_cons hp1
  obtain ⟨a1,rfl,k1⟩:=qiV _ _ h1
  obtain ⟨y2,zs2,rfl,h2,hp3⟩:=pair_cons hp2
  obtain ⟨a2,rfl,k2⟩:=qh8 _ _ h2
  obtain ⟨y3,zs3,rfl,h3,hp4⟩:=pair_cons hp3
  obtain ⟨a3,rfl,k3⟩:=qmJ _ _ h3
  obtain ⟨y4,zs4,rfl,h4,hp5⟩:=pair_cons hp4
  obtain ⟨a4,rfl,k4⟩:=qvL _ _ h4
  obtain rfl:=pair_nil hp5
  exact ⟨qe.mk a0 a1 a2 a3 a4,rfl,⟨k0,k1,k2,k3,k4⟩⟩
theorem qvI (n:Nat) (x:PV) (h:TyP Tryz.prog n 41 x):∃ a:List qe,x=toPV (.sl 37 qq) a∧((a).length * 88≤reachBytes∧∀ ea∈a,qe.ok ea):=ty_list Tryz.underlying41 (by kernel_rfl) (by kernel_rfl) (by kernel_rfl) qvS h
structure qd.ok (x:qd):Prop where
  ID:True
  Dead:qc.ok (qd.Dead x)
  F:((qd.F x).length * 88≤reachBytes∧∀ eT_api_LineFx∈qd.F x,qe.ok eT_api_LineFx)
theorem qvy (n:Nat) (x:PV) (h:TyP Tryz.prog n 43 x):∃ a:qd,x=toPV qm a∧qd.ok a:=by
  obtain ⟨xs,rfl,m,hp0⟩:=ty_struct Tryz.underlying43 h
  obtain ⟨y0,zs0,rfl,h0,hp1⟩:=pair_cons hp0
  obtain ⟨a0,rfl,k0⟩:=qsa _ _ h0
  obtain ⟨y1,zs1,rfl,h1,hp2⟩:=pair_cons hp1
  obtain ⟨a1,rfl,k1⟩:=qiV _ _ h1
  obtain ⟨y2,zs2,rfl,h2,hp3⟩:=pair_cons hp2
  obtain ⟨a2,rfl,k2⟩:=qvI _ _ h2
  obtain rfl:=pair_nil hp3
  exact ⟨qd.mk a0 a1 a2,rfl,⟨k0,k1,k2⟩⟩
theorem qvE (n:Nat) (x:PV) (h:TyP Tryz.prog n 27 x):∃ a:List qd,x=toPV (.sl 19 qm) a∧((a).length * 56≤reachBytes∧∀ ea∈a,qd.ok ea):=ty_list Tryz.underlying27 (by kernel_rfl) (by kernel_rfl) (by kernel_rfl) qvy h
structure qb.ok (x:qb):Prop where
  Base:True
  L:((qb.L x).length * 56≤reachBytes∧∀ eT_api_ManifestLx∈qb.L x,qd.ok eT_api_ManifestLx)
theorem qsb (n:Nat) (x:PV) (h:TyP Tryz.prog n 29 x):∃ a:qb,x=toPV qn a∧qb.ok a:=by
  obtain ⟨xs,rfl,m,hp0⟩:=ty_struct Tryz.underlying29 h
  obtain ⟨y0,zs0,rfl,h0,hp1⟩:=pair_cons hp0
  obtain ⟨a0,rfl,k0⟩:=qmJ _ _ h0
  obtain ⟨y1,zs1,rfl,h1,hp2⟩:=pair_cons hp1
  obtain ⟨a1,rfl,k1⟩:=qvE _ _ h1
  obtain rfl:=pair_nil hp2
  exact ⟨qb.mk a0 a1,rfl,⟨k0,k1⟩⟩
theorem qp5 (law:∀ (b0:qh) (b1:qb) (b2:qb),qh.ok b0→qb.ok b1→qb.ok b2→∃ N:Nat,qH N b0 b1 b2=some true) (xs:List PV) (hp0:Pair (TyP Tryz.prog 12) [24,29,29] xs):Valid Tryz.prog 0 (.fn (.func 3) [] []) (xs.map .pv) [] (.ret (.pv (.b true))) []:=by
  obtain ⟨y0,zs0,rfl,h0,hp1⟩:=pair_cons hp0
  obtain ⟨a0,rfl,k0⟩:=qv5 _ _ h0
  obtain ⟨y1,zs1,rfl,h1,hp2⟩:=pair_cons hp1
  obtain ⟨a1,rfl,k1⟩:=qsb _ _ h1
  obtain ⟨y2,zs2,rfl,h2,hp3⟩:=pair_cons hp2
  obtain ⟨a2,rfl,k2⟩:=qsb _ _ h2
  obtain rfl:=pair_nil hp3
  obtain ⟨N,hN⟩:=law a0 a1 a2 k0 k1 k2
  exact qbF N (a0,a1,a2,()) true hN 0
end Go.Rx
namespace Go.Proofs.YthflaibfpmgkfaaGreat
open Go.Rx Go.ChangeShapes Go.WideShapes Go.ChangeAt Go.RowKit
theorem qpZ:ownKnob Tryz.prog.godebug=none:=by kernel_rfl
theorem qpa:laidOutB Tryz.prog=true:=by kernel_rfl
theorem qrb:Tryz.f3.body=some qvg:=by kernel_rfl
theorem qmF (law : ∀ (b0 : qh) (b1 : qb) (b2 : qb), qh.ok b0 → qb.ok b1 → qb.ok b2 → ∃ N : Nat, qH N b0 b1 b2 = some true) (os : Os) (started : os.Started) (H : Type) (enc : TypeId × Value → H) :
    ReturnsInHanded {} Tryz.checked os 3 .any (Rows.manifestTellsSpec.pre6 enc Tryz.prog Tryz.f3 Rows.manifestTellsRow.domain false) (Rows.manifestTellsSpec.post enc Tryz.prog Tryz.f3 false true false false):=by
  refine returnsInHanded_of_change_sized (C:=Tryz.checked) qpZ started (by kernel_rfl) Tryz.func3
    (ChangeSpec.witness6 (enc:=enc) (C:=Tryz.checked) false ⟨#[],#[.agg #[.slice none 0 0],.agg #[.int .u8 0,.int .u8 0,.int .u8 0,.int .u8 0,.int .u8 0,.int .u8 0,.int .u8 0,.int .u8 0,.int .u8 0,.int .u8 0,.int .u8 0,.int .u8 0,.int .u8 0,.int .u8 0,.int .u8 0,.int .u8 0,.int .u8 0,.int .u8 0,.int .u8 0,.int .u8 0,.int .u8 0,.int .u8 0,.int .u8 0,.int .u8 0,.int .u8 0,.int .u8 0,.int .u8 0,.int .u8 0,.int .u8 0,.int .u8 0,.int .u8 0,.int .u8 0,.slice none 0 0],.agg #[.int .u8 0,.int .u8 0,.int .u8 0,.int .u8 0,.int .u8 0,.int .u8 0,.int .u8 0,.int .u8 0,.int .u8 0,.int .u8 0,.int .u8 0,.int .u8 0,.int .u8 0,.int .u8 0,.int .u8 0,.int .u8 0,.int .u8 0,.int .u8 0,.int .u8 0,.int .u8 0,.int .u8 0,.int .u8 0,.int .u8 0,.int .u8 0,.int .u8 0,.int .u8 0,.int .u8 0,.int .u8 0,.int .u8 0,.int .u8 0,.int .u8 0,.int .u8 0,.slice none 0 0]],[]⟩ 12 (by kernel_rfl) (by kernel_rfl) (by kernel_rfl) (by kernel_rfl)) ?_
  intro W base args ds gs before hval hW _ hsz _
  exact contract_of (P:=Tryz.prog) (K:=3) (n:=12) (tb:=4) (f:=Tryz.f3) (s:=Rows.manifestTellsSpec) Tryz.func3 qrb (by kernel_rfl) qpa (by kernel_rfl) rfl (by kernel_rfl) Tryz.underlying4
    (fun ds h=>by
      match ds,h with
      | [d0,d1,d2],_=>rfl)
    (fun xs hp=>qp5 law xs hp) W base args ds gs before hval hW hsz
theorem qqg (law:∀ (b0:qh) (b1:qb) (b2:qb),qh.ok b0→qb.ok b1→qb.ok b2→∃ N:Nat,qH N b0 b1 b2=some true):Rows.ManifestTellsSaid:=
  OpenClaim.holds_of_wide 3 Tryz.f3 rfl rfl rfl rfl rfl rfl rfl ⟨rfl,rfl,rfl,rfl,rfl⟩ rfl rfl rfl rfl rfl (by kernel_rfl) Tryz.func3 (by kernel_rfl)
    (of_decide_eq_true (by kernel_rfl)) (by unfold Func.isWrapper; first | (rw [if_pos (by decide +kernel)]; kernel_rfl) | (rw [if_neg (by decide +kernel)]; exact ⟨rfl,rfl⟩))
    (fun os started H enc _=>qmF law os started H enc)
end Go.Proofs.YthflaibfpmgkfaaGreat
namespace Go.Rx
theorem book_fits {b:qh} (h:qh.ok b):b.R.length≤4611686018427387904∧∀ k,k < b.R.length→(b.R.getD k zR).F.length≤4611686018427387904:=by
  have h1:=h.R.1
  have hr:reachBytes≤4611686018427387904:=by decide +kernel
  refine ⟨by have h1:(qh.R b).length * 56≤reachBytes:=h1; omega,fun k hk=>?_⟩
  have hm:b.R.getD k zR∈b.R:=by
    rw [List.getD_eq_getElem?_getD,List.getElem?_eq_getElem hk]; exact List.getElem_mem hk
  have h2:=(h.R.2 _ hm).F.1
  omega
end Go.Rx
namespace Go.Proofs.YthflaibfpmgkfaaGreat
theorem manifestTells_holds:Rows.ManifestTellsSaid:=qqg fun b m n hb _ _=>Go.Rx.manifestTells b m n (Go.Rx.book_fits hb).1 (Go.Rx.book_fits hb).2
end Go.Proofs.YthflaibfpmgkfaaGreat
