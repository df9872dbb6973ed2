/- A part of the proof of AboveJoinsUpto: the law returns true for every input of its bounded bulk, and its arguments read as before. No condition beyond that bound. -/
import Derived.Test.YtmnngfcoenhhkaaGreatRows
import Derived.ProofKit
import Derived.OpenShut
import Derived.JoinedCond
import Derived.Test.YtmnngfcoenhhkaaGreatAboveJoinsUptoG
set_option linter.unusedSimpArgs false
set_option linter.unusedVariables false
set_option linter.unusedSectionVars false
set_option maxRecDepth 100000
namespace Go.Rx
open Go.Proofs
instance qP5:RB:=⟨58720256⟩
theorem qIx (n:Nat) (x:PV) (h:TyP Tryz.prog n 31 x):∃ a:Vector UInt8 16,x=qE (.ba 16) a∧True:=qOS Tryz.underlying31 (by kernel_rfl) h
theorem qq9 (n:Nat) (x:PV) (h:TyP Tryz.prog n 3 x):∃ a:Int,x=qE (.i .i64) a∧qt (a):=qQP Tryz.underlying3 h
structure qd.ok (x:qd):Prop where
 N:qt (qd.N x)
 Rep:qt (qd.Rep x)
theorem qxf (n:Nat) (x:PV) (h:TyP Tryz.prog n 33 x):∃ a:qd,x=qE qi a∧qd.ok a:=by
 obtain ⟨xs,rfl,m,hp0⟩:=qgc Tryz.underlying33 h
 obtain ⟨y0,zs0,rfl,h0,hp1⟩:=Ja hp0
 obtain ⟨a0,rfl,k0⟩:=qq9 _ _ h0
 obtain ⟨y1,zs1,rfl,h1,hp2⟩:=Ja hp1
 obtain ⟨a1,rfl,k1⟩:=qq9 _ _ h1
 obtain rfl:=qe9 hp2
 exact ⟨qd.mk a0 a1,rfl,⟨k0,k1⟩⟩
theorem qJo (n:Nat) (x:PV) (h:TyP Tryz.prog n 9 x):∃ a:List UInt8,x=qE .s a∧(a).length≤58720256:=qQn Tryz.underlying9 h
structure qe.ok (x:qe):Prop where
 S:qd.ok (qe.S x)
 V:(qe.V x).length≤58720256
theorem qIG (n:Nat) (x:PV) (h:TyP Tryz.prog n 38 x):∃ a:qe,x=qE qv a∧qe.ok a:=by
 obtain ⟨xs,rfl,m,hp0⟩:=qgc Tryz.underlying38 h
 obtain ⟨y0,zs0,rfl,h0,hp1⟩:=Ja hp0
 obtain ⟨a0,rfl,k0⟩:=qxf _ _ h0
 obtain ⟨y1,zs1,rfl,h1,hp2⟩:=Ja hp1
 obtain ⟨a1,rfl,k1⟩:=qJo _ _ h1
 obtain rfl:=qe9 hp2
 exact ⟨qe.mk a0 a1,rfl,⟨k0,k1⟩⟩
structure qc.ok (x:qc):Prop where
 No:qt (qc.No x)
 C:qe.ok (qc.C x)
theorem qHS (n:Nat) (x:PV) (h:TyP Tryz.prog n 72 x):∃ a:qc,x=qE qq a∧qc.ok a:=by
 obtain ⟨xs,rfl,m,hp0⟩:=qgc Tryz.underlying72 h
 obtain ⟨y0,zs0,rfl,h0,hp1⟩:=Ja hp0
 obtain ⟨a0,rfl,k0⟩:=qq9 _ _ h0
 obtain ⟨y1,zs1,rfl,h1,hp2⟩:=Ja hp1
 obtain ⟨a1,rfl,k1⟩:=qIG _ _ h1
 obtain rfl:=qe9 hp2
 exact ⟨qc.mk a0 a1,rfl,⟨k0,k1⟩⟩
theorem qIb (n:Nat) (x:PV) (h:TyP Tryz.prog n 34 x):∃ a:List qc,x=qE (.sl 4 qq) a∧((a).length * 40≤58720256∧∀ ea∈a,qc.ok ea):=qGX Tryz.underlying34 (by kernel_rfl) (by kernel_rfl) (by kernel_rfl) qHS h
structure qa.ok (x:qa):Prop where
 ID:True
 qB:qd.ok (qa.qB x)
 F:((qa.F x).length * 40≤58720256∧∀ eT_api_RecFx∈qa.F x,qc.ok eT_api_RecFx)
theorem qIt (n:Nat) (x:PV) (h:TyP Tryz.prog n 36 x):∃ a:qa,x=qE qf a∧qa.ok a:=by
 obtain ⟨xs,rfl,m,hp0⟩:=qgc Tryz.underlying36 h
 obtain ⟨y0,zs0,rfl,h0,hp1⟩:=Ja hp0
 obtain ⟨a0,rfl,k0⟩:=qIx _ _ h0
 obtain ⟨y1,zs1,rfl,h1,hp2⟩:=Ja hp1
 obtain ⟨a1,rfl,k1⟩:=qxf _ _ h1
 obtain ⟨y2,zs2,rfl,h2,hp3⟩:=Ja hp2
 obtain ⟨a2,rfl,k2⟩:=qIb _ _ h2
 obtain rfl:=qe9 hp3
 exact ⟨qa.mk a0 a1 a2,rfl,⟨k0,k1,k2⟩⟩
theorem qIn (n:Nat) (x:PV) (h:TyP Tryz.prog n 22 x):∃ a:List qa,x=qE (.sl 19 qf) a∧((a).length * 56≤58720256∧∀ ea∈a,qa.ok ea):=qGX Tryz.underlying22 (by kernel_rfl) (by kernel_rfl) (by kernel_rfl) qIt h
structure qb.ok (x:qb):Prop where
 R:((qb.R x).length * 56≤58720256∧∀ eT_api_BookRx∈qb.R x,qa.ok eT_api_BookRx)
theorem qwy (n:Nat) (x:PV) (h:TyP Tryz.prog n 24 x):∃ a:qb,x=qE qh a∧qb.ok a:=by
 obtain ⟨xs,rfl,m,hp0⟩:=qgc Tryz.underlying24 h
 obtain ⟨y0,zs0,rfl,h0,hp1⟩:=Ja hp0
 obtain ⟨a0,rfl,k0⟩:=qIn _ _ h0
 obtain rfl:=qe9 hp1
 exact ⟨qb.mk a0,rfl,⟨k0⟩⟩
theorem qyh (law:∀ (b0:qb) (b1:qb),qb.ok b0→qb.ok b1→∃ N:Nat,vv N b0 b1=some true) (xs:List PV) (hp0:qfi (TyP Tryz.prog 12) [24,24] xs):Valid Tryz.prog 0 (.fn (.func 4) [] []) (xs.map .pv) [] (.ret (.pv (.b true))) []:=by
 obtain ⟨y0,zs0,rfl,h0,hp1⟩:=Ja hp0
 obtain ⟨a0,rfl,k0⟩:=qwy _ _ h0
 obtain ⟨y1,zs1,rfl,h1,hp2⟩:=Ja hp1
 obtain ⟨a1,rfl,k1⟩:=qwy _ _ h1
 obtain rfl:=qe9 hp2
 obtain ⟨N,hN⟩:=law a0 a1 k0 k1
 exact qf4 N (a0,a1,()) true hN 0
end Go.Rx
namespace Go.Proofs.YtmnngfcoenhhkaaGreat
open Go.Rx Go.ChangeShapes Go.WideShapes Go.ChangeAt Go.RowKit
theorem qyl:ownKnob Tryz.prog.godebug=none:=by kernel_rfl
theorem qwl:laidOutB Tryz.prog=true:=by kernel_rfl
theorem qBM:Tryz.f4.body=some qsl:=by kernel_rfl
theorem qzw {H:Type} (d:DataW H):1≤Rows.uptoBulk d:=by
 cases d with
 | lit l=>cases l<;>simp [Rows.uptoBulk]
 | _=>simp [Rows.uptoBulk]
theorem qe8 {H:Type}:∀ l:List (DataW H),l.length≤Rows.uptoBulkAll l
 | []=>Nat.zero_le _
 | d::l=>by
  have h1:=qzw d
  have h2:=qe8 l
  simp only [Rows.uptoBulkAll,List.length_cons]
  omega
theorem Yn {H:Type} {d:DataW H}:∀ {l:List (DataW H)},d∈l→Rows.uptoBulk d≤Rows.uptoBulkAll l
 | [],h=>absurd h List.not_mem_nil
 | x::l,h=>by
  simp only [Rows.uptoBulkAll]
  rcases List.mem_cons.1 h with rfl | h
  ·omega
  ·have:=Yn h
   omega
theorem qAG {H:Type}:qCs (H:=H) Rows.uptoBulk:=by
 refine ⟨fun s=>?_,fun d=>?_,fun a b=>⟨?_,fun d hd=>?_⟩,fun l d hd=>?_⟩
 ·simp only [Rows.uptoBulk]; omega
 ·simp only [Rows.uptoBulk]; omega
 ·have h1:=qe8 a
  have h2:=qe8 b
  simp only [Rows.uptoBulk]; omega
 ·simp only [Rows.uptoBulk]
  rcases List.mem_append.1 hd with h | h
  ·have:=Yn h; omega
  ·have:=Yn h; omega
 ·have:=Yn hd
  simp only [Rows.uptoBulk]; omega
theorem qtc (law : ∀ (b0 : qb) (b1 : qb), qb.ok b0 → qb.ok b1 → ∃ N : Nat, vv N b0 b1 = some true) (os : Os) (started : os.Started) (H : Type) (enc : TypeId × Value → H) (F : Stop.Interp) :
    ReturnsInHanded {} Tryz.checked os 4 .any ((Rows.OpenSpec.upto Rows.aboveJoinsSpec).pre6 enc Tryz.prog Tryz.f4 Rows.aboveJoinsUptoRow.domain false) (((Rows.OpenSpec.upto Rows.aboveJoinsSpec).at F).post enc Tryz.prog Tryz.f4 false true false false):=by
 refine returnsInHanded_of_cond (C:=Tryz.checked) (s:=Rows.OpenSpec.upto Rows.aboveJoinsSpec) (k:=Rows.uptoSmall) rfl qyl started (by kernel_rfl) Tryz.func4
  (OpenSpec.witness (enc:=enc) (C:=Tryz.checked) (s:=Rows.OpenSpec.upto Rows.aboveJoinsSpec) (k:=Rows.uptoSmall) rfl false ⟨#[],#[.agg #[.slice none 0 0],.agg #[.slice none 0 0]],[]⟩ 12 (by kernel_rfl) (by kernel_rfl) (by kernel_rfl)
   (x:=([.agg [.nil],.agg [.nil]],[],[])) (by kernel_rfl) rfl (by kernel_rfl)) ?_
 intro W base args ds gs before hval hW _ hk _
 exact qF2 (P:=Tryz.prog) (K:=4) (n:=12) (tb:=4) (f:=Tryz.f4) (s:=Rows.aboveJoinsSpec) Tryz.func4 qBM (by kernel_rfl) qwl (by kernel_rfl) rfl (by kernel_rfl) Tryz.underlying4
  (fun ds h=>by
   match ds,h with
   | [d0,d1],_=>rfl)
  (fun xs hp=>qyh law xs hp) W base args ds gs before hval hW (us:=[]) (by
   have hb:Rows.uptoBulkAll (ds++gs)≤1048576:=of_decide_eq_true hk
   rw [List.append_nil]
   exact qA2 (C:=56) (n:=12) qAG (by decide) (by kernel_rfl) fun d hd=>Nat.le_trans (Yn hd) hb)
theorem AboveJoins_row (law:∀ (b0:qb) (b1:qb),qb.ok b0→qb.ok b1→∃ N:Nat,vv N b0 b1=some true):Rows.AboveJoinsUptoSaid:=
 OpenClaim.holds_of_cond 4 Tryz.f4 rfl rfl rfl rfl rfl rfl rfl ⟨rfl,rfl,rfl,rfl,rfl⟩ rfl rfl rfl rfl rfl (by kernel_rfl) Tryz.func4 (by kernel_rfl)
  (of_decide_eq_true (by kernel_rfl)) (by unfold Func.isWrapper; first | (rw [if_pos (by decide +kernel)]; kernel_rfl) | (rw [if_neg (by decide +kernel)]; exact ⟨rfl,rfl⟩))
  (fun os started H enc _ F=>qtc law os started H enc F)
end Go.Proofs.YtmnngfcoenhhkaaGreat
open Go.Rx
namespace Go.Proofs.YtmnngfcoenhhkaaGreat
theorem qxG {b:qb} (h:Go.Rx.qb.ok b):Go.Rx.qb7 b:=by
 have h1:b.R.length * 56≤58720256:=h.R.1
 refine ⟨by omega,fun r hr=>?_⟩
 have h2:r.F.length * 40≤58720256:=(h.R.2 r hr).F.1
 exact ⟨by omega,fun f hf=>((h.R.2 r hr).F.2 f hf).C.V⟩
theorem aboveJoinsUpto_holds:Rows.AboveJoinsUptoSaid:=AboveJoins_row fun a b ha hb=>Go.Rx.qHO a b (qxG ha) (qxG hb)
end Go.Proofs.YtmnngfcoenhhkaaGreat
