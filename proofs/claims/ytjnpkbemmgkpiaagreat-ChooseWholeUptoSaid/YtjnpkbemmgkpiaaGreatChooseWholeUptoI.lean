/- A part of the proof of ChooseWholeUpto: the law returns true for every input of its bounded bulk, and its arguments read as before. No condition beyond that bound. -/
import Derived.Test.YtjnpkbemmgkpiaaGreatRows
import Derived.ProofKit
import Derived.OpenShut
import Derived.JoinedCond
import Derived.Test.YtjnpkbemmgkpiaaGreatChooseWholeUptoH
set_option linter.unusedSimpArgs false
set_option linter.unusedVariables false
set_option linter.unusedSectionVars false
set_option maxRecDepth 100000
namespace Go.Rx
open Go.Proofs
instance qXA:RB:=⟨58720256⟩
theorem qO4 (n:Nat) (x:PV) (h:TyP Tryz.prog n 31 x):∃ a:Vector UInt8 16,x=qF (.ba 16) a∧True:=qWA Tryz.underlying31 (by kernel_rfl) h
theorem qur (n:Nat) (x:PV) (h:TyP Tryz.prog n 3 x):∃ a:Int,x=qF (.i .i64) a∧qw (a):=qYd Tryz.underlying3 h
structure qd.ok (x:qd):Prop where
 N:qw (qd.N x)
 Rep:qw (qd.Rep x)
theorem qCv (n:Nat) (x:PV) (h:TyP Tryz.prog n 33 x):∃ a:qd,x=qF qk a∧qd.ok a:=by
 obtain ⟨xs,rfl,m,hp0⟩:=qij Tryz.underlying33 h
 obtain ⟨y0,zs0,rfl,h0,hp1⟩:=JL hp0
 obtain ⟨a0,rfl,k0⟩:=qur _ _ h0
 obtain ⟨y1,zs1,rfl,h1,hp2⟩:=JL hp1
 obtain ⟨a1,rfl,k1⟩:=qur _ _ h1
 obtain rfl:=qhq hp2
 exact ⟨qd.mk a0 a1,rfl,⟨k0,k1⟩⟩
theorem qSF (n:Nat) (x:PV) (h:TyP Tryz.prog n 9 x):∃ a:List UInt8,x=qF .s a∧(a).length≤58720256:=qYo Tryz.underlying9 h
structure qe.ok (x:qe):Prop where
 S:qd.ok (qe.S x)
 V:(qe.V x).length≤58720256
theorem qOK (n:Nat) (x:PV) (h:TyP Tryz.prog n 35 x):∃ a:qe,x=qF qx a∧qe.ok a:=by
 obtain ⟨xs,rfl,m,hp0⟩:=qij Tryz.underlying35 h
 obtain ⟨y0,zs0,rfl,h0,hp1⟩:=JL hp0
 obtain ⟨a0,rfl,k0⟩:=qCv _ _ h0
 obtain ⟨y1,zs1,rfl,h1,hp2⟩:=JL hp1
 obtain ⟨a1,rfl,k1⟩:=qSF _ _ h1
 obtain rfl:=qhq hp2
 exact ⟨qe.mk a0 a1,rfl,⟨k0,k1⟩⟩
structure qc.ok (x:qc):Prop where
 No:qw (qc.No x)
 C:qe.ok (qc.C x)
theorem qPm (n:Nat) (x:PV) (h:TyP Tryz.prog n 37 x):∃ a:qc,x=qF qo a∧qc.ok a:=by
 obtain ⟨xs,rfl,m,hp0⟩:=qij Tryz.underlying37 h
 obtain ⟨y0,zs0,rfl,h0,hp1⟩:=JL hp0
 obtain ⟨a0,rfl,k0⟩:=qur _ _ h0
 obtain ⟨y1,zs1,rfl,h1,hp2⟩:=JL hp1
 obtain ⟨a1,rfl,k1⟩:=qOK _ _ h1
 obtain rfl:=qhq hp2
 exact ⟨qc.mk a0 a1,rfl,⟨k0,k1⟩⟩
theorem qPb (n:Nat) (x:PV) (h:TyP Tryz.prog n 67 x):∃ a:List qc,x=qF (.sl 4 qo) a∧((a).length * 40≤58720256∧∀ ea∈a,qc.ok ea):=qMc Tryz.underlying67 (by kernel_rfl) (by kernel_rfl) (by kernel_rfl) qPm h
structure qa.ok (x:qa):Prop where
 ID:True
 qB:qd.ok (qa.qB x)
 F:((qa.F x).length * 40≤58720256∧∀ eT_api_RecFx∈qa.F x,qc.ok eT_api_RecFx)
theorem qNd (n:Nat) (x:PV) (h:TyP Tryz.prog n 69 x):∃ a:qa,x=qF qf a∧qa.ok a:=by
 obtain ⟨xs,rfl,m,hp0⟩:=qij Tryz.underlying69 h
 obtain ⟨y0,zs0,rfl,h0,hp1⟩:=JL hp0
 obtain ⟨a0,rfl,k0⟩:=qO4 _ _ h0
 obtain ⟨y1,zs1,rfl,h1,hp2⟩:=JL hp1
 obtain ⟨a1,rfl,k1⟩:=qCv _ _ h1
 obtain ⟨y2,zs2,rfl,h2,hp3⟩:=JL hp2
 obtain ⟨a2,rfl,k2⟩:=qPb _ _ h2
 obtain rfl:=qhq hp3
 exact ⟨qa.mk a0 a1 a2,rfl,⟨k0,k1,k2⟩⟩
theorem qOG (n:Nat) (x:PV) (h:TyP Tryz.prog n 22 x):∃ a:List qa,x=qF (.sl 19 qf) a∧((a).length * 56≤58720256∧∀ ea∈a,qa.ok ea):=qMc Tryz.underlying22 (by kernel_rfl) (by kernel_rfl) (by kernel_rfl) qNd h
structure qb.ok (x:qb):Prop where
 R:((qb.R x).length * 56≤58720256∧∀ eT_api_BookRx∈qb.R x,qa.ok eT_api_BookRx)
theorem qz5 (n:Nat) (x:PV) (h:TyP Tryz.prog n 24 x):∃ a:qb,x=qF qi a∧qb.ok a:=by
 obtain ⟨xs,rfl,m,hp0⟩:=qij Tryz.underlying24 h
 obtain ⟨y0,zs0,rfl,h0,hp1⟩:=JL hp0
 obtain ⟨a0,rfl,k0⟩:=qOG _ _ h0
 obtain rfl:=qhq hp1
 exact ⟨qb.mk a0,rfl,⟨k0⟩⟩
theorem qAv (law:∀ (b0:qb) (b1:qb),qb.ok b0→qb.ok b1→∃ N:Nat,vO N b0 b1=some true) (xs:List PV) (hp0:qhr (TyP Tryz.prog 12) [24,24] xs):Valid Tryz.prog 0 (.fn (.func 7) [] []) (xs.map .pv) [] (.ret (.pv (.b true))) []:=by
 obtain ⟨y0,zs0,rfl,h0,hp1⟩:=JL hp0
 obtain ⟨a0,rfl,k0⟩:=qz5 _ _ h0
 obtain ⟨y1,zs1,rfl,h1,hp2⟩:=JL hp1
 obtain ⟨a1,rfl,k1⟩:=qz5 _ _ h1
 obtain rfl:=qhq hp2
 obtain ⟨N,hN⟩:=law a0 a1 k0 k1
 exact qg2 N (a0,a1,()) true hN 0
end Go.Rx
namespace Go.Proofs.YtjnpkbemmgkpiaaGreat
open Go.Rx Go.ChangeShapes Go.WideShapes Go.ChangeAt Go.RowKit
theorem qBN:ownKnob Tryz.prog.godebug=none:=by kernel_rfl
theorem qyS:laidOutB Tryz.prog=true:=by kernel_rfl
theorem qD8:Tryz.f7.body=some qwm:=by kernel_rfl
theorem qAO {H:Type} (d:DataW H):1≤Rows.uptoBulk d:=by
 cases d with
 | lit l=>cases l<;>simp [Rows.uptoBulk]
 | _=>simp [Rows.uptoBulk]
theorem qfW {H:Type}:∀ l:List (DataW H),l.length≤Rows.uptoBulkAll l
 | []=>Nat.zero_le _
 | d::l=>by
  have h1:=qAO d
  have h2:=qfW l
  simp only [Rows.uptoBulkAll,List.length_cons]
  omega
theorem WU {H:Type} {d:DataW H}:∀ {l:List (DataW H)},d∈l→Rows.uptoBulk d≤Rows.uptoBulkAll l
 | [],h=>absurd h List.not_mem_nil
 | x::l,h=>by
  simp only [Rows.uptoBulkAll]
  rcases List.mem_cons.1 h with rfl | h
  ·omega
  ·have:=WU h
   omega
theorem qD0 {H:Type}:qJb (H:=H) Rows.uptoBulk:=by
 refine ⟨fun s=>?_,fun d=>?_,fun a b=>⟨?_,fun d hd=>?_⟩,fun l d hd=>?_⟩
 ·simp only [Rows.uptoBulk]; omega
 ·simp only [Rows.uptoBulk]; omega
 ·have h1:=qfW a
  have h2:=qfW b
  simp only [Rows.uptoBulk]; omega
 ·simp only [Rows.uptoBulk]
  rcases List.mem_append.1 hd with h | h
  ·have:=WU h; omega
  ·have:=WU h; omega
 ·have:=WU hd
  simp only [Rows.uptoBulk]; omega
theorem quO (law : ∀ (b0 : qb) (b1 : qb), qb.ok b0 → qb.ok b1 → ∃ N : Nat, vO N b0 b1 = some true) (os : Os) (started : os.Started) (H : Type) (enc : TypeId × Value → H) (F : Stop.Interp) :
    ReturnsInHanded {} Tryz.checked os 7 .any ((Rows.OpenSpec.upto Rows.chooseWholeSpec).pre6 enc Tryz.prog Tryz.f7 Rows.chooseWholeUptoRow.domain false) (((Rows.OpenSpec.upto Rows.chooseWholeSpec).at F).post enc Tryz.prog Tryz.f7 false true false false):=by
 refine returnsInHanded_of_cond (C:=Tryz.checked) (s:=Rows.OpenSpec.upto Rows.chooseWholeSpec) (k:=Rows.uptoSmall) rfl qBN started (by kernel_rfl) Tryz.func7
  (OpenSpec.witness (enc:=enc) (C:=Tryz.checked) (s:=Rows.OpenSpec.upto Rows.chooseWholeSpec) (k:=Rows.uptoSmall) rfl false ⟨#[],#[.agg #[.slice none 0 0],.agg #[.slice none 0 0]],[]⟩ 12 (by kernel_rfl) (by kernel_rfl) (by kernel_rfl)
   (x:=([.agg [.nil],.agg [.nil]],[],[])) (by kernel_rfl) rfl (by kernel_rfl)) ?_
 intro W base args ds gs before hval hW _ hk _
 exact qKu (P:=Tryz.prog) (K:=7) (n:=12) (tb:=4) (f:=Tryz.f7) (s:=Rows.chooseWholeSpec) Tryz.func7 qD8 (by kernel_rfl) qyS (by kernel_rfl) rfl (by kernel_rfl) Tryz.underlying4
  (fun ds h=>by
   match ds,h with
   | [d0,d1],_=>rfl)
  (fun xs hp=>qAv law xs hp) W base args ds gs before hval hW (us:=[]) (by
   have hb:Rows.uptoBulkAll (ds++gs)≤1048576:=of_decide_eq_true hk
   rw [List.append_nil]
   exact qGb (C:=56) (n:=12) qD0 (by decide) (by kernel_rfl) fun d hd=>Nat.le_trans (WU hd) hb)
theorem ChooseWhole_row (law:∀ (b0:qb) (b1:qb),qb.ok b0→qb.ok b1→∃ N:Nat,vO N b0 b1=some true):Rows.ChooseWholeUptoSaid:=
 OpenClaim.holds_of_cond 7 Tryz.f7 rfl rfl rfl rfl rfl rfl rfl ⟨rfl,rfl,rfl,rfl,rfl⟩ rfl rfl rfl rfl rfl (by kernel_rfl) Tryz.func7 (by kernel_rfl)
  (of_decide_eq_true (by kernel_rfl)) (by unfold Func.isWrapper; first | (rw [if_pos (by decide +kernel)]; kernel_rfl) | (rw [if_neg (by decide +kernel)]; exact ⟨rfl,rfl⟩))
  (fun os started H enc _ F=>quO law os started H enc F)
end Go.Proofs.YtjnpkbemmgkpiaaGreat
open Go.Rx
namespace Go.Proofs.YtjnpkbemmgkpiaaGreat
theorem qAz {b:qb} (h:Go.Rx.qb.ok b):Go.Rx.qdV b:=by
 have h1:b.R.length * 56≤58720256:=h.R.1
 refine ⟨by omega,fun r hr=>?_⟩
 have h2:r.F.length * 40≤58720256:=(h.R.2 r hr).F.1
 exact ⟨by omega,fun f hf=>((h.R.2 r hr).F.2 f hf).C.V⟩
theorem chooseWholeUpto_holds:Rows.ChooseWholeUptoSaid:=ChooseWhole_row fun a b ha hb=>Go.Rx.qLn a b (qAz ha) (qAz hb)
end Go.Proofs.YtjnpkbemmgkpiaaGreat
