/- A part of the proof of ManifestKnows: the law returns true for every input, and its arguments read as before. No condition. -/
import Derived.Test.YthflaibfpmgkfaaGreatRows
import Derived.ProofKit
import Derived.Test.YthflaibfpmgkfaaGreatManifestKnowsG
set_option linter.unusedSimpArgs false
set_option linter.unusedVariables false
set_option linter.unusedSectionVars false
set_option maxRecDepth 100000
namespace Go.Rx
open Go.Proofs
theorem ty_Tryz_38 (n : Nat) (x : PV) (h : TyP Tryz.prog n 38 x) : ∃ a : Vector UInt8 16, x = toPV (.ba 16) a ∧ True := ty_arr8 Tryz.underlying38 (by kernel_rfl) h
theorem ty_Tryz_3 (n : Nat) (x : PV) (h : TyP Tryz.prog n 3 x) : ∃ a : Int, x = toPV (.i .i64) a ∧ in64 (a) := ty_i64 Tryz.underlying3 h
structure T_api_Stamp.ok (x : T_api_Stamp) : Prop where
  N : in64 (T_api_Stamp.N x)
  Rep : in64 (T_api_Stamp.Rep x)
theorem ty_Tryz_40 (n : Nat) (x : PV) (h : TyP Tryz.prog n 40 x) : ∃ a : T_api_Stamp, x = toPV t_api_Stamp a ∧ T_api_Stamp.ok a := by
  obtain ⟨xs, rfl, m, hp0⟩ := ty_struct Tryz.underlying40 h
  obtain ⟨y0, zs0, rfl, h0, hp1⟩ := pair_cons hp0
  obtain ⟨a0, rfl, k0⟩ := ty_Tryz_3 _ _ h0
  obtain ⟨y1, zs1, rfl, h1, hp2⟩ := pair_cons hp1
  obtain ⟨a1, rfl, k1⟩ := ty_Tryz_3 _ _ h1
  obtain rfl := pair_nil hp2
  exact ⟨T_api_Stamp.mk a0 a1, rfl, ⟨k0, k1⟩⟩
theorem ty_Tryz_9 (n : Nat) (x : PV) (h : TyP Tryz.prog n 9 x) : ∃ a : List UInt8, x = toPV .s a ∧ (a).length ≤ reachBytes := ty_str Tryz.underlying9 h
structure T_api_Cell.ok (x : T_api_Cell) : Prop where
  S : T_api_Stamp.ok (T_api_Cell.S x)
  V : (T_api_Cell.V x).length ≤ reachBytes
theorem ty_Tryz_64 (n : Nat) (x : PV) (h : TyP Tryz.prog n 64 x) : ∃ a : T_api_Cell, x = toPV t_api_Cell a ∧ T_api_Cell.ok a := by
  obtain ⟨xs, rfl, m, hp0⟩ := ty_struct Tryz.underlying64 h
  obtain ⟨y0, zs0, rfl, h0, hp1⟩ := pair_cons hp0
  obtain ⟨a0, rfl, k0⟩ := ty_Tryz_40 _ _ h0
  obtain ⟨y1, zs1, rfl, h1, hp2⟩ := pair_cons hp1
  obtain ⟨a1, rfl, k1⟩ := ty_Tryz_9 _ _ h1
  obtain rfl := pair_nil hp2
  exact ⟨T_api_Cell.mk a0 a1, rfl, ⟨k0, k1⟩⟩
structure T_api_Field.ok (x : T_api_Field) : Prop where
  No : in64 (T_api_Field.No x)
  C : T_api_Cell.ok (T_api_Field.C x)
theorem ty_Tryz_79 (n : Nat) (x : PV) (h : TyP Tryz.prog n 79 x) : ∃ a : T_api_Field, x = toPV t_api_Field a ∧ T_api_Field.ok a := by
  obtain ⟨xs, rfl, m, hp0⟩ := ty_struct Tryz.underlying79 h
  obtain ⟨y0, zs0, rfl, h0, hp1⟩ := pair_cons hp0
  obtain ⟨a0, rfl, k0⟩ := ty_Tryz_3 _ _ h0
  obtain ⟨y1, zs1, rfl, h1, hp2⟩ := pair_cons hp1
  obtain ⟨a1, rfl, k1⟩ := ty_Tryz_64 _ _ h1
  obtain rfl := pair_nil hp2
  exact ⟨T_api_Field.mk a0 a1, rfl, ⟨k0, k1⟩⟩
theorem ty_Tryz_58 (n : Nat) (x : PV) (h : TyP Tryz.prog n 58 x) : ∃ a : List T_api_Field, x = toPV (.sl 4 t_api_Field) a ∧ ((a).length * 40 ≤ reachBytes ∧ ∀ ea ∈ a, T_api_Field.ok ea) := ty_list Tryz.underlying58 (by kernel_rfl) (by kernel_rfl) (by kernel_rfl) ty_Tryz_79 h
structure T_api_Rec.ok (x : T_api_Rec) : Prop where
  ID : True
  Dead : T_api_Stamp.ok (T_api_Rec.Dead x)
  F : ((T_api_Rec.F x).length * 40 ≤ reachBytes ∧ ∀ eT_api_RecFx ∈ T_api_Rec.F x, T_api_Field.ok eT_api_RecFx)
theorem ty_Tryz_60 (n : Nat) (x : PV) (h : TyP Tryz.prog n 60 x) : ∃ a : T_api_Rec, x = toPV t_api_Rec a ∧ T_api_Rec.ok a := by
  obtain ⟨xs, rfl, m, hp0⟩ := ty_struct Tryz.underlying60 h
  obtain ⟨y0, zs0, rfl, h0, hp1⟩ := pair_cons hp0
  obtain ⟨a0, rfl, k0⟩ := ty_Tryz_38 _ _ h0
  obtain ⟨y1, zs1, rfl, h1, hp2⟩ := pair_cons hp1
  obtain ⟨a1, rfl, k1⟩ := ty_Tryz_40 _ _ h1
  obtain ⟨y2, zs2, rfl, h2, hp3⟩ := pair_cons hp2
  obtain ⟨a2, rfl, k2⟩ := ty_Tryz_58 _ _ h2
  obtain rfl := pair_nil hp3
  exact ⟨T_api_Rec.mk a0 a1 a2, rfl, ⟨k0, k1, k2⟩⟩
theorem ty_Tryz_22 (n : Nat) (x : PV) (h : TyP Tryz.prog n 22 x) : ∃ a : List T_api_Rec, x = toPV (.sl 19 t_api_Rec) a ∧ ((a).length * 56 ≤ reachBytes ∧ ∀ ea ∈ a, T_api_Rec.ok ea) := ty_list Tryz.underlying22 (by kernel_rfl) (by kernel_rfl) (by kernel_rfl) ty_Tryz_60 h
structure T_api_Book.ok (x : T_api_Book) : Prop where
  R : ((T_api_Book.R x).length * 56 ≤ reachBytes ∧ ∀ eT_api_BookRx ∈ T_api_Book.R x, T_api_Rec.ok eT_api_BookRx)
theorem ty_Tryz_24 (n : Nat) (x : PV) (h : TyP Tryz.prog n 24 x) : ∃ a : T_api_Book, x = toPV t_api_Book a ∧ T_api_Book.ok a := by
  obtain ⟨xs, rfl, m, hp0⟩ := ty_struct Tryz.underlying24 h
  obtain ⟨y0, zs0, rfl, h0, hp1⟩ := pair_cons hp0
  obtain ⟨a0, rfl, k0⟩ := ty_Tryz_22 _ _ h0
  obtain rfl := pair_nil hp1
  exact ⟨T_api_Book.mk a0, rfl, ⟨k0⟩⟩
theorem ManifestKnows_run (law : ∀ (b0 : T_api_Book) (b1 : Vector UInt8 16) (b2 : Int), T_api_Book.ok b0 → True → in64 (b2) → ∃ N : Nat, rolodexlaw12_ManifestKnows N b0 b1 b2 = some true) (xs : List PV) (hp0 : Pair (TyP Tryz.prog 12) [24, 38, 3] xs) : Valid Tryz.prog 0 (.fn (.func 8) [] []) (xs.map .pv) [] (.ret (.pv (.b true))) [] := by
  obtain ⟨y0, zs0, rfl, h0, hp1⟩ := pair_cons hp0
  obtain ⟨a0, rfl, k0⟩ := ty_Tryz_24 _ _ h0
  obtain ⟨y1, zs1, rfl, h1, hp2⟩ := pair_cons hp1
  obtain ⟨a1, rfl, k1⟩ := ty_Tryz_38 _ _ h1
  obtain ⟨y2, zs2, rfl, h2, hp3⟩ := pair_cons hp2
  obtain ⟨a2, rfl, k2⟩ := ty_Tryz_3 _ _ h2
  obtain rfl := pair_nil hp3
  obtain ⟨N, hN⟩ := law a0 a1 a2 k0 k1 k2
  exact rolodexlaw12_ManifestKnows_val N (a0, a1, a2, ()) true hN 0
end Go.Rx
namespace Go.Proofs.YthflaibfpmgkfaaGreat
open Go.Rx Go.ChangeShapes Go.WideShapes Go.ChangeAt Go.RowKit
theorem ManifestKnows_own : ownKnob Tryz.prog.godebug = none := by kernel_rfl
theorem ManifestKnows_laid : laidOutB Tryz.prog = true := by kernel_rfl
theorem ManifestKnows_hb : Tryz.f8.body = some Tryz_b8 := by kernel_rfl
theorem ManifestKnows_lifted (law : ∀ (b0 : T_api_Book) (b1 : Vector UInt8 16) (b2 : Int), T_api_Book.ok b0 → True → in64 (b2) → ∃ N : Nat, rolodexlaw12_ManifestKnows N b0 b1 b2 = some true) (os : Os) (started : os.Started) (H : Type) (enc : TypeId × Value → H) :
    ReturnsInHanded {} Tryz.checked os 8 .any (Rows.manifestKnowsSpec.pre6 enc Tryz.prog Tryz.f8 Rows.manifestKnowsRow.domain false) (Rows.manifestKnowsSpec.post enc Tryz.prog Tryz.f8 false true false false) := by
  refine returnsInHanded_of_change_sized (C := Tryz.checked) ManifestKnows_own started (by kernel_rfl) Tryz.func8
    (ChangeSpec.witness6 (enc := enc) (C := Tryz.checked) false ⟨#[], #[.agg #[.slice none 0 0], .agg #[.int .u8 0, .int .u8 0, .int .u8 0, .int .u8 0, .int .u8 0, .int .u8 0, .int .u8 0, .int .u8 0, .int .u8 0, .int .u8 0, .int .u8 0, .int .u8 0, .int .u8 0, .int .u8 0, .int .u8 0, .int .u8 0], .int .i64 0], []⟩ 12 (by kernel_rfl) (by kernel_rfl) (by kernel_rfl) (by kernel_rfl)) ?_
  intro W base args ds gs before hval hW _ hsz _
  exact contract_of (P := Tryz.prog) (K := 8) (n := 12) (tb := 4) (f := Tryz.f8) (s := Rows.manifestKnowsSpec) Tryz.func8 ManifestKnows_hb (by kernel_rfl) ManifestKnows_laid (by kernel_rfl) rfl (by kernel_rfl) Tryz.underlying4
    (fun ds h => by
      match ds, h with
      | [d0, d1, d2], _ => rfl)
    (fun xs hp => ManifestKnows_run law xs hp) W base args ds gs before hval hW hsz
theorem ManifestKnows_row (law : ∀ (b0 : T_api_Book) (b1 : Vector UInt8 16) (b2 : Int), T_api_Book.ok b0 → True → in64 (b2) → ∃ N : Nat, rolodexlaw12_ManifestKnows N b0 b1 b2 = some true) : Rows.ManifestKnowsSaid :=
  OpenClaim.holds_of_wide 8 Tryz.f8 rfl rfl rfl rfl rfl rfl rfl ⟨rfl, rfl, rfl, rfl, rfl⟩ rfl rfl rfl rfl rfl (by kernel_rfl) Tryz.func8 (by kernel_rfl)
    (of_decide_eq_true (by kernel_rfl)) (by unfold Func.isWrapper; first | (rw [if_pos (by decide +kernel)]; kernel_rfl) | (rw [if_neg (by decide +kernel)]; exact ⟨rfl, rfl⟩))
    (fun os started H enc _ => ManifestKnows_lifted law os started H enc)
end Go.Proofs.YthflaibfpmgkfaaGreat
namespace Go.Rx
theorem book_fits {b : T_api_Book} (h : T_api_Book.ok b) : b.R.length ≤ 4611686018427387904 ∧ ∀ k, k < b.R.length → (b.R.getD k zR).F.length ≤ 4611686018427387904 := by
  have h1 := h.R.1
  have hr : reachBytes ≤ 4611686018427387904 := by decide +kernel
  refine ⟨by have h1 : (T_api_Book.R b).length * 56 ≤ reachBytes := h1; omega, fun k hk => ?_⟩
  have hm : b.R.getD k zR ∈ b.R := by
    rw [List.getD_eq_getElem?_getD, List.getElem?_eq_getElem hk]; exact List.getElem_mem hk
  have h2 := (h.R.2 _ hm).F.1
  omega
end Go.Rx
namespace Go.Proofs.YthflaibfpmgkfaaGreat
theorem manifestKnows_holds : Rows.ManifestKnowsSaid := ManifestKnows_row fun b id no hb _ _ => Go.Rx.manifestKnows b id no (Go.Rx.book_fits hb).1 (Go.Rx.book_fits hb).2
end Go.Proofs.YthflaibfpmgkfaaGreat
