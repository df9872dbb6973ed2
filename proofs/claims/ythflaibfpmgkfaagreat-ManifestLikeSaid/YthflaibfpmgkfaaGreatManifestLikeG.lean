/- A part of the proof of ManifestLike: the law returns true for every input, and its arguments read as before. No condition. -/
import Derived.Test.YthflaibfpmgkfaaGreatRows
import Derived.ProofKit
import Derived.Test.YthflaibfpmgkfaaGreatManifestLikeF
set_option linter.unusedSimpArgs false
set_option linter.unusedVariables false
set_option linter.unusedSectionVars false
set_option maxRecDepth 100000
namespace Go.Rx
open Go.Proofs
theorem ty_Tryz_26 (n : Nat) (x : PV) (h : TyP Tryz.prog n 26 x) : ∃ a : Vector UInt8 32, x = toPV (.ba 32) a ∧ True := ty_arr8 Tryz.underlying26 (by kernel_rfl) h
theorem ty_Tryz_38 (n : Nat) (x : PV) (h : TyP Tryz.prog n 38 x) : ∃ a : Vector UInt8 16, x = toPV (.ba 16) a ∧ True := ty_arr8 Tryz.underlying38 (by kernel_rfl) h
theorem ty_Tryz_3 (n : Nat) (x : PV) (h : TyP Tryz.prog n 3 x) : ∃ a : Int, x = toPV (.i .i64) a ∧ in64 (a) := ty_i64 Tryz.underlying3 h
structure T_api_Stamp.ok (x : T_api_Stamp) : Prop where
  N : in64 (T_api_Stamp.N x)
  Rep : in64 (T_api_Stamp.Rep x)
theorem ty_Tryz_40 (n : Nat) (x : PV) (h : TyP Tryz.prog n 40 x) : ∃ a : T_api_Stamp, x = toPV t_api_Stamp a ∧ T_api_Stamp.ok a := by
  obtain ⟨xs, rfl, m, hp0⟩ := ty_struct Tryz.underlying40 h
  obtain ⟨y0, zs0, rfl, h0, hp1⟩ := pair_cons hp0
  obtain ⟨a0, rfl, k0⟩ := ty_Tryz_3 _ _ h0
  obtain ⟨y1, zs1, rfl, h1, hp2⟩ := pair_cons hp1
  obtain ⟨a1, rfl, k1⟩ := ty_Tryz_3 _ _ h1
  obtain rfl := pair_nil hp2
  exact ⟨T_api_Stamp.mk a0 a1, rfl, ⟨k0, k1⟩⟩
theorem ty_Tryz_84 (n : Nat) (x : PV) (h : TyP Tryz.prog n 84 x) : ∃ a : Int, x = toPV (.i .u32) a ∧ (Lit.int .u32 (a)).wf = true := ty_int Tryz.underlying84 h
structure T_api_Sig.ok (x : T_api_Sig) : Prop where
  Weak : (Lit.int .u32 (T_api_Sig.Weak x)).wf = true
  Strong : True
theorem ty_Tryz_86 (n : Nat) (x : PV) (h : TyP Tryz.prog n 86 x) : ∃ a : T_api_Sig, x = toPV t_api_Sig a ∧ T_api_Sig.ok a := by
  obtain ⟨xs, rfl, m, hp0⟩ := ty_struct Tryz.underlying86 h
  obtain ⟨y0, zs0, rfl, h0, hp1⟩ := pair_cons hp0
  obtain ⟨a0, rfl, k0⟩ := ty_Tryz_84 _ _ h0
  obtain ⟨y1, zs1, rfl, h1, hp2⟩ := pair_cons hp1
  obtain ⟨a1, rfl, k1⟩ := ty_Tryz_26 _ _ h1
  obtain rfl := pair_nil hp2
  exact ⟨T_api_Sig.mk a0 a1, rfl, ⟨k0, k1⟩⟩
theorem ty_Tryz_46 (n : Nat) (x : PV) (h : TyP Tryz.prog n 46 x) : ∃ a : List T_api_Sig, x = toPV (.sl 33 t_api_Sig) a ∧ ((a).length * 36 ≤ reachBytes ∧ ∀ ea ∈ a, T_api_Sig.ok ea) := ty_list Tryz.underlying46 (by kernel_rfl) (by kernel_rfl) (by kernel_rfl) ty_Tryz_86 h
structure T_api_Entry.ok (x : T_api_Entry) : Prop where
  No : in64 (T_api_Entry.No x)
  S : T_api_Stamp.ok (T_api_Entry.S x)
  Len : in64 (T_api_Entry.Len x)
  D : True
  B : ((T_api_Entry.B x).length * 36 ≤ reachBytes ∧ ∀ eT_api_EntryBx ∈ T_api_Entry.B x, T_api_Sig.ok eT_api_EntryBx)
theorem ty_Tryz_48 (n : Nat) (x : PV) (h : TyP Tryz.prog n 48 x) : ∃ a : T_api_Entry, x = toPV t_api_Entry a ∧ T_api_Entry.ok a := by
  obtain ⟨xs, rfl, m, hp0⟩ := ty_struct Tryz.underlying48 h
  obtain ⟨y0, zs0, rfl, h0, hp1⟩ := pair_cons hp0
  obtain ⟨a0, rfl, k0⟩ := ty_Tryz_3 _ _ h0
  obtain ⟨y1, zs1, rfl, h1, hp2⟩ := pair_cons hp1
  obtain ⟨a1, rfl, k1⟩ := ty_Tryz_40 _ _ h1
  obtain ⟨y2, zs2, rfl, h2, hp3⟩ := pair_cons hp2
  obtain ⟨a2, rfl, k2⟩ := ty_Tryz_3 _ _ h2
  obtain ⟨y3, zs3, rfl, h3, hp4⟩ := pair_cons hp3
  obtain ⟨a3, rfl, k3⟩ := ty_Tryz_26 _ _ h3
  obtain ⟨y4, zs4, rfl, h4, hp5⟩ := pair_cons hp4
  obtain ⟨a4, rfl, k4⟩ := ty_Tryz_46 _ _ h4
  obtain rfl := pair_nil hp5
  exact ⟨T_api_Entry.mk a0 a1 a2 a3 a4, rfl, ⟨k0, k1, k2, k3, k4⟩⟩
theorem ty_Tryz_41 (n : Nat) (x : PV) (h : TyP Tryz.prog n 41 x) : ∃ a : List T_api_Entry, x = toPV (.sl 37 t_api_Entry) a ∧ ((a).length * 88 ≤ reachBytes ∧ ∀ ea ∈ a, T_api_Entry.ok ea) := ty_list Tryz.underlying41 (by kernel_rfl) (by kernel_rfl) (by kernel_rfl) ty_Tryz_48 h
structure T_api_Line.ok (x : T_api_Line) : Prop where
  ID : True
  Dead : T_api_Stamp.ok (T_api_Line.Dead x)
  F : ((T_api_Line.F x).length * 88 ≤ reachBytes ∧ ∀ eT_api_LineFx ∈ T_api_Line.F x, T_api_Entry.ok eT_api_LineFx)
theorem ty_Tryz_43 (n : Nat) (x : PV) (h : TyP Tryz.prog n 43 x) : ∃ a : T_api_Line, x = toPV t_api_Line a ∧ T_api_Line.ok a := by
  obtain ⟨xs, rfl, m, hp0⟩ := ty_struct Tryz.underlying43 h
  obtain ⟨y0, zs0, rfl, h0, hp1⟩ := pair_cons hp0
  obtain ⟨a0, rfl, k0⟩ := ty_Tryz_38 _ _ h0
  obtain ⟨y1, zs1, rfl, h1, hp2⟩ := pair_cons hp1
  obtain ⟨a1, rfl, k1⟩ := ty_Tryz_40 _ _ h1
  obtain ⟨y2, zs2, rfl, h2, hp3⟩ := pair_cons hp2
  obtain ⟨a2, rfl, k2⟩ := ty_Tryz_41 _ _ h2
  obtain rfl := pair_nil hp3
  exact ⟨T_api_Line.mk a0 a1 a2, rfl, ⟨k0, k1, k2⟩⟩
theorem ty_Tryz_27 (n : Nat) (x : PV) (h : TyP Tryz.prog n 27 x) : ∃ a : List T_api_Line, x = toPV (.sl 19 t_api_Line) a ∧ ((a).length * 56 ≤ reachBytes ∧ ∀ ea ∈ a, T_api_Line.ok ea) := ty_list Tryz.underlying27 (by kernel_rfl) (by kernel_rfl) (by kernel_rfl) ty_Tryz_43 h
structure T_api_Manifest.ok (x : T_api_Manifest) : Prop where
  Base : True
  L : ((T_api_Manifest.L x).length * 56 ≤ reachBytes ∧ ∀ eT_api_ManifestLx ∈ T_api_Manifest.L x, T_api_Line.ok eT_api_ManifestLx)
theorem ty_Tryz_29 (n : Nat) (x : PV) (h : TyP Tryz.prog n 29 x) : ∃ a : T_api_Manifest, x = toPV t_api_Manifest a ∧ T_api_Manifest.ok a := by
  obtain ⟨xs, rfl, m, hp0⟩ := ty_struct Tryz.underlying29 h
  obtain ⟨y0, zs0, rfl, h0, hp1⟩ := pair_cons hp0
  obtain ⟨a0, rfl, k0⟩ := ty_Tryz_26 _ _ h0
  obtain ⟨y1, zs1, rfl, h1, hp2⟩ := pair_cons hp1
  obtain ⟨a1, rfl, k1⟩ := ty_Tryz_27 _ _ h1
  obtain rfl := pair_nil hp2
  exact ⟨T_api_Manifest.mk a0 a1, rfl, ⟨k0, k1⟩⟩
theorem ManifestLike_run (law : ∀ (b0 : T_api_Manifest) (b1 : Vector UInt8 32) (b2 : Int), T_api_Manifest.ok b0 → True → in64 (b2) → ∃ N : Nat, rolodexlaw12_ManifestLike N b0 b1 b2 = some true) (xs : List PV) (hp0 : Pair (TyP Tryz.prog 12) [29, 26, 3] xs) : Valid Tryz.prog 0 (.fn (.func 5) [] []) (xs.map .pv) [] (.ret (.pv (.b true))) [] := by
  obtain ⟨y0, zs0, rfl, h0, hp1⟩ := pair_cons hp0
  obtain ⟨a0, rfl, k0⟩ := ty_Tryz_29 _ _ h0
  obtain ⟨y1, zs1, rfl, h1, hp2⟩ := pair_cons hp1
  obtain ⟨a1, rfl, k1⟩ := ty_Tryz_26 _ _ h1
  obtain ⟨y2, zs2, rfl, h2, hp3⟩ := pair_cons hp2
  obtain ⟨a2, rfl, k2⟩ := ty_Tryz_3 _ _ h2
  obtain rfl := pair_nil hp3
  obtain ⟨N, hN⟩ := law a0 a1 a2 k0 k1 k2
  exact rolodexlaw12_ManifestLike_val N (a0, a1, a2, ()) true hN 0
end Go.Rx
namespace Go.Proofs.YthflaibfpmgkfaaGreat
open Go.Rx Go.ChangeShapes Go.WideShapes Go.ChangeAt Go.RowKit
theorem ManifestLike_own : ownKnob Tryz.prog.godebug = none := by kernel_rfl
theorem ManifestLike_laid : laidOutB Tryz.prog = true := by kernel_rfl
theorem ManifestLike_hb : Tryz.f5.body = some Tryz_b5 := by kernel_rfl
theorem ManifestLike_lifted (law : ∀ (b0 : T_api_Manifest) (b1 : Vector UInt8 32) (b2 : Int), T_api_Manifest.ok b0 → True → in64 (b2) → ∃ N : Nat, rolodexlaw12_ManifestLike N b0 b1 b2 = some true) (os : Os) (started : os.Started) (H : Type) (enc : TypeId × Value → H) :
    ReturnsInHanded {} Tryz.checked os 5 .any (Rows.manifestLikeSpec.pre6 enc Tryz.prog Tryz.f5 Rows.manifestLikeRow.domain false) (Rows.manifestLikeSpec.post enc Tryz.prog Tryz.f5 false true false false) := by
  refine returnsInHanded_of_change_sized (C := Tryz.checked) ManifestLike_own started (by kernel_rfl) Tryz.func5
    (ChangeSpec.witness6 (enc := enc) (C := Tryz.checked) false ⟨#[], #[.agg #[.int .u8 0, .int .u8 0, .int .u8 0, .int .u8 0, .int .u8 0, .int .u8 0, .int .u8 0, .int .u8 0, .int .u8 0, .int .u8 0, .int .u8 0, .int .u8 0, .int .u8 0, .int .u8 0, .int .u8 0, .int .u8 0, .int .u8 0, .int .u8 0, .int .u8 0, .int .u8 0, .int .u8 0, .int .u8 0, .int .u8 0, .int .u8 0, .int .u8 0, .int .u8 0, .int .u8 0, .int .u8 0, .int .u8 0, .int .u8 0, .int .u8 0, .int .u8 0, .slice none 0 0], .agg #[.int .u8 0, .int .u8 0, .int .u8 0, .int .u8 0, .int .u8 0, .int .u8 0, .int .u8 0, .int .u8 0, .int .u8 0, .int .u8 0, .int .u8 0, .int .u8 0, .int .u8 0, .int .u8 0, .int .u8 0, .int .u8 0, .int .u8 0, .int .u8 0, .int .u8 0, .int .u8 0, .int .u8 0, .int .u8 0, .int .u8 0, .int .u8 0, .int .u8 0, .int .u8 0, .int .u8 0, .int .u8 0, .int .u8 0, .int .u8 0, .int .u8 0, .int .u8 0], .int .i64 0], []⟩ 12 (by kernel_rfl) (by kernel_rfl) (by kernel_rfl) (by kernel_rfl)) ?_
  intro W base args ds gs before hval hW _ hsz _
  exact contract_of (P := Tryz.prog) (K := 5) (n := 12) (tb := 4) (f := Tryz.f5) (s := Rows.manifestLikeSpec) Tryz.func5 ManifestLike_hb (by kernel_rfl) ManifestLike_laid (by kernel_rfl) rfl (by kernel_rfl) Tryz.underlying4
    (fun ds h => by
      match ds, h with
      | [d0, d1, d2], _ => rfl)
    (fun xs hp => ManifestLike_run law xs hp) W base args ds gs before hval hW hsz
theorem ManifestLike_row (law : ∀ (b0 : T_api_Manifest) (b1 : Vector UInt8 32) (b2 : Int), T_api_Manifest.ok b0 → True → in64 (b2) → ∃ N : Nat, rolodexlaw12_ManifestLike N b0 b1 b2 = some true) : Rows.ManifestLikeSaid :=
  OpenClaim.holds_of_wide 5 Tryz.f5 rfl rfl rfl rfl rfl rfl rfl ⟨rfl, rfl, rfl, rfl, rfl⟩ rfl rfl rfl rfl rfl (by kernel_rfl) Tryz.func5 (by kernel_rfl)
    (of_decide_eq_true (by kernel_rfl)) (by unfold Func.isWrapper; first | (rw [if_pos (by decide +kernel)]; kernel_rfl) | (rw [if_neg (by decide +kernel)]; exact ⟨rfl, rfl⟩))
    (fun os started H enc _ => ManifestLike_lifted law os started H enc)
end Go.Proofs.YthflaibfpmgkfaaGreat
namespace Go.Proofs.YthflaibfpmgkfaaGreat
theorem manifestLike_holds : Rows.ManifestLikeSaid := ManifestLike_row fun m d n _ _ _ => Go.Rx.manifestLike m d n
end Go.Proofs.YthflaibfpmgkfaaGreat
