/- A part of the proof of OrderFree: the law returns true for every input, and its arguments read as before. No condition. -/
import Derived.Test.YtbailaklnahpeaaRows
import Derived.ProofKit
import Derived.Test.YtbailaklnahpeaaOrderFreeF
set_option linter.unusedSimpArgs false
set_option linter.unusedVariables false
set_option linter.unusedSectionVars false
set_option maxRecDepth 100000
namespace Go.Rx
open Go.Proofs
theorem ty_Try_3 (n : Nat) (x : PV) (h : TyP Try.prog n 3 x) : ∃ a : Int, x = toPV (.i .i64) a ∧ in64 (a) := ty_i64 Try.underlying3 h
theorem ty_Try_24 (n : Nat) (x : PV) (h : TyP Try.prog n 24 x) : ∃ a : Vector UInt8 16, x = toPV (.ba 16) a ∧ True := ty_arr8 Try.underlying24 (by kernel_rfl) h
structure T_api_Stamp.ok (x : T_api_Stamp) : Prop where
  N : in64 (T_api_Stamp.N x)
  Rep : in64 (T_api_Stamp.Rep x)
theorem ty_Try_26 (n : Nat) (x : PV) (h : TyP Try.prog n 26 x) : ∃ a : T_api_Stamp, x = toPV t_api_Stamp a ∧ T_api_Stamp.ok a := by
  obtain ⟨xs, rfl, m, hp0⟩ := ty_struct Try.underlying26 h
  obtain ⟨y0, zs0, rfl, h0, hp1⟩ := pair_cons hp0
  obtain ⟨a0, rfl, k0⟩ := ty_Try_3 _ _ h0
  obtain ⟨y1, zs1, rfl, h1, hp2⟩ := pair_cons hp1
  obtain ⟨a1, rfl, k1⟩ := ty_Try_3 _ _ h1
  obtain rfl := pair_nil hp2
  exact ⟨T_api_Stamp.mk a0 a1, rfl, ⟨k0, k1⟩⟩
theorem ty_Try_9 (n : Nat) (x : PV) (h : TyP Try.prog n 9 x) : ∃ a : List UInt8, x = toPV .s a ∧ (a).length ≤ reachBytes := ty_str Try.underlying9 h
theorem ty_Try_4 (n : Nat) (x : PV) (h : TyP Try.prog n 4 x) : ∃ a : Bool, x = toPV .b a ∧ True := ty_bool Try.underlying4 h
structure T_api_Piece.ok (x : T_api_Piece) : Prop where
  Copy : True
  From : in64 (T_api_Piece.From x)
  Len : in64 (T_api_Piece.Len x)
  Lit : (T_api_Piece.Lit x).length ≤ reachBytes
theorem ty_Try_64 (n : Nat) (x : PV) (h : TyP Try.prog n 64 x) : ∃ a : T_api_Piece, x = toPV t_api_Piece a ∧ T_api_Piece.ok a := by
  obtain ⟨xs, rfl, m, hp0⟩ := ty_struct Try.underlying64 h
  obtain ⟨y0, zs0, rfl, h0, hp1⟩ := pair_cons hp0
  obtain ⟨a0, rfl, k0⟩ := ty_Try_4 _ _ h0
  obtain ⟨y1, zs1, rfl, h1, hp2⟩ := pair_cons hp1
  obtain ⟨a1, rfl, k1⟩ := ty_Try_3 _ _ h1
  obtain ⟨y2, zs2, rfl, h2, hp3⟩ := pair_cons hp2
  obtain ⟨a2, rfl, k2⟩ := ty_Try_3 _ _ h2
  obtain ⟨y3, zs3, rfl, h3, hp4⟩ := pair_cons hp3
  obtain ⟨a3, rfl, k3⟩ := ty_Try_9 _ _ h3
  obtain rfl := pair_nil hp4
  exact ⟨T_api_Piece.mk a0 a1 a2 a3, rfl, ⟨k0, k1, k2, k3⟩⟩
theorem ty_Try_27 (n : Nat) (x : PV) (h : TyP Try.prog n 27 x) : ∃ a : List T_api_Piece, x = toPV (.sl 4 t_api_Piece) a ∧ ((a).length * 40 ≤ reachBytes ∧ ∀ ea ∈ a, T_api_Piece.ok ea) := ty_list Try.underlying27 (by kernel_rfl) (by kernel_rfl) (by kernel_rfl) ty_Try_64 h
theorem ty_Try_29 (n : Nat) (x : PV) (h : TyP Try.prog n 29 x) : ∃ a : Vector UInt8 32, x = toPV (.ba 32) a ∧ True := ty_arr8 Try.underlying29 (by kernel_rfl) h
structure T_api_Op.ok (x : T_api_Op) : Prop where
  Kind : in64 (T_api_Op.Kind x)
  ID : True
  S : T_api_Stamp.ok (T_api_Op.S x)
  No : in64 (T_api_Op.No x)
  V : (T_api_Op.V x).length ≤ reachBytes
  P : ((T_api_Op.P x).length * 40 ≤ reachBytes ∧ ∀ eT_api_OpPx ∈ T_api_Op.P x, T_api_Piece.ok eT_api_OpPx)
  From : True
  FromNo : in64 (T_api_Op.FromNo x)
  D : True
theorem ty_Try_31 (n : Nat) (x : PV) (h : TyP Try.prog n 31 x) : ∃ a : T_api_Op, x = toPV t_api_Op a ∧ T_api_Op.ok a := by
  obtain ⟨xs, rfl, m, hp0⟩ := ty_struct Try.underlying31 h
  obtain ⟨y0, zs0, rfl, h0, hp1⟩ := pair_cons hp0
  obtain ⟨a0, rfl, k0⟩ := ty_Try_3 _ _ h0
  obtain ⟨y1, zs1, rfl, h1, hp2⟩ := pair_cons hp1
  obtain ⟨a1, rfl, k1⟩ := ty_Try_24 _ _ h1
  obtain ⟨y2, zs2, rfl, h2, hp3⟩ := pair_cons hp2
  obtain ⟨a2, rfl, k2⟩ := ty_Try_26 _ _ h2
  obtain ⟨y3, zs3, rfl, h3, hp4⟩ := pair_cons hp3
  obtain ⟨a3, rfl, k3⟩ := ty_Try_3 _ _ h3
  obtain ⟨y4, zs4, rfl, h4, hp5⟩ := pair_cons hp4
  obtain ⟨a4, rfl, k4⟩ := ty_Try_9 _ _ h4
  obtain ⟨y5, zs5, rfl, h5, hp6⟩ := pair_cons hp5
  obtain ⟨a5, rfl, k5⟩ := ty_Try_27 _ _ h5
  obtain ⟨y6, zs6, rfl, h6, hp7⟩ := pair_cons hp6
  obtain ⟨a6, rfl, k6⟩ := ty_Try_24 _ _ h6
  obtain ⟨y7, zs7, rfl, h7, hp8⟩ := pair_cons hp7
  obtain ⟨a7, rfl, k7⟩ := ty_Try_3 _ _ h7
  obtain ⟨y8, zs8, rfl, h8, hp9⟩ := pair_cons hp8
  obtain ⟨a8, rfl, k8⟩ := ty_Try_29 _ _ h8
  obtain rfl := pair_nil hp9
  exact ⟨T_api_Op.mk a0 a1 a2 a3 a4 a5 a6 a7 a8, rfl, ⟨k0, k1, k2, k3, k4, k5, k6, k7, k8⟩⟩
theorem OrderFree_run (law : ∀ (b0 : T_api_Op) (b1 : T_api_Op) (b2 : T_api_Op) (b3 : T_api_Op), T_api_Op.ok b0 → T_api_Op.ok b1 → T_api_Op.ok b2 → T_api_Op.ok b3 → ∃ N : Nat, rolodexlaw17_OrderFree N b0 b1 b2 b3 = some true) (xs : List PV) (hp0 : Pair (TyP Try.prog 12) [31, 31, 31, 31] xs) : Valid Try.prog 0 (.fn (.func 7) [] []) (xs.map .pv) [] (.ret (.pv (.b true))) [] := by
  obtain ⟨y0, zs0, rfl, h0, hp1⟩ := pair_cons hp0
  obtain ⟨a0, rfl, k0⟩ := ty_Try_31 _ _ h0
  obtain ⟨y1, zs1, rfl, h1, hp2⟩ := pair_cons hp1
  obtain ⟨a1, rfl, k1⟩ := ty_Try_31 _ _ h1
  obtain ⟨y2, zs2, rfl, h2, hp3⟩ := pair_cons hp2
  obtain ⟨a2, rfl, k2⟩ := ty_Try_31 _ _ h2
  obtain ⟨y3, zs3, rfl, h3, hp4⟩ := pair_cons hp3
  obtain ⟨a3, rfl, k3⟩ := ty_Try_31 _ _ h3
  obtain rfl := pair_nil hp4
  obtain ⟨N, hN⟩ := law a0 a1 a2 a3 k0 k1 k2 k3
  exact rolodexlaw17_OrderFree_val N (a0, a1, a2, a3, ()) true hN 0
end Go.Rx
namespace Go.Proofs.Ytbailaklnahpeaa
open Go.Rx Go.ChangeShapes Go.WideShapes Go.ChangeAt Go.RowKit
theorem OrderFree_own : ownKnob Try.prog.godebug = none := by kernel_rfl
theorem OrderFree_laid : laidOutB Try.prog = true := by kernel_rfl
theorem OrderFree_hb : Try.f7.body = some Try_b7 := by kernel_rfl
theorem OrderFree_lifted (law : ∀ (b0 : T_api_Op) (b1 : T_api_Op) (b2 : T_api_Op) (b3 : T_api_Op), T_api_Op.ok b0 → T_api_Op.ok b1 → T_api_Op.ok b2 → T_api_Op.ok b3 → ∃ N : Nat, rolodexlaw17_OrderFree N b0 b1 b2 b3 = some true) (os : Os) (started : os.Started) (H : Type) (enc : TypeId × Value → H) :
    ReturnsInHanded {} Try.checked os 7 .any (Rows.orderFreeSpec.pre6 enc Try.prog Try.f7 Rows.orderFreeRow.domain false) (Rows.orderFreeSpec.post enc Try.prog Try.f7 false true false false) := by
  refine returnsInHanded_of_change_sized (C := Try.checked) OrderFree_own started (by kernel_rfl) Try.func7
    (ChangeSpec.witness6 (enc := enc) (C := Try.checked) false ⟨#[], #[.agg #[.int .i64 0, .int .u8 0, .int .u8 0, .int .u8 0, .int .u8 0, .int .u8 0, .int .u8 0, .int .u8 0, .int .u8 0, .int .u8 0, .int .u8 0, .int .u8 0, .int .u8 0, .int .u8 0, .int .u8 0, .int .u8 0, .int .u8 0, .int .i64 0, .int .i64 0, .int .i64 0, .string ⟨#[]⟩, .slice none 0 0, .int .u8 0, .int .u8 0, .int .u8 0, .int .u8 0, .int .u8 0, .int .u8 0, .int .u8 0, .int .u8 0, .int .u8 0, .int .u8 0, .int .u8 0, .int .u8 0, .int .u8 0, .int .u8 0, .int .u8 0, .int .u8 0, .int .i64 0, .int .u8 0, .int .u8 0, .int .u8 0, .int .u8 0, .int .u8 0, .int .u8 0, .int .u8 0, .int .u8 0, .int .u8 0, .int .u8 0, .int .u8 0, .int .u8 0, .int .u8 0, .int .u8 0, .int .u8 0, .int .u8 0, .int .u8 0, .int .u8 0, .int .u8 0, .int .u8 0, .int .u8 0, .int .u8 0, .int .u8 0, .int .u8 0, .int .u8 0, .int .u8 0, .int .u8 0, .int .u8 0, .int .u8 0, .int .u8 0, .int .u8 0, .int .u8 0], .agg #[.int .i64 0, .int .u8 0, .int .u8 0, .int .u8 0, .int .u8 0, .int .u8 0, .int .u8 0, .int .u8 0, .int .u8 0, .int .u8 0, .int .u8 0, .int .u8 0, .int .u8 0, .int .u8 0, .int .u8 0, .int .u8 0, .int .u8 0, .int .i64 0, .int .i64 0, .int .i64 0, .string ⟨#[]⟩, .slice none 0 0, .int .u8 0, .int .u8 0, .int .u8 0, .int .u8 0, .int .u8 0, .int .u8 0, .int .u8 0, .int .u8 0, .int .u8 0, .int .u8 0, .int .u8 0, .int .u8 0, .int .u8 0, .int .u8 0, .int .u8 0, .int .u8 0, .int .i64 0, .int .u8 0, .int .u8 0, .int .u8 0, .int .u8 0, .int .u8 0, .int .u8 0, .int .u8 0, .int .u8 0, .int .u8 0, .int .u8 0, .int .u8 0, .int .u8 0, .int .u8 0, .int .u8 0, .int .u8 0, .int .u8 0, .int .u8 0, .int .u8 0, .int .u8 0, .int .u8 0, .int .u8 0, .int .u8 0, .int .u8 0, .int .u8 0, .int .u8 0, .int .u8 0, .int .u8 0, .int .u8 0, .int .u8 0, .int .u8 0, .int .u8 0, .int .u8 0], .agg #[.int .i64 0, .int .u8 0, .int .u8 0, .int .u8 0, .int .u8 0, .int .u8 0, .int .u8 0, .int .u8 0, .int .u8 0, .int .u8 0, .int .u8 0, .int .u8 0, .int .u8 0, .int .u8 0, .int .u8 0, .int .u8 0, .int .u8 0, .int .i64 0, .int .i64 0, .int .i64 0, .string ⟨#[]⟩, .slice none 0 0, .int .u8 0, .int .u8 0, .int .u8 0, .int .u8 0, .int .u8 0, .int .u8 0, .int .u8 0, .int .u8 0, .int .u8 0, .int .u8 0, .int .u8 0, .int .u8 0, .int .u8 0, .int .u8 0, .int .u8 0, .int .u8 0, .int .i64 0, .int .u8 0, .int .u8 0, .int .u8 0, .int .u8 0, .int .u8 0, .int .u8 0, .int .u8 0, .int .u8 0, .int .u8 0, .int .u8 0, .int .u8 0, .int .u8 0, .int .u8 0, .int .u8 0, .int .u8 0, .int .u8 0, .int .u8 0, .int .u8 0, .int .u8 0, .int .u8 0, .int .u8 0, .int .u8 0, .int .u8 0, .int .u8 0, .int .u8 0, .int .u8 0, .int .u8 0, .int .u8 0, .int .u8 0, .int .u8 0, .int .u8 0, .int .u8 0], .agg #[.int .i64 0, .int .u8 0, .int .u8 0, .int .u8 0, .int .u8 0, .int .u8 0, .int .u8 0, .int .u8 0, .int .u8 0, .int .u8 0, .int .u8 0, .int .u8 0, .int .u8 0, .int .u8 0, .int .u8 0, .int .u8 0, .int .u8 0, .int .i64 0, .int .i64 0, .int .i64 0, .string ⟨#[]⟩, .slice none 0 0, .int .u8 0, .int .u8 0, .int .u8 0, .int .u8 0, .int .u8 0, .int .u8 0, .int .u8 0, .int .u8 0, .int .u8 0, .int .u8 0, .int .u8 0, .int .u8 0, .int .u8 0, .int .u8 0, .int .u8 0, .int .u8 0, .int .i64 0, .int .u8 0, .int .u8 0, .int .u8 0, .int .u8 0, .int .u8 0, .int .u8 0, .int .u8 0, .int .u8 0, .int .u8 0, .int .u8 0, .int .u8 0, .int .u8 0, .int .u8 0, .int .u8 0, .int .u8 0, .int .u8 0, .int .u8 0, .int .u8 0, .int .u8 0, .int .u8 0, .int .u8 0, .int .u8 0, .int .u8 0, .int .u8 0, .int .u8 0, .int .u8 0, .int .u8 0, .int .u8 0, .int .u8 0, .int .u8 0, .int .u8 0, .int .u8 0]], []⟩ 12 (by kernel_rfl) (by kernel_rfl) (by kernel_rfl) (by kernel_rfl)) ?_
  intro W base args ds gs before hval hW _ hsz _
  exact contract_of (P := Try.prog) (K := 7) (n := 12) (tb := 4) (f := Try.f7) (s := Rows.orderFreeSpec) Try.func7 OrderFree_hb (by kernel_rfl) OrderFree_laid (by kernel_rfl) rfl (by kernel_rfl) Try.underlying4
    (fun ds h => by
      match ds, h with
      | [d0, d1, d2, d3], _ => rfl)
    (fun xs hp => OrderFree_run law xs hp) W base args ds gs before hval hW hsz
theorem OrderFree_row (law : ∀ (b0 : T_api_Op) (b1 : T_api_Op) (b2 : T_api_Op) (b3 : T_api_Op), T_api_Op.ok b0 → T_api_Op.ok b1 → T_api_Op.ok b2 → T_api_Op.ok b3 → ∃ N : Nat, rolodexlaw17_OrderFree N b0 b1 b2 b3 = some true) : Rows.OrderFreeSaid :=
  OpenClaim.holds_of_wide 7 Try.f7 rfl rfl rfl rfl rfl rfl rfl ⟨rfl, rfl, rfl, rfl, rfl⟩ rfl rfl rfl rfl rfl (by kernel_rfl) Try.func7 (by kernel_rfl)
    (of_decide_eq_true (by kernel_rfl)) (by unfold Func.isWrapper; first | (rw [if_pos (by decide +kernel)]; kernel_rfl) | (rw [if_neg (by decide +kernel)]; exact ⟨rfl, rfl⟩))
    (fun os started H enc _ => OrderFree_lifted law os started H enc)
end Go.Proofs.Ytbailaklnahpeaa
namespace Go.Proofs.Ytbailaklnahpeaa
theorem small_of {a : Go.Rx.T_api_Op} (h : Go.Rx.T_api_Op.ok a) : Go.Rx.SmallO a := h.P.1
theorem orderFree_holds : Rows.OrderFreeSaid := OrderFree_row fun a b x y ha hb hx hy => Go.Rx.orderFree a b x y (small_of ha) (small_of hb) (small_of hx) (small_of hy)
end Go.Proofs.Ytbailaklnahpeaa
