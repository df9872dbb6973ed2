/- A part of the proof of OrderBatches: the law returns true for every input, and its arguments read as before. No condition. -/
import Derived.Test.YtlfoomimcbobbaaProg
import Derived.Test.YtlfoomimcbobbaaOrderBatchesC
set_option linter.unusedSimpArgs false
set_option linter.unusedVariables false
set_option linter.unusedSectionVars false
set_option maxRecDepth 100000
namespace Go.Rx
open Go.Proofs
theorem Try_draw : Try.prog.follows .mixedOrders = true := by kernel_rfl
noncomputable def Try_b6 : Code := Try.f6.body.getD .skip
theorem Try_hb6 : Try.f6.body = some Try_b6 := by kernel_rfl
theorem Try_hf6 : Try.prog.funcs[6]? = some Try.f6 := by kernel_rfl
theorem Try_vf6 {hn : Hint} {lvl : Nat} {first cap args : List AV} {h h' : Ob} {O : Orc} {r : AV} {ps : List Prop} (hs : funO Try.prog hn (Valid Try.prog) 6 Try.f6 lvl (first ++ args ++ cap) h O = some ((.ret r, h'), ps)) (hp : All ps) (l : Nat) : Vd Try.prog l (.fn (.func 6) first cap) args h r h' :=
  valid_fun (draw_ok Try_draw) range_ok Try_hf6 Try_hb6 (by kernel_rfl) hs hp l
noncomputable def Try_b9 : Code := Try.f9.body.getD .skip
theorem Try_hb9 : Try.f9.body = some Try_b9 := by kernel_rfl
theorem Try_hf9 : Try.prog.funcs[9]? = some Try.f9 := by kernel_rfl
theorem Try_vf9 {hn : Hint} {lvl : Nat} {first cap args : List AV} {h h' : Ob} {O : Orc} {r : AV} {ps : List Prop} (hs : funO Try.prog hn (Valid Try.prog) 9 Try.f9 lvl (first ++ args ++ cap) h O = some ((.ret r, h'), ps)) (hp : All ps) (l : Nat) : Vd Try.prog l (.fn (.func 9) first cap) args h r h' :=
  valid_fun (draw_ok Try_draw) range_ok Try_hf9 Try_hb9 (by kernel_rfl) hs hp l
noncomputable def Try_b12 : Code := Try.f12.body.getD .skip
theorem Try_hb12 : Try.f12.body = some Try_b12 := by kernel_rfl
theorem Try_hf12 : Try.prog.funcs[12]? = some Try.f12 := by kernel_rfl
theorem Try_vf12 {hn : Hint} {lvl : Nat} {first cap args : List AV} {h h' : Ob} {O : Orc} {r : AV} {ps : List Prop} (hs : funO Try.prog hn (Valid Try.prog) 12 Try.f12 lvl (first ++ args ++ cap) h O = some ((.ret r, h'), ps)) (hp : All ps) (l : Nat) : Vd Try.prog l (.fn (.func 12) first cap) args h r h' :=
  valid_fun (draw_ok Try_draw) range_ok Try_hf12 Try_hb12 (by kernel_rfl) hs hp l
noncomputable def Try_b19 : Code := Try.f19.body.getD .skip
theorem Try_hb19 : Try.f19.body = some Try_b19 := by kernel_rfl
theorem Try_hf19 : Try.prog.funcs[19]? = some Try.f19 := by kernel_rfl
theorem Try_vf19 {hn : Hint} {lvl : Nat} {first cap args : List AV} {h h' : Ob} {O : Orc} {r : AV} {ps : List Prop} (hs : funO Try.prog hn (Valid Try.prog) 19 Try.f19 lvl (first ++ args ++ cap) h O = some ((.ret r, h'), ps)) (hp : All ps) (l : Nat) : Vd Try.prog l (.fn (.func 19) first cap) args h r h' :=
  valid_fun (draw_ok Try_draw) range_ok Try_hf19 Try_hb19 (by kernel_rfl) hs hp l
def slices_Clone_Op_hn : Hint where
  live := fun _ r => match r with
    | 0 => [0]
    | 1 => [0, 4]
    | 2 => [2]
    | 3 => [2]
    | _ => []
  esc := fun _ => true
  raw := fun k => false
  fresh := fun _ d => false
  vecs := fun _ d => Nat.beq d 5
def slices_Clone_Op (a0 : List T_api_Op) : Option (Unit) :=
  chk (a0 ≠ []) <|
  chk (capOK (a0).length 144) <|
  some ()
theorem slices_Clone_Op_p0 {a0 : List T_api_Op} (c1 : a0 ≠ []) (c2 : capOK (a0).length 144) (l : Nat) : Vd Try.prog l (.fn (.func 19) [] []) [v0 a0] [] (.v 100050 a0.length) [(100050, w0 a0)] :=
  Try_vf19 (hn := slices_Clone_Op_hn) (lvl := 0) (O := { nv := [(3002, .v 100050 a0.length)], no := [(3002, 100050, w0 a0)] }) (ps := [(a0).map T_api_Op.enc ≠ [], (p0 []).len = 0, (PV.l 71 (([]).map T_api_Op.enc ++ (a0).map T_api_Op.enc)).len * 144 ≤ 140737488355328, AObj.vec false 71 (.l 71 (([]).map T_api_Op.enc ++ (a0).map T_api_Op.enc)) = w0 a0, AV.v 100050 (([]).map T_api_Op.enc ++ (a0).map T_api_Op.enc).length = AV.v 100050 a0.length]) (by kernel_rfl) (Ac (map_ne c1) (Ac ((len_ok 71 T_api_Op.enc []).trans (by simp)) (Ac (len_le2 c2) (Ac (ob_app _ _ _ _ _) (Ac (nv_app _ _ _ _) An))))) l
theorem slices_Clone_Op_valid {a0 : List T_api_Op} {z : Unit} (h : slices_Clone_Op a0 = some z) (l : Nat) : Vd Try.prog l (.fn (.func 19) [] []) [v0 a0] [] (.v 100050 a0.length) [(100050, w0 a0)] := by
  unfold slices_Clone_Op at h
  obtain ⟨c1, h⟩ := chk_some h
  obtain ⟨c2, h⟩ := chk_some h
  obtain rfl := Option.some.inj h
  exact slices_Clone_Op_p0 c1 c2 l
noncomputable def Try_c12_5 : Code := sub [1, 0, 1, 1, 0, 1, 0, 0] Try_b12
noncomputable def Try_c12_9 : Code := sub [1, 0, 1, 1, 1, 1, 0, 0, 0] Try_b12
noncomputable def Try_b20 : Code := Try.f20.body.getD .skip
theorem Try_hb20 : Try.f20.body = some Try_b20 := by kernel_rfl
theorem Try_hf20 : Try.prog.funcs[20]? = some Try.f20 := by kernel_rfl
theorem Try_vf20 {hn : Hint} {lvl : Nat} {first cap args : List AV} {h h' : Ob} {O : Orc} {r : AV} {ps : List Prop} (hs : funO Try.prog hn (Valid Try.prog) 20 Try.f20 lvl (first ++ args ++ cap) h O = some ((.ret r, h'), ps)) (hp : All ps) (l : Nat) : Vd Try.prog l (.fn (.func 20) first cap) args h r h' :=
  valid_fun (draw_ok Try_draw) range_ok Try_hf20 Try_hb20 (by kernel_rfl) hs hp l
noncomputable def Try_c20_2 : Code := sub [1, 0, 1, 0, 0] Try_b20
noncomputable def Try_b21 : Code := Try.f21.body.getD .skip
theorem Try_hb21 : Try.f21.body = some Try_b21 := by kernel_rfl
theorem Try_hf21 : Try.prog.funcs[21]? = some Try.f21 := by kernel_rfl
theorem Try_vf21 {hn : Hint} {lvl : Nat} {first cap args : List AV} {h h' : Ob} {O : Orc} {r : AV} {ps : List Prop} (hs : funO Try.prog hn (Valid Try.prog) 21 Try.f21 lvl (first ++ args ++ cap) h O = some ((.ret r, h'), ps)) (hp : All ps) (l : Nat) : Vd Try.prog l (.fn (.func 21) first cap) args h r h' :=
  valid_fun (draw_ok Try_draw) range_ok Try_hf21 Try_hb21 (by kernel_rfl) hs hp l
noncomputable def Try_c21_2 : Code := sub [1, 0, 1, 0, 0] Try_b21
noncomputable def Try_b17 : Code := Try.f17.body.getD .skip
theorem Try_hb17 : Try.f17.body = some Try_b17 := by kernel_rfl
theorem Try_hf17 : Try.prog.funcs[17]? = some Try.f17 := by kernel_rfl
theorem Try_vf17 {hn : Hint} {lvl : Nat} {first cap args : List AV} {h h' : Ob} {O : Orc} {r : AV} {ps : List Prop} (hs : funO Try.prog hn (Valid Try.prog) 17 Try.f17 lvl (first ++ args ++ cap) h O = some ((.ret r, h'), ps)) (hp : All ps) (l : Nat) : Vd Try.prog l (.fn (.func 17) first cap) args h r h' :=
  valid_fun (draw_ok Try_draw) range_ok Try_hf17 Try_hb17 (by kernel_rfl) hs hp l
noncomputable def Try_b29 : Code := Try.f29.body.getD .skip
theorem Try_hb29 : Try.f29.body = some Try_b29 := by kernel_rfl
theorem Try_hf29 : Try.prog.funcs[29]? = some Try.f29 := by kernel_rfl
theorem Try_vf29 {hn : Hint} {lvl : Nat} {first cap args : List AV} {h h' : Ob} {O : Orc} {r : AV} {ps : List Prop} (hs : funO Try.prog hn (Valid Try.prog) 29 Try.f29 lvl (first ++ args ++ cap) h O = some ((.ret r, h'), ps)) (hp : All ps) (l : Nat) : Vd Try.prog l (.fn (.func 29) first cap) args h r h' :=
  valid_fun (draw_ok Try_draw) range_ok Try_hf29 Try_hb29 (by kernel_rfl) hs hp l
def order_read_hn : Hint where
  live := fun _ r => match r with
    | 0 => [1, 2]
    | 1 => [1, 2, 5]
    | 2 => [1, 2, 5, 6]
    | 3 => [2, 3]
    | 4 => [1, 2, 13]
    | 5 => [2, 3]
    | 6 => [2, 3]
    | _ => []
  esc := fun _ => false
  raw := fun k => false
  fresh := fun _ d => false
  vecs := fun _ d => false
def order_read (a0 : T_api_Op) : Option (T_order_place × Bool) :=
  cond (decide (a0.Kind = 2)) (
    some (T_order_place.mk a0.From a0.FromNo, true)) (
    cond (decide (a0.Kind = 3)) (
      some (T_order_place.mk a0.ID a0.No, true)) (
      some ((T_order_place.mk ((Vector.replicate 16 0)) 0, false))))
theorem order_read_p0 {a0 : T_api_Op} (c1 : (decide (a0.Kind = 2)) = true) (l : Nat) : Vd Try.prog l (.fn (.func 29) [] []) [v1 a0] [] (.tup [v2 (T_order_place.mk a0.From a0.FromNo), vb true]) [] :=
  Try_vf29 (hn := order_read_hn) (lvl := 0) (O := { nv := [(2000, vb true)] }) (ps := [EB (decide (a0.Kind = 2)) true]) (by kernel_rfl) (Ac (nv_b c1) An) l
theorem order_read_p1 {a0 : T_api_Op} (c1 : (decide (a0.Kind = 2)) = false) (c2 : (decide (a0.Kind = 3)) = true) (l : Nat) : Vd Try.prog l (.fn (.func 29) [] []) [v1 a0] [] (.tup [v2 (T_order_place.mk a0.ID a0.No), vb true]) [] :=
  Try_vf29 (hn := order_read_hn) (lvl := 0) (O := { nv := [(2000, vb false), (4000, vb true)] }) (ps := [EB (decide (a0.Kind = 2)) false, EB (decide (a0.Kind = 3)) true]) (by kernel_rfl) (Ac (nv_b c1) (Ac (nv_b c2) An)) l
theorem order_read_p2 {a0 : T_api_Op} (c1 : (decide (a0.Kind = 2)) = false) (c2 : (decide (a0.Kind = 3)) = false) (l : Nat) : Vd Try.prog l (.fn (.func 29) [] []) [v1 a0] [] (.tup [v2 (T_order_place.mk ((Vector.replicate 16 0)) 0), vb false]) [] :=
  Try_vf29 (hn := order_read_hn) (lvl := 0) (O := { nv := [(2000, vb false), (4000, vb false)] }) (ps := [EB (decide (a0.Kind = 2)) false, EB (decide (a0.Kind = 3)) false]) (by kernel_rfl) (Ac (nv_b c1) (Ac (nv_b c2) An)) l
theorem order_read_valid {a0 : T_api_Op} {z : T_order_place × Bool} (h : order_read a0 = some z) (l : Nat) : Vd Try.prog l (.fn (.func 29) [] []) [v1 a0] [] (.tup [v2 z.1, vb z.2]) [] := by
  unfold order_read at h
  rcases cond_some h with ⟨c1, h⟩ | ⟨c1, h⟩
  · obtain rfl := Option.some.inj h
    exact order_read_p0 c1 l
  · rcases cond_some h with ⟨c2, h⟩ | ⟨c2, h⟩
    · obtain rfl := Option.some.inj h
      exact order_read_p1 c1 c2 l
    · obtain rfl := Option.some.inj h
      exact order_read_p2 c1 c2 l
def order_Reads_hn : Hint where
  live := fun _ r => match r with
    | 0 => [2, 3]
    | 1 => [3, 5, 6]
    | 2 => [3, 5, 6, 14]
    | 3 => [4]
    | 4 => [4]
    | _ => []
  esc := fun _ => false
  raw := fun k => false
  fresh := fun _ d => false
  vecs := fun _ d => false
def order_Reads (a0 : T_api_Op) (a1 : T_api_Op) : Option (Bool) :=
  (order_read a0).bind fun r1 =>
  cond (r1.2) (
    cond (decide (a1.Kind = 0)) (
      some (decide (r1.1.id.toList = a1.ID.toList))) (
      some ((decide (r1.1.id.toList = a1.ID.toList)) && ((decide (r1.1.no = a1.No)) && true)))) (
    cond (decide (a1.Kind = 0)) (
      some false) (
      some false))
theorem order_Reads_p0 {a0 : T_api_Op} {a1 : T_api_Op} {r1 : T_order_place × Bool} (c2 : order_read a0 = some r1) (c3 : r1.2 = true) (c4 : (decide (a1.Kind = 0)) = true) (l : Nat) : Vd Try.prog l (.fn (.func 17) [] []) [v1 a0, v1 a1] [] (vb (decide (r1.1.id.toList = a1.ID.toList))) [] :=
  Try_vf17 (hn := order_Reads_hn) (lvl := 0) (O := { an := [(1001, .call (.ret (.tup [v2 r1.1, vb r1.2])) [])], nv := [(1004, vb true), (2002, vb true)] }) (ps := [Vd Try.prog 0 (.fn (.func 29) [] []) [v1 a0] [] (.tup [v2 r1.1, vb r1.2]) [], EB r1.2 true, EB (decide (a1.Kind = 0)) true]) (by kernel_rfl) (Ac (order_read_valid c2 _) (Ac (nv_b c3) (Ac (nv_b c4) An))) l
theorem order_Reads_p1 {a0 : T_api_Op} {a1 : T_api_Op} {r1 : T_order_place × Bool} (c2 : order_read a0 = some r1) (c3 : r1.2 = true) (c4 : (decide (a1.Kind = 0)) = false) (l : Nat) : Vd Try.prog l (.fn (.func 17) [] []) [v1 a0, v1 a1] [] (vb ((decide (r1.1.id.toList = a1.ID.toList)) && ((decide (r1.1.no = a1.No)) && true))) [] :=
  Try_vf17 (hn := order_Reads_hn) (lvl := 0) (O := { an := [(1001, .call (.ret (.tup [v2 r1.1, vb r1.2])) [])], nv := [(1004, vb true), (2002, vb false)] }) (ps := [Vd Try.prog 0 (.fn (.func 29) [] []) [v1 a0] [] (.tup [v2 r1.1, vb r1.2]) [], EB r1.2 true, EB (decide (a1.Kind = 0)) false]) (by kernel_rfl) (Ac (order_read_valid c2 _) (Ac (nv_b c3) (Ac (nv_b c4) An))) l
theorem order_Reads_p2 {a0 : T_api_Op} {a1 : T_api_Op} {r1 : T_order_place × Bool} (c2 : order_read a0 = some r1) (c3 : r1.2 = false) (c4 : (decide (a1.Kind = 0)) = true) (l : Nat) : Vd Try.prog l (.fn (.func 17) [] []) [v1 a0, v1 a1] [] (vb false) [] :=
  Try_vf17 (hn := order_Reads_hn) (lvl := 0) (O := { an := [(1001, .call (.ret (.tup [v2 r1.1, vb r1.2])) [])], nv := [(1004, vb false), (2002, vb true)] }) (ps := [Vd Try.prog 0 (.fn (.func 29) [] []) [v1 a0] [] (.tup [v2 r1.1, vb r1.2]) [], EB r1.2 false, EB (decide (a1.Kind = 0)) true]) (by kernel_rfl) (Ac (order_read_valid c2 _) (Ac (nv_b c3) (Ac (nv_b c4) An))) l
theorem order_Reads_p3 {a0 : T_api_Op} {a1 : T_api_Op} {r1 : T_order_place × Bool} (c2 : order_read a0 = some r1) (c3 : r1.2 = false) (c4 : (decide (a1.Kind = 0)) = false) (l : Nat) : Vd Try.prog l (.fn (.func 17) [] []) [v1 a0, v1 a1] [] (vb false) [] :=
  Try_vf17 (hn := order_Reads_hn) (lvl := 0) (O := { an := [(1001, .call (.ret (.tup [v2 r1.1, vb r1.2])) [])], nv := [(1004, vb false), (2002, vb false)] }) (ps := [Vd Try.prog 0 (.fn (.func 29) [] []) [v1 a0] [] (.tup [v2 r1.1, vb r1.2]) [], EB r1.2 false, EB (decide (a1.Kind = 0)) false]) (by kernel_rfl) (Ac (order_read_valid c2 _) (Ac (nv_b c3) (Ac (nv_b c4) An))) l
theorem order_Reads_valid {a0 : T_api_Op} {a1 : T_api_Op} {z : Bool} (h : order_Reads a0 a1 = some z) (l : Nat) : Vd Try.prog l (.fn (.func 17) [] []) [v1 a0, v1 a1] [] (vb z) [] := by
  unfold order_Reads at h
  obtain ⟨r1, c2, h⟩ := bind_some h
  rcases cond_some h with ⟨c3, h⟩ | ⟨c3, h⟩
  · rcases cond_some h with ⟨c4, h⟩ | ⟨c4, h⟩
    · obtain rfl := Option.some.inj h
      exact order_Reads_p0 c2 c3 c4 l
    · obtain rfl := Option.some.inj h
      exact order_Reads_p1 c2 c3 c4 l
  · rcases cond_some h with ⟨c4, h⟩ | ⟨c4, h⟩
    · obtain rfl := Option.some.inj h
      exact order_Reads_p2 c2 c3 c4 l
    · obtain rfl := Option.some.inj h
      exact order_Reads_p3 c2 c3 c4 l
def order_sorter_free_hn : Hint where
  live := fun _ r => match r with
    | 0 => [0, 1]
    | 1 => [0, 1, 10, 11]
    | 2 => [0, 1, 10, 11, 12]
    | 3 => [0, 1, 5, 10, 11]
    | 4 => [0, 1, 10, 11, 41]
    | 5 => [4]
    | 6 => [0, 1, 10, 11]
    | 7 => [4]
    | _ => []
  esc := fun _ => false
  raw := fun k => false
  fresh := fun _ d => false
  vecs := fun _ d => false
noncomputable def order_sorter_free_f2 := codeO Try.prog order_sorter_free_hn (Valid Try.prog) 21 Try_c21_2
def order_sorter_free_l2_e : Int ⊕ Unit → Ex
  | .inl _ => .exit 0
  | .inr _ => .ret
def order_sorter_free_l2_s (a0 : Int) (a1 : Nat) (a2 : List (Int × Bool × Nat)) (a3 : Nat) (a4 : List (Int × Bool × Nat)) (a5 : List T_api_Op) (a6 : List T_api_Op) : Int ⊕ Unit → St
  | .inl z => S5 2 43 [220, 230, 250, 100050] [(0, .p 250 [] 0), (1, vi a0), (10, vi ((a6.length : Nat) : Int)), (11, vi z), (12, vb false)] [(220, m0 a1 a2), (230, m0 a3 a4), (250, .cell false (.ag [.v 100050 a6.length, v0 a5, .m 220, .m 230, .nils])), (100050, w0 a6)]
  | .inr z => S5 2 43 [220, 230, 250, 100050] [(4, vb false)] [(220, m0 a1 a2), (230, m0 a3 a4), (250, .cell false (.ag [.v 100050 a6.length, v0 a5, .m 220, .m 230, .nils])), (100050, w0 a6)]
def order_sorter_free_l2_h (a0 : Int) (a1 : Nat) (a2 : List (Int × Bool × Nat)) (a3 : Nat) (a4 : List (Int × Bool × Nat)) (a5 : List T_api_Op) (a6 : List T_api_Op) (s11_2 : Int) : St := S5 2 43 [220, 230, 250, 100050] [(0, .p 250 [] 0), (1, vi a0), (10, vi ((a6.length : Nat) : Int)), (11, vi s11_2)] [(220, m0 a1 a2), (230, m0 a3 a4), (250, .cell false (.ag [.v 100050 a6.length, v0 a5, .m 220, .m 230, .nils])), (100050, w0 a6)]
def order_sorter_free_l2_f (a0 : Int) (a1 : Nat) (a2 : List (Int × Bool × Nat)) (a3 : Nat) (a4 : List (Int × Bool × Nat)) (a5 : List T_api_Op) (a6 : List T_api_Op) (N : Nat) (ih : Int → Option (Int ⊕ Unit)) (s11_2 : Int) : Option (Int ⊕ Unit) :=
    cond (decide (s11_2 < ((a6.length : Nat) : Int))) (
      cond (!decide (s11_2 = a0)) (
        optcase (findM s11_2 a2) (
          chk (in64 (s11_2 + 1)) <|
          ih (s11_2 + 1)) fun e4 =>
          cond (e4.1) (
            chk (0 ≤ s11_2 ∧ s11_2 < ((a6.length : Nat) : Int)) <|
            (getI a6 s11_2).bind fun e7 =>
            chk (0 ≤ a0 ∧ a0 < ((a6.length : Nat) : Int)) <|
            (getI a6 a0).bind fun e10 =>
            (order_Reads e7 e10).bind fun r12 =>
            cond (r12) (
              some (.inr ())) (
              chk (in64 (s11_2 + 1)) <|
              ih (s11_2 + 1))) (
            chk (in64 (s11_2 + 1)) <|
            ih (s11_2 + 1))) (
        chk (in64 (s11_2 + 1)) <|
        ih (s11_2 + 1))) (
      some (.inl s11_2))
def order_sorter_free_l2 (a0 : Int) (a1 : Nat) (a2 : List (Int × Bool × Nat)) (a3 : Nat) (a4 : List (Int × Bool × Nat)) (a5 : List T_api_Op) (a6 : List T_api_Op) : Nat → Int → Option (Int ⊕ Unit)
  | 0 => fun _ => none
  | N + 1 => order_sorter_free_l2_f a0 a1 a2 a3 a4 a5 a6 N (order_sorter_free_l2 a0 a1 a2 a3 a4 a5 a6 N)
theorem order_sorter_free_l2_p0 {a0 : Int} {a1 : Nat} {a2 : List (Int × Bool × Nat)} {a3 : Nat} {a4 : List (Int × Bool × Nat)} {a5 : List T_api_Op} {a6 : List T_api_Op} {s11_2 : Int} (c1 : (decide (s11_2 < ((a6.length : Nat) : Int))) = true) (c2 : (!decide (s11_2 = a0)) = true) (c3 : findM s11_2 a2 = none) (c4 : in64 (s11_2 + 1)) : Step order_sorter_free_f2 (order_sorter_free_l2_h a0 a1 a2 a3 a4 a5 a6 s11_2) (.normal) (S5 2 43 [220, 230, 250, 100050] [(0, .p 250 [] 0), (1, vi a0), (10, vi ((a6.length : Nat) : Int)), (11, vi (s11_2 + 1))] [(220, m0 a1 a2), (230, m0 a3 a4), (250, .cell false (.ag [.v 100050 a6.length, v0 a5, .m 220, .m 230, .nils])), (100050, w0 a6)]) :=
  ⟨{ an := [(4009, .found none)], nv := [(2000, vb true), (4002, vb true), (6000, vi (s11_2 + 1))] }, [EB (decide (s11_2 < ((a6.length : Nat) : Int))) true, EB (!decide (s11_2 = a0)) true, mapFind (.i .i64 s11_2) (encM (PV.i .i64) (fun x => AV.pv (.b x)) a2) = some none, EW (s11_2 + 1)], by kernel_rfl, (Ac (nv_b c1) (Ac (nv_b c2) (Ac (findM_none (fv := (fun x => AV.pv (.b x))) key_i64 c3) (Ac (nv_wrap c4) An))))⟩
theorem order_sorter_free_l2_p1 {a0 : Int} {a1 : Nat} {a2 : List (Int × Bool × Nat)} {a3 : Nat} {a4 : List (Int × Bool × Nat)} {a5 : List T_api_Op} {a6 : List T_api_Op} {s11_2 : Int} {e4 : Bool × Nat} {e7 : T_api_Op} {e10 : T_api_Op} {r12 : Bool} (c1 : (decide (s11_2 < ((a6.length : Nat) : Int))) = true) (c2 : (!decide (s11_2 = a0)) = true) (c3 : findM s11_2 a2 = some e4) (c5 : e4.1 = true) (c6 : 0 ≤ s11_2 ∧ s11_2 < ((a6.length : Nat) : Int)) (c8 : getI a6 s11_2 = some e7) (c9 : 0 ≤ a0 ∧ a0 < ((a6.length : Nat) : Int)) (c11 : getI a6 a0 = some e10) (c13 : order_Reads e7 e10 = some r12) (c14 : r12 = true) : Step order_sorter_free_f2 (order_sorter_free_l2_h a0 a1 a2 a3 a4 a5 a6 s11_2) (.ret) (S5 2 43 [220, 230, 250, 100050] [(4, vb false)] [(220, m0 a1 a2), (230, m0 a3 a4), (250, .cell false (.ag [.v 100050 a6.length, v0 a5, .m 220, .m 230, .nils])), (100050, w0 a6)]) :=
  ⟨{ an := [(4009, .found (some (vb e4.1, e4.2))), (4018, .pv (p1 e7)), (4025, .pv (p1 e10)), (4026, .call (.ret (vb r12)) [])], nv := [(2000, vb true), (4002, vb true), (4009, vb true), (4026, vb true)] }, [EB (decide (s11_2 < ((a6.length : Nat) : Int))) true, EB (!decide (s11_2 = a0)) true, mapFind (.i .i64 s11_2) (encM (PV.i .i64) (fun x => AV.pv (.b x)) a2) = some (some (vb e4.1, e4.2)), EB e4.1 true, 0 ≤ s11_2 ∧ s11_2 < ((a6.length : Nat) : Int), EG (p0 a6) ((s11_2.toNat : Nat) : Int) (p1 e7), s11_2.toNat * 71 = s11_2.toNat * 71 + 0, (p0 a6).len = a6.length, 0 ≤ a0 ∧ a0 < ((a6.length : Nat) : Int), EG (p0 a6) ((a0.toNat : Nat) : Int) (p1 e10), a0.toNat * 71 = a0.toNat * 71 + 0, (p0 a6).len = a6.length, Vd Try.prog 2 (.fn (.func 17) [] []) [v1 e7, v1 e10] [] (vb r12) [], EB r12 true], by kernel_rfl, (Ac (nv_b c1) (Ac (nv_b c2) (Ac (findM_some (fv := (fun x => AV.pv (.b x))) key_i64 c3) (Ac (nv_b c5) (Ac c6 (Ac (getI_okN c8 71 T_api_Op.enc) (Ac rfl (Ac (len_ok _ _ _) (Ac c9 (Ac (getI_okN c11 71 T_api_Op.enc) (Ac rfl (Ac (len_ok _ _ _) (Ac (order_Reads_valid c13 _) (Ac (nv_b c14) An))))))))))))))⟩
theorem order_sorter_free_l2_p2 {a0 : Int} {a1 : Nat} {a2 : List (Int × Bool × Nat)} {a3 : Nat} {a4 : List (Int × Bool × Nat)} {a5 : List T_api_Op} {a6 : List T_api_Op} {s11_2 : Int} {e4 : Bool × Nat} {e7 : T_api_Op} {e10 : T_api_Op} {r12 : Bool} (c1 : (decide (s11_2 < ((a6.length : Nat) : Int))) = true) (c2 : (!decide (s11_2 = a0)) = true) (c3 : findM s11_2 a2 = some e4) (c5 : e4.1 = true) (c6 : 0 ≤ s11_2 ∧ s11_2 < ((a6.length : Nat) : Int)) (c8 : getI a6 s11_2 = some e7) (c9 : 0 ≤ a0 ∧ a0 < ((a6.length : Nat) : Int)) (c11 : getI a6 a0 = some e10) (c13 : order_Reads e7 e10 = some r12) (c14 : r12 = false) (c15 : in64 (s11_2 + 1)) : Step order_sorter_free_f2 (order_sorter_free_l2_h a0 a1 a2 a3 a4 a5 a6 s11_2) (.normal) (S5 2 43 [220, 230, 250, 100050] [(0, .p 250 [] 0), (1, vi a0), (10, vi ((a6.length : Nat) : Int)), (11, vi (s11_2 + 1))] [(220, m0 a1 a2), (230, m0 a3 a4), (250, .cell false (.ag [.v 100050 a6.length, v0 a5, .m 220, .m 230, .nils])), (100050, w0 a6)]) :=
  ⟨{ an := [(4009, .found (some (vb e4.1, e4.2))), (4018, .pv (p1 e7)), (4025, .pv (p1 e10)), (4026, .call (.ret (vb r12)) [])], nv := [(2000, vb true), (4002, vb true), (4009, vb true), (4026, vb false), (6000, vi (s11_2 + 1))] }, [EB (decide (s11_2 < ((a6.length : Nat) : Int))) true, EB (!decide (s11_2 = a0)) true, mapFind (.i .i64 s11_2) (encM (PV.i .i64) (fun x => AV.pv (.b x)) a2) = some (some (vb e4.1, e4.2)), EB e4.1 true, 0 ≤ s11_2 ∧ s11_2 < ((a6.length : Nat) : Int), EG (p0 a6) ((s11_2.toNat : Nat) : Int) (p1 e7), s11_2.toNat * 71 = s11_2.toNat * 71 + 0, (p0 a6).len = a6.length, 0 ≤ a0 ∧ a0 < ((a6.length : Nat) : Int), EG (p0 a6) ((a0.toNat : Nat) : Int) (p1 e10), a0.toNat * 71 = a0.toNat * 71 + 0, (p0 a6).len = a6.length, Vd Try.prog 2 (.fn (.func 17) [] []) [v1 e7, v1 e10] [] (vb r12) [], EB r12 false, EW (s11_2 + 1)], by kernel_rfl, (Ac (nv_b c1) (Ac (nv_b c2) (Ac (findM_some (fv := (fun x => AV.pv (.b x))) key_i64 c3) (Ac (nv_b c5) (Ac c6 (Ac (getI_okN c8 71 T_api_Op.enc) (Ac rfl (Ac (len_ok _ _ _) (Ac c9 (Ac (getI_okN c11 71 T_api_Op.enc) (Ac rfl (Ac (len_ok _ _ _) (Ac (order_Reads_valid c13 _) (Ac (nv_b c14) (Ac (nv_wrap c15) An)))))))))))))))⟩
theorem order_sorter_free_l2_p3 {a0 : Int} {a1 : Nat} {a2 : List (Int × Bool × Nat)} {a3 : Nat} {a4 : List (Int × Bool × Nat)} {a5 : List T_api_Op} {a6 : List T_api_Op} {s11_2 : Int} {e4 : Bool × Nat} (c1 : (decide (s11_2 < ((a6.length : Nat) : Int))) = true) (c2 : (!decide (s11_2 = a0)) = true) (c3 : findM s11_2 a2 = some e4) (c5 : e4.1 = false) (c6 : in64 (s11_2 + 1)) : Step order_sorter_free_f2 (order_sorter_free_l2_h a0 a1 a2 a3 a4 a5 a6 s11_2) (.normal) (S5 2 43 [220, 230, 250, 100050] [(0, .p 250 [] 0), (1, vi a0), (10, vi ((a6.length : Nat) : Int)), (11, vi (s11_2 + 1))] [(220, m0 a1 a2), (230, m0 a3 a4), (250, .cell false (.ag [.v 100050 a6.length, v0 a5, .m 220, .m 230, .nils])), (100050, w0 a6)]) :=
  ⟨{ an := [(4009, .found (some (vb e4.1, e4.2)))], nv := [(2000, vb true), (4002, vb true), (4009, vb false), (6000, vi (s11_2 + 1))] }, [EB (decide (s11_2 < ((a6.length : Nat) : Int))) true, EB (!decide (s11_2 = a0)) true, mapFind (.i .i64 s11_2) (encM (PV.i .i64) (fun x => AV.pv (.b x)) a2) = some (some (vb e4.1, e4.2)), EB e4.1 false, EW (s11_2 + 1)], by kernel_rfl, (Ac (nv_b c1) (Ac (nv_b c2) (Ac (findM_some (fv := (fun x => AV.pv (.b x))) key_i64 c3) (Ac (nv_b c5) (Ac (nv_wrap c6) An)))))⟩
theorem order_sorter_free_l2_p4 {a0 : Int} {a1 : Nat} {a2 : List (Int × Bool × Nat)} {a3 : Nat} {a4 : List (Int × Bool × Nat)} {a5 : List T_api_Op} {a6 : List T_api_Op} {s11_2 : Int} (c1 : (decide (s11_2 < ((a6.length : Nat) : Int))) = true) (c2 : (!decide (s11_2 = a0)) = false) (c3 : in64 (s11_2 + 1)) : Step order_sorter_free_f2 (order_sorter_free_l2_h a0 a1 a2 a3 a4 a5 a6 s11_2) (.normal) (S5 2 43 [220, 230, 250, 100050] [(0, .p 250 [] 0), (1, vi a0), (10, vi ((a6.length : Nat) : Int)), (11, vi (s11_2 + 1))] [(220, m0 a1 a2), (230, m0 a3 a4), (250, .cell false (.ag [.v 100050 a6.length, v0 a5, .m 220, .m 230, .nils])), (100050, w0 a6)]) :=
  ⟨{ nv := [(2000, vb true), (4002, vb false), (6000, vi (s11_2 + 1))] }, [EB (decide (s11_2 < ((a6.length : Nat) : Int))) true, EB (!decide (s11_2 = a0)) false, EW (s11_2 + 1)], by kernel_rfl, (Ac (nv_b c1) (Ac (nv_b c2) (Ac (nv_wrap c3) An)))⟩
theorem order_sorter_free_l2_p5 {a0 : Int} {a1 : Nat} {a2 : List (Int × Bool × Nat)} {a3 : Nat} {a4 : List (Int × Bool × Nat)} {a5 : List T_api_Op} {a6 : List T_api_Op} {s11_2 : Int} (c1 : (decide (s11_2 < ((a6.length : Nat) : Int))) = false) : Step order_sorter_free_f2 (order_sorter_free_l2_h a0 a1 a2 a3 a4 a5 a6 s11_2) (.exit 0) (S5 2 43 [220, 230, 250, 100050] [(0, .p 250 [] 0), (1, vi a0), (10, vi ((a6.length : Nat) : Int)), (11, vi s11_2), (12, vb false)] [(220, m0 a1 a2), (230, m0 a3 a4), (250, .cell false (.ag [.v 100050 a6.length, v0 a5, .m 220, .m 230, .nils])), (100050, w0 a6)]) :=
  ⟨{ nv := [(2000, vb false)] }, [EB (decide (s11_2 < ((a6.length : Nat) : Int))) false], by kernel_rfl, (Ac (nv_b c1) An)⟩
theorem order_sorter_free_l2_ok {a0 : Int} {a1 : Nat} {a2 : List (Int × Bool × Nat)} {a3 : Nat} {a4 : List (Int × Bool × Nat)} {a5 : List T_api_Op} {a6 : List T_api_Op} : ∀ {N : Nat} {s11_2 : Int} {z : Int ⊕ Unit}, order_sorter_free_l2 a0 a1 a2 a3 a4 a5 a6 N s11_2 = some z → LoopP order_sorter_free_f2 (order_sorter_free_l2_h a0 a1 a2 a3 a4 a5 a6 s11_2) (order_sorter_free_l2_e z) (order_sorter_free_l2_s a0 a1 a2 a3 a4 a5 a6 z) := by
  intro N
  induction N with
  | zero => intro s11_2 z h; simp [order_sorter_free_l2] at h
  | succ N ih =>
    intro s11_2 z h
    change order_sorter_free_l2_f a0 a1 a2 a3 a4 a5 a6 N (order_sorter_free_l2 a0 a1 a2 a3 a4 a5 a6 N) s11_2 = some z at h
    unfold order_sorter_free_l2_f at h
    rcases cond_some h with ⟨c1, h⟩ | ⟨c1, h⟩
    · rcases cond_some h with ⟨c2, h⟩ | ⟨c2, h⟩
      · rcases optcase_some h with ⟨c3, h⟩ | ⟨e4, c3, h⟩
        · obtain ⟨c4, h⟩ := chk_some h
          exact Step.next (order_sorter_free_l2_p0 c1 c2 c3 c4) (ih h)
        · rcases cond_some h with ⟨c5, h⟩ | ⟨c5, h⟩
          · obtain ⟨c6, h⟩ := chk_some h
            obtain ⟨e7, c8, h⟩ := bind_some h
            obtain ⟨c9, h⟩ := chk_some h
            obtain ⟨e10, c11, h⟩ := bind_some h
            obtain ⟨r12, c13, h⟩ := bind_some h
            rcases cond_some h with ⟨c14, h⟩ | ⟨c14, h⟩
            · obtain rfl := Option.some.inj h
              exact Step.ret (order_sorter_free_l2_p1 c1 c2 c3 c5 c6 c8 c9 c11 c13 c14)
            · obtain ⟨c15, h⟩ := chk_some h
              exact Step.next (order_sorter_free_l2_p2 c1 c2 c3 c5 c6 c8 c9 c11 c13 c14 c15) (ih h)
          · obtain ⟨c6, h⟩ := chk_some h
            exact Step.next (order_sorter_free_l2_p3 c1 c2 c3 c5 c6) (ih h)
      · obtain ⟨c3, h⟩ := chk_some h
        exact Step.next (order_sorter_free_l2_p4 c1 c2 c3) (ih h)
    · obtain rfl := Option.some.inj h
      exact Step.exit (order_sorter_free_l2_p5 c1)
def order_sorter_free (N : Nat) (a0 : Int) (a1 : Nat) (a2 : List (Int × Bool × Nat)) (a3 : Nat) (a4 : List (Int × Bool × Nat)) (a5 : List T_api_Op) (a6 : List T_api_Op) : Option (Bool) :=
  (order_sorter_free_l2 a0 a1 a2 a3 a4 a5 a6 N 0).bind fun z1 => match z1 with
  | .inl z2 =>
    some true
  | .inr z2 =>
    some false
theorem order_sorter_free_p0 {N : Nat} {a0 : Int} {a1 : Nat} {a2 : List (Int × Bool × Nat)} {a3 : Nat} {a4 : List (Int × Bool × Nat)} {a5 : List T_api_Op} {a6 : List T_api_Op} {z2 : Int} (c3 : order_sorter_free_l2 a0 a1 a2 a3 a4 a5 a6 N 0 = some (.inl z2)) (l : Nat) : Vd Try.prog l (.fn (.func 21) [.p 250 [] 0] []) [vi a0] [(220, m0 a1 a2), (230, m0 a3 a4), (250, .cell false (.ag [.v 100050 a6.length, v0 a5, .m 220, .m 230, .nils])), (100050, w0 a6)] (vb true) [(220, m0 a1 a2), (230, m0 a3 a4), (250, .cell false (.ag [.v 100050 a6.length, v0 a5, .m 220, .m 230, .nils])), (100050, w0 a6)] :=
  Try_vf21 (hn := order_sorter_free_hn) (lvl := 1) (O := { lo := [(2, .exit 0, S5 2 43 [220, 230, 250, 100050] [(0, .p 250 [] 0), (1, vi a0), (10, vi ((a6.length : Nat) : Int)), (11, vi z2), (12, vb false)] [(220, m0 a1 a2), (230, m0 a3 a4), (250, .cell false (.ag [.v 100050 a6.length, v0 a5, .m 220, .m 230, .nils])), (100050, w0 a6)])] }) (ps := [LoopP order_sorter_free_f2 (S5 2 43 [220, 230, 250, 100050] [(0, .p 250 [] 0), (1, vi a0), (10, vi ((a6.length : Nat) : Int)), (11, vi 0)] [(220, m0 a1 a2), (230, m0 a3 a4), (250, .cell false (.ag [.v 100050 a6.length, v0 a5, .m 220, .m 230, .nils])), (100050, w0 a6)]) (.exit 0) (S5 2 43 [220, 230, 250, 100050] [(0, .p 250 [] 0), (1, vi a0), (10, vi ((a6.length : Nat) : Int)), (11, vi z2), (12, vb false)] [(220, m0 a1 a2), (230, m0 a3 a4), (250, .cell false (.ag [.v 100050 a6.length, v0 a5, .m 220, .m 230, .nils])), (100050, w0 a6)])]) (by kernel_rfl) (Ac (order_sorter_free_l2_ok c3) An) l
theorem order_sorter_free_p1 {N : Nat} {a0 : Int} {a1 : Nat} {a2 : List (Int × Bool × Nat)} {a3 : Nat} {a4 : List (Int × Bool × Nat)} {a5 : List T_api_Op} {a6 : List T_api_Op} {z2 : Unit} (c3 : order_sorter_free_l2 a0 a1 a2 a3 a4 a5 a6 N 0 = some (.inr z2)) (l : Nat) : Vd Try.prog l (.fn (.func 21) [.p 250 [] 0] []) [vi a0] [(220, m0 a1 a2), (230, m0 a3 a4), (250, .cell false (.ag [.v 100050 a6.length, v0 a5, .m 220, .m 230, .nils])), (100050, w0 a6)] (vb false) [(220, m0 a1 a2), (230, m0 a3 a4), (250, .cell false (.ag [.v 100050 a6.length, v0 a5, .m 220, .m 230, .nils])), (100050, w0 a6)] :=
  Try_vf21 (hn := order_sorter_free_hn) (lvl := 1) (O := { lo := [(2, .ret, S5 2 43 [220, 230, 250, 100050] [(4, vb false)] [(220, m0 a1 a2), (230, m0 a3 a4), (250, .cell false (.ag [.v 100050 a6.length, v0 a5, .m 220, .m 230, .nils])), (100050, w0 a6)])] }) (ps := [LoopP order_sorter_free_f2 (S5 2 43 [220, 230, 250, 100050] [(0, .p 250 [] 0), (1, vi a0), (10, vi ((a6.length : Nat) : Int)), (11, vi 0)] [(220, m0 a1 a2), (230, m0 a3 a4), (250, .cell false (.ag [.v 100050 a6.length, v0 a5, .m 220, .m 230, .nils])), (100050, w0 a6)]) (.ret) (S5 2 43 [220, 230, 250, 100050] [(4, vb false)] [(220, m0 a1 a2), (230, m0 a3 a4), (250, .cell false (.ag [.v 100050 a6.length, v0 a5, .m 220, .m 230, .nils])), (100050, w0 a6)])]) (by kernel_rfl) (Ac (order_sorter_free_l2_ok c3) An) l
theorem order_sorter_free_valid {N : Nat} {a0 : Int} {a1 : Nat} {a2 : List (Int × Bool × Nat)} {a3 : Nat} {a4 : List (Int × Bool × Nat)} {a5 : List T_api_Op} {a6 : List T_api_Op} {z : Bool} (h : order_sorter_free N a0 a1 a2 a3 a4 a5 a6 = some z) (l : Nat) : Vd Try.prog l (.fn (.func 21) [.p 250 [] 0] []) [vi a0] [(220, m0 a1 a2), (230, m0 a3 a4), (250, .cell false (.ag [.v 100050 a6.length, v0 a5, .m 220, .m 230, .nils])), (100050, w0 a6)] (vb z) [(220, m0 a1 a2), (230, m0 a3 a4), (250, .cell false (.ag [.v 100050 a6.length, v0 a5, .m 220, .m 230, .nils])), (100050, w0 a6)] := by
  unfold order_sorter_free at h
  obtain ⟨z1, c3, h⟩ := bind_some h
  rcases z1 with z2 | z2 <;> dsimp only at h
  · obtain rfl := Option.some.inj h
    exact order_sorter_free_p0 c3 l
  · obtain rfl := Option.some.inj h
    exact order_sorter_free_p1 c3 l
def order_sorter_first_hn : Hint where
  live := fun _ r => match r with
    | 0 => [0, 1]
    | 1 => [0, 1, 11, 12]
    | 2 => [0, 1, 11, 12, 13]
    | 3 => [0, 1, 6, 11, 12]
    | 4 => [0, 1, 6, 11, 12, 25]
    | 5 => [4, 5]
    | 6 => [0, 1, 11, 12]
    | 7 => [4, 5]
    | _ => []
  esc := fun _ => false
  raw := fun k => false
  fresh := fun _ d => false
  vecs := fun _ d => false
noncomputable def order_sorter_first_f2 := codeO Try.prog order_sorter_first_hn (Valid Try.prog) 20 Try_c20_2
def order_sorter_first_l2_e : Int ⊕ Int → Ex
  | .inl _ => .exit 0
  | .inr _ => .ret
def order_sorter_first_l2_s (a0 : Nat) (a1 : List (Int × Bool × Nat)) (a2 : Nat) (a3 : List (Int × Bool × Nat)) (a4 : List T_api_Op) (a5 : List T_api_Op) : Int ⊕ Int → St
  | .inl z => S5 1 28 [220, 230, 250, 100050] [(0, .p 250 [] 0), (1, .fn (.func 21) [.p 250 [] 0] []), (11, vi ((a5.length : Nat) : Int)), (12, vi z), (13, vb false)] [(220, m0 a0 a1), (230, m0 a2 a3), (250, .cell false (.ag [.v 100050 a5.length, v0 a4, .m 220, .m 230, .nils])), (100050, w0 a5)]
  | .inr z => S5 1 28 [220, 230, 250, 100050] [(4, vi z), (5, vb true)] [(220, m0 a0 a1), (230, m0 a2 a3), (250, .cell false (.ag [.v 100050 a5.length, v0 a4, .m 220, .m 230, .nils])), (100050, w0 a5)]
def order_sorter_first_l2_h (a0 : Nat) (a1 : List (Int × Bool × Nat)) (a2 : Nat) (a3 : List (Int × Bool × Nat)) (a4 : List T_api_Op) (a5 : List T_api_Op) (s12_2 : Int) : St := S5 1 28 [220, 230, 250, 100050] [(0, .p 250 [] 0), (1, .fn (.func 21) [.p 250 [] 0] []), (11, vi ((a5.length : Nat) : Int)), (12, vi s12_2)] [(220, m0 a0 a1), (230, m0 a2 a3), (250, .cell false (.ag [.v 100050 a5.length, v0 a4, .m 220, .m 230, .nils])), (100050, w0 a5)]
def order_sorter_first_l2_f (a0 : Nat) (a1 : List (Int × Bool × Nat)) (a2 : Nat) (a3 : List (Int × Bool × Nat)) (a4 : List T_api_Op) (a5 : List T_api_Op) (N : Nat) (ih : Int → Option (Int ⊕ Int)) (s12_2 : Int) : Option (Int ⊕ Int) :=
    cond (decide (s12_2 < ((a5.length : Nat) : Int))) (
      optcase (findM s12_2 a1) (
        chk (in64 (s12_2 + 1)) <|
        ih (s12_2 + 1)) fun e3 =>
        cond (e3.1) (
          (order_sorter_free N s12_2 a0 a1 a2 a3 a4 a5).bind fun r5 =>
          cond (r5) (
            some (.inr s12_2)) (
            chk (in64 (s12_2 + 1)) <|
            ih (s12_2 + 1))) (
          chk (in64 (s12_2 + 1)) <|
          ih (s12_2 + 1))) (
      some (.inl s12_2))
def order_sorter_first_l2 (a0 : Nat) (a1 : List (Int × Bool × Nat)) (a2 : Nat) (a3 : List (Int × Bool × Nat)) (a4 : List T_api_Op) (a5 : List T_api_Op) : Nat → Int → Option (Int ⊕ Int)
  | 0 => fun _ => none
  | N + 1 => order_sorter_first_l2_f a0 a1 a2 a3 a4 a5 N (order_sorter_first_l2 a0 a1 a2 a3 a4 a5 N)
theorem order_sorter_first_l2_p0 {a0 : Nat} {a1 : List (Int × Bool × Nat)} {a2 : Nat} {a3 : List (Int × Bool × Nat)} {a4 : List T_api_Op} {a5 : List T_api_Op} {s12_2 : Int} (c1 : (decide (s12_2 < ((a5.length : Nat) : Int))) = true) (c2 : findM s12_2 a1 = none) (c3 : in64 (s12_2 + 1)) : Step order_sorter_first_f2 (order_sorter_first_l2_h a0 a1 a2 a3 a4 a5 s12_2) (.normal) (S5 1 28 [220, 230, 250, 100050] [(0, .p 250 [] 0), (1, .fn (.func 21) [.p 250 [] 0] []), (11, vi ((a5.length : Nat) : Int)), (12, vi (s12_2 + 1))] [(220, m0 a0 a1), (230, m0 a2 a3), (250, .cell false (.ag [.v 100050 a5.length, v0 a4, .m 220, .m 230, .nils])), (100050, w0 a5)]) :=
  ⟨{ an := [(4005, .found none)], nv := [(2000, vb true), (6000, vi (s12_2 + 1))] }, [EB (decide (s12_2 < ((a5.length : Nat) : Int))) true, mapFind (.i .i64 s12_2) (encM (PV.i .i64) (fun x => AV.pv (.b x)) a1) = some none, EW (s12_2 + 1)], by kernel_rfl, (Ac (nv_b c1) (Ac (findM_none (fv := (fun x => AV.pv (.b x))) key_i64 c2) (Ac (nv_wrap c3) An)))⟩
theorem order_sorter_first_l2_p1 {N : Nat} {a0 : Nat} {a1 : List (Int × Bool × Nat)} {a2 : Nat} {a3 : List (Int × Bool × Nat)} {a4 : List T_api_Op} {a5 : List T_api_Op} {s12_2 : Int} {e3 : Bool × Nat} {r5 : Bool} (c1 : (decide (s12_2 < ((a5.length : Nat) : Int))) = true) (c2 : findM s12_2 a1 = some e3) (c4 : e3.1 = true) (c6 : order_sorter_free N s12_2 a0 a1 a2 a3 a4 a5 = some r5) (c7 : r5 = true) : Step order_sorter_first_f2 (order_sorter_first_l2_h a0 a1 a2 a3 a4 a5 s12_2) (.ret) (S5 1 28 [220, 230, 250, 100050] [(4, vi s12_2), (5, vb true)] [(220, m0 a0 a1), (230, m0 a2 a3), (250, .cell false (.ag [.v 100050 a5.length, v0 a4, .m 220, .m 230, .nils])), (100050, w0 a5)]) :=
  ⟨{ an := [(4005, .found (some (vb e3.1, e3.2))), (4009, .call (.ret (vb r5)) [(220, m0 a0 a1), (230, m0 a2 a3), (250, .cell false (.ag [.v 100050 a5.length, v0 a4, .m 220, .m 230, .nils])), (100050, w0 a5)])], nv := [(2000, vb true), (4005, vb true), (4009, vb true)] }, [EB (decide (s12_2 < ((a5.length : Nat) : Int))) true, mapFind (.i .i64 s12_2) (encM (PV.i .i64) (fun x => AV.pv (.b x)) a1) = some (some (vb e3.1, e3.2)), EB e3.1 true, Vd Try.prog 1 (.fn (.func 21) [.p 250 [] 0] []) [vi s12_2] [(220, m0 a0 a1), (230, m0 a2 a3), (250, .cell false (.ag [.v 100050 a5.length, v0 a4, .m 220, .m 230, .nils])), (100050, w0 a5)] (vb r5) [(220, m0 a0 a1), (230, m0 a2 a3), (250, .cell false (.ag [.v 100050 a5.length, v0 a4, .m 220, .m 230, .nils])), (100050, w0 a5)], EB r5 true], by kernel_rfl, (Ac (nv_b c1) (Ac (findM_some (fv := (fun x => AV.pv (.b x))) key_i64 c2) (Ac (nv_b c4) (Ac (order_sorter_free_valid c6 _) (Ac (nv_b c7) An)))))⟩
theorem order_sorter_first_l2_p2 {N : Nat} {a0 : Nat} {a1 : List (Int × Bool × Nat)} {a2 : Nat} {a3 : List (Int × Bool × Nat)} {a4 : List T_api_Op} {a5 : List T_api_Op} {s12_2 : Int} {e3 : Bool × Nat} {r5 : Bool} (c1 : (decide (s12_2 < ((a5.length : Nat) : Int))) = true) (c2 : findM s12_2 a1 = some e3) (c4 : e3.1 = true) (c6 : order_sorter_free N s12_2 a0 a1 a2 a3 a4 a5 = some r5) (c7 : r5 = false) (c8 : in64 (s12_2 + 1)) : Step order_sorter_first_f2 (order_sorter_first_l2_h a0 a1 a2 a3 a4 a5 s12_2) (.normal) (S5 1 28 [220, 230, 250, 100050] [(0, .p 250 [] 0), (1, .fn (.func 21) [.p 250 [] 0] []), (11, vi ((a5.length : Nat) : Int)), (12, vi (s12_2 + 1))] [(220, m0 a0 a1), (230, m0 a2 a3), (250, .cell false (.ag [.v 100050 a5.length, v0 a4, .m 220, .m 230, .nils])), (100050, w0 a5)]) :=
  ⟨{ an := [(4005, .found (some (vb e3.1, e3.2))), (4009, .call (.ret (vb r5)) [(220, m0 a0 a1), (230, m0 a2 a3), (250, .cell false (.ag [.v 100050 a5.length, v0 a4, .m 220, .m 230, .nils])), (100050, w0 a5)])], nv := [(2000, vb true), (4005, vb true), (4009, vb false), (6000, vi (s12_2 + 1))] }, [EB (decide (s12_2 < ((a5.length : Nat) : Int))) true, mapFind (.i .i64 s12_2) (encM (PV.i .i64) (fun x => AV.pv (.b x)) a1) = some (some (vb e3.1, e3.2)), EB e3.1 true, Vd Try.prog 1 (.fn (.func 21) [.p 250 [] 0] []) [vi s12_2] [(220, m0 a0 a1), (230, m0 a2 a3), (250, .cell false (.ag [.v 100050 a5.length, v0 a4, .m 220, .m 230, .nils])), (100050, w0 a5)] (vb r5) [(220, m0 a0 a1), (230, m0 a2 a3), (250, .cell false (.ag [.v 100050 a5.length, v0 a4, .m 220, .m 230, .nils])), (100050, w0 a5)], EB r5 false, EW (s12_2 + 1)], by kernel_rfl, (Ac (nv_b c1) (Ac (findM_some (fv := (fun x => AV.pv (.b x))) key_i64 c2) (Ac (nv_b c4) (Ac (order_sorter_free_valid c6 _) (Ac (nv_b c7) (Ac (nv_wrap c8) An))))))⟩
theorem order_sorter_first_l2_p3 {a0 : Nat} {a1 : List (Int × Bool × Nat)} {a2 : Nat} {a3 : List (Int × Bool × Nat)} {a4 : List T_api_Op} {a5 : List T_api_Op} {s12_2 : Int} {e3 : Bool × Nat} (c1 : (decide (s12_2 < ((a5.length : Nat) : Int))) = true) (c2 : findM s12_2 a1 = some e3) (c4 : e3.1 = false) (c5 : in64 (s12_2 + 1)) : Step order_sorter_first_f2 (order_sorter_first_l2_h a0 a1 a2 a3 a4 a5 s12_2) (.normal) (S5 1 28 [220, 230, 250, 100050] [(0, .p 250 [] 0), (1, .fn (.func 21) [.p 250 [] 0] []), (11, vi ((a5.length : Nat) : Int)), (12, vi (s12_2 + 1))] [(220, m0 a0 a1), (230, m0 a2 a3), (250, .cell false (.ag [.v 100050 a5.length, v0 a4, .m 220, .m 230, .nils])), (100050, w0 a5)]) :=
  ⟨{ an := [(4005, .found (some (vb e3.1, e3.2)))], nv := [(2000, vb true), (4005, vb false), (6000, vi (s12_2 + 1))] }, [EB (decide (s12_2 < ((a5.length : Nat) : Int))) true, mapFind (.i .i64 s12_2) (encM (PV.i .i64) (fun x => AV.pv (.b x)) a1) = some (some (vb e3.1, e3.2)), EB e3.1 false, EW (s12_2 + 1)], by kernel_rfl, (Ac (nv_b c1) (Ac (findM_some (fv := (fun x => AV.pv (.b x))) key_i64 c2) (Ac (nv_b c4) (Ac (nv_wrap c5) An))))⟩
theorem order_sorter_first_l2_p4 {a0 : Nat} {a1 : List (Int × Bool × Nat)} {a2 : Nat} {a3 : List (Int × Bool × Nat)} {a4 : List T_api_Op} {a5 : List T_api_Op} {s12_2 : Int} (c1 : (decide (s12_2 < ((a5.length : Nat) : Int))) = false) : Step order_sorter_first_f2 (order_sorter_first_l2_h a0 a1 a2 a3 a4 a5 s12_2) (.exit 0) (S5 1 28 [220, 230, 250, 100050] [(0, .p 250 [] 0), (1, .fn (.func 21) [.p 250 [] 0] []), (11, vi ((a5.length : Nat) : Int)), (12, vi s12_2), (13, vb false)] [(220, m0 a0 a1), (230, m0 a2 a3), (250, .cell false (.ag [.v 100050 a5.length, v0 a4, .m 220, .m 230, .nils])), (100050, w0 a5)]) :=
  ⟨{ nv := [(2000, vb false)] }, [EB (decide (s12_2 < ((a5.length : Nat) : Int))) false], by kernel_rfl, (Ac (nv_b c1) An)⟩
theorem order_sorter_first_l2_ok {a0 : Nat} {a1 : List (Int × Bool × Nat)} {a2 : Nat} {a3 : List (Int × Bool × Nat)} {a4 : List T_api_Op} {a5 : List T_api_Op} : ∀ {N : Nat} {s12_2 : Int} {z : Int ⊕ Int}, order_sorter_first_l2 a0 a1 a2 a3 a4 a5 N s12_2 = some z → LoopP order_sorter_first_f2 (order_sorter_first_l2_h a0 a1 a2 a3 a4 a5 s12_2) (order_sorter_first_l2_e z) (order_sorter_first_l2_s a0 a1 a2 a3 a4 a5 z) := by
  intro N
  induction N with
  | zero => intro s12_2 z h; simp [order_sorter_first_l2] at h
  | succ N ih =>
    intro s12_2 z h
    change order_sorter_first_l2_f a0 a1 a2 a3 a4 a5 N (order_sorter_first_l2 a0 a1 a2 a3 a4 a5 N) s12_2 = some z at h
    unfold order_sorter_first_l2_f at h
    rcases cond_some h with ⟨c1, h⟩ | ⟨c1, h⟩
    · rcases optcase_some h with ⟨c2, h⟩ | ⟨e3, c2, h⟩
      · obtain ⟨c3, h⟩ := chk_some h
        exact Step.next (order_sorter_first_l2_p0 c1 c2 c3) (ih h)
      · rcases cond_some h with ⟨c4, h⟩ | ⟨c4, h⟩
        · obtain ⟨r5, c6, h⟩ := bind_some h
          rcases cond_some h with ⟨c7, h⟩ | ⟨c7, h⟩
          · obtain rfl := Option.some.inj h
            exact Step.ret (order_sorter_first_l2_p1 c1 c2 c4 c6 c7)
          · obtain ⟨c8, h⟩ := chk_some h
            exact Step.next (order_sorter_first_l2_p2 c1 c2 c4 c6 c7 c8) (ih h)
        · obtain ⟨c5, h⟩ := chk_some h
          exact Step.next (order_sorter_first_l2_p3 c1 c2 c4 c5) (ih h)
    · obtain rfl := Option.some.inj h
      exact Step.exit (order_sorter_first_l2_p4 c1)
def order_sorter_first (N : Nat) (a0 : Nat) (a1 : List (Int × Bool × Nat)) (a2 : Nat) (a3 : List (Int × Bool × Nat)) (a4 : List T_api_Op) (a5 : List T_api_Op) : Option (Int × Bool) :=
  (order_sorter_first_l2 a0 a1 a2 a3 a4 a5 N 0).bind fun z1 => match z1 with
  | .inl z2 =>
    some (0, false)
  | .inr z2 =>
    some (z2, true)
theorem order_sorter_first_p0 {N : Nat} {a0 : Nat} {a1 : List (Int × Bool × Nat)} {a2 : Nat} {a3 : List (Int × Bool × Nat)} {a4 : List T_api_Op} {a5 : List T_api_Op} {z2 : Int} (c3 : order_sorter_first_l2 a0 a1 a2 a3 a4 a5 N 0 = some (.inl z2)) (l : Nat) : Vd Try.prog l (.fn (.func 20) [] []) [.p 250 [] 0, .fn (.func 21) [.p 250 [] 0] []] [(220, m0 a0 a1), (230, m0 a2 a3), (250, .cell false (.ag [.v 100050 a5.length, v0 a4, .m 220, .m 230, .nils])), (100050, w0 a5)] (.tup [vi 0, vb false]) [(220, m0 a0 a1), (230, m0 a2 a3), (250, .cell false (.ag [.v 100050 a5.length, v0 a4, .m 220, .m 230, .nils])), (100050, w0 a5)] :=
  Try_vf20 (hn := order_sorter_first_hn) (lvl := 0) (O := { lo := [(2, .exit 0, S5 1 28 [220, 230, 250, 100050] [(0, .p 250 [] 0), (1, .fn (.func 21) [.p 250 [] 0] []), (11, vi ((a5.length : Nat) : Int)), (12, vi z2), (13, vb false)] [(220, m0 a0 a1), (230, m0 a2 a3), (250, .cell false (.ag [.v 100050 a5.length, v0 a4, .m 220, .m 230, .nils])), (100050, w0 a5)])] }) (ps := [LoopP order_sorter_first_f2 (S5 1 28 [220, 230, 250, 100050] [(0, .p 250 [] 0), (1, .fn (.func 21) [.p 250 [] 0] []), (11, vi ((a5.length : Nat) : Int)), (12, vi 0)] [(220, m0 a0 a1), (230, m0 a2 a3), (250, .cell false (.ag [.v 100050 a5.length, v0 a4, .m 220, .m 230, .nils])), (100050, w0 a5)]) (.exit 0) (S5 1 28 [220, 230, 250, 100050] [(0, .p 250 [] 0), (1, .fn (.func 21) [.p 250 [] 0] []), (11, vi ((a5.length : Nat) : Int)), (12, vi z2), (13, vb false)] [(220, m0 a0 a1), (230, m0 a2 a3), (250, .cell false (.ag [.v 100050 a5.length, v0 a4, .m 220, .m 230, .nils])), (100050, w0 a5)])]) (by kernel_rfl) (Ac (order_sorter_first_l2_ok c3) An) l
theorem order_sorter_first_p1 {N : Nat} {a0 : Nat} {a1 : List (Int × Bool × Nat)} {a2 : Nat} {a3 : List (Int × Bool × Nat)} {a4 : List T_api_Op} {a5 : List T_api_Op} {z2 : Int} (c3 : order_sorter_first_l2 a0 a1 a2 a3 a4 a5 N 0 = some (.inr z2)) (l : Nat) : Vd Try.prog l (.fn (.func 20) [] []) [.p 250 [] 0, .fn (.func 21) [.p 250 [] 0] []] [(220, m0 a0 a1), (230, m0 a2 a3), (250, .cell false (.ag [.v 100050 a5.length, v0 a4, .m 220, .m 230, .nils])), (100050, w0 a5)] (.tup [vi z2, vb true]) [(220, m0 a0 a1), (230, m0 a2 a3), (250, .cell false (.ag [.v 100050 a5.length, v0 a4, .m 220, .m 230, .nils])), (100050, w0 a5)] :=
  Try_vf20 (hn := order_sorter_first_hn) (lvl := 0) (O := { lo := [(2, .ret, S5 1 28 [220, 230, 250, 100050] [(4, vi z2), (5, vb true)] [(220, m0 a0 a1), (230, m0 a2 a3), (250, .cell false (.ag [.v 100050 a5.length, v0 a4, .m 220, .m 230, .nils])), (100050, w0 a5)])] }) (ps := [LoopP order_sorter_first_f2 (S5 1 28 [220, 230, 250, 100050] [(0, .p 250 [] 0), (1, .fn (.func 21) [.p 250 [] 0] []), (11, vi ((a5.length : Nat) : Int)), (12, vi 0)] [(220, m0 a0 a1), (230, m0 a2 a3), (250, .cell false (.ag [.v 100050 a5.length, v0 a4, .m 220, .m 230, .nils])), (100050, w0 a5)]) (.ret) (S5 1 28 [220, 230, 250, 100050] [(4, vi z2), (5, vb true)] [(220, m0 a0 a1), (230, m0 a2 a3), (250, .cell false (.ag [.v 100050 a5.length, v0 a4, .m 220, .m 230, .nils])), (100050, w0 a5)])]) (by kernel_rfl) (Ac (order_sorter_first_l2_ok c3) An) l
theorem order_sorter_first_valid {N : Nat} {a0 : Nat} {a1 : List (Int × Bool × Nat)} {a2 : Nat} {a3 : List (Int × Bool × Nat)} {a4 : List T_api_Op} {a5 : List T_api_Op} {z : Int × Bool} (h : order_sorter_first N a0 a1 a2 a3 a4 a5 = some z) (l : Nat) : Vd Try.prog l (.fn (.func 20) [] []) [.p 250 [] 0, .fn (.func 21) [.p 250 [] 0] []] [(220, m0 a0 a1), (230, m0 a2 a3), (250, .cell false (.ag [.v 100050 a5.length, v0 a4, .m 220, .m 230, .nils])), (100050, w0 a5)] (.tup [vi z.1, vb z.2]) [(220, m0 a0 a1), (230, m0 a2 a3), (250, .cell false (.ag [.v 100050 a5.length, v0 a4, .m 220, .m 230, .nils])), (100050, w0 a5)] := by
  unfold order_sorter_first at h
  obtain ⟨z1, c3, h⟩ := bind_some h
  rcases z1 with z2 | z2 <;> dsimp only at h
  · obtain rfl := Option.some.inj h
    exact order_sorter_first_p0 c3 l
  · obtain rfl := Option.some.inj h
    exact order_sorter_first_p1 c3 l
noncomputable def Try_b22 : Code := Try.f22.body.getD .skip
theorem Try_hb22 : Try.f22.body = some Try_b22 := by kernel_rfl
theorem Try_hf22 : Try.prog.funcs[22]? = some Try.f22 := by kernel_rfl
theorem Try_vf22 {hn : Hint} {lvl : Nat} {first cap args : List AV} {h h' : Ob} {O : Orc} {r : AV} {ps : List Prop} (hs : funO Try.prog hn (Valid Try.prog) 22 Try.f22 lvl (first ++ args ++ cap) h O = some ((.ret r, h'), ps)) (hp : All ps) (l : Nat) : Vd Try.prog l (.fn (.func 22) first cap) args h r h' :=
  valid_fun (draw_ok Try_draw) range_ok Try_hf22 Try_hb22 (by kernel_rfl) hs hp l
noncomputable def Try_b28 : Code := Try.f28.body.getD .skip
theorem Try_hb28 : Try.f28.body = some Try_b28 := by kernel_rfl
theorem Try_hf28 : Try.prog.funcs[28]? = some Try.f28 := by kernel_rfl
theorem Try_vf28 {hn : Hint} {lvl : Nat} {first cap args : List AV} {h h' : Ob} {O : Orc} {r : AV} {ps : List Prop} (hs : funO Try.prog hn (Valid Try.prog) 28 Try.f28 lvl (first ++ args ++ cap) h O = some ((.ret r, h'), ps)) (hp : All ps) (l : Nat) : Vd Try.prog l (.fn (.func 28) first cap) args h r h' :=
  valid_fun (draw_ok Try_draw) range_ok Try_hf28 Try_hb28 (by kernel_rfl) hs hp l
noncomputable def Try_b32 : Code := Try.f32.body.getD .skip
theorem Try_hb32 : Try.f32.body = some Try_b32 := by kernel_rfl
theorem Try_hf32 : Try.prog.funcs[32]? = some Try.f32 := by kernel_rfl
theorem Try_vf32 {hn : Hint} {lvl : Nat} {first cap args : List AV} {h h' : Ob} {O : Orc} {r : AV} {ps : List Prop} (hs : funO Try.prog hn (Valid Try.prog) 32 Try.f32 lvl (first ++ args ++ cap) h O = some ((.ret r, h'), ps)) (hp : All ps) (l : Nat) : Vd Try.prog l (.fn (.func 32) first cap) args h r h' :=
  valid_fun (draw_ok Try_draw) range_ok Try_hf32 Try_hb32 (by kernel_rfl) hs hp l
def slices_Clone_Piece_hn : Hint where
  live := fun _ r => match r with
    | 0 => [0]
    | 1 => [0, 4]
    | 2 => [2]
    | 3 => [2]
    | _ => []
  esc := fun _ => false
  raw := fun k => false
  fresh := fun _ d => false
  vecs := fun _ d => Nat.beq d 5
def slices_Clone_Piece (a0 : List T_api_Piece) : Option (Unit) :=
  chk (a0 ≠ []) <|
  chk (capOK (a0).length 40) <|
  some ()
theorem slices_Clone_Piece_p0 {a0 : List T_api_Piece} (c1 : a0 ≠ []) (c2 : capOK (a0).length 40) (l : Nat) : Vd Try.prog l (.fn (.func 32) [] []) [v3 a0] [] (v3 a0) [] :=
  Try_vf32 (hn := slices_Clone_Piece_hn) (lvl := 0) (O := { nv := [(3002, .v 50 a0.length)], no := [(3002, 50, w3 a0)] }) (ps := [(a0).map T_api_Piece.enc ≠ [], (p3 []).len = 0, (PV.l 4 (([]).map T_api_Piece.enc ++ (a0).map T_api_Piece.enc)).len * 40 ≤ 140737488355328, AObj.vec false 4 (.l 4 (([]).map T_api_Piece.enc ++ (a0).map T_api_Piece.enc)) = w3 a0, AV.v 50 (([]).map T_api_Piece.enc ++ (a0).map T_api_Piece.enc).length = AV.v 50 a0.length, (p3 a0).len = a0.length]) (by kernel_rfl) (Ac (map_ne c1) (Ac ((len_ok 4 T_api_Piece.enc []).trans (by simp)) (Ac (len_le2 c2) (Ac (ob_app _ _ _ _ _) (Ac (nv_app _ _ _ _) (Ac (len_ok _ _ _) An)))))) l
theorem slices_Clone_Piece_valid {a0 : List T_api_Piece} {z : Unit} (h : slices_Clone_Piece a0 = some z) (l : Nat) : Vd Try.prog l (.fn (.func 32) [] []) [v3 a0] [] (v3 a0) [] := by
  unfold slices_Clone_Piece at h
  obtain ⟨c1, h⟩ := chk_some h
  obtain ⟨c2, h⟩ := chk_some h
  obtain rfl := Option.some.inj h
  exact slices_Clone_Piece_p0 c1 c2 l
def slices_Clone_Piece_2_hn : Hint where
  live := fun _ r => match r with
    | 0 => [0]
    | 1 => [0, 4]
    | 2 => [2]
    | 3 => [2]
    | _ => []
  esc := fun _ => false
  raw := fun k => false
  fresh := fun _ d => false
  vecs := fun _ d => Nat.beq d 5
def slices_Clone_Piece_2  : Option (Unit) :=
  some ()
theorem slices_Clone_Piece_2_p0  (l : Nat) : Vd Try.prog l (.fn (.func 32) [] []) [.es 0] [] (v3 []) [] :=
  Try_vf32 (hn := slices_Clone_Piece_2_hn) (lvl := 0) (O := {}) (ps := [(p3 []).len = 0, (p3 []).len = 0]) (by kernel_rfl) (Ac ((len_ok 4 T_api_Piece.enc []).trans (by simp)) (Ac ((len_ok 4 T_api_Piece.enc []).trans (by simp)) An)) l
theorem slices_Clone_Piece_2_valid  {z : Unit} (h : slices_Clone_Piece_2  = some z) (l : Nat) : Vd Try.prog l (.fn (.func 32) [] []) [.es 0] [] (v3 []) [] := by
  unfold slices_Clone_Piece_2 at h
  obtain rfl := Option.some.inj h
  exact slices_Clone_Piece_2_p0  l
def slices_Clone_Piece_3_hn : Hint where
  live := fun _ r => match r with
    | 0 => [0]
    | 1 => [0, 4]
    | 2 => [2]
    | 3 => [2]
    | _ => []
  esc := fun _ => false
  raw := fun k => false
  fresh := fun _ d => false
  vecs := fun _ d => Nat.beq d 5
def slices_Clone_Piece_3  : Option (Unit) :=
  some ()
theorem slices_Clone_Piece_3_p0  (l : Nat) : Vd Try.prog l (.fn (.func 32) [] []) [.es 1] [] (v3 []) [] :=
  Try_vf32 (hn := slices_Clone_Piece_3_hn) (lvl := 0) (O := {}) (ps := []) (by kernel_rfl) An l
theorem slices_Clone_Piece_3_valid  {z : Unit} (h : slices_Clone_Piece_3  = some z) (l : Nat) : Vd Try.prog l (.fn (.func 32) [] []) [.es 1] [] (v3 []) [] := by
  unfold slices_Clone_Piece_3 at h
  obtain rfl := Option.some.inj h
  exact slices_Clone_Piece_3_p0  l
def slices_Clone_PieceW (a0 : List T_api_Piece) : Option (Unit) :=
  cond a0.isEmpty (
    (slices_Clone_Piece_2 ).bind fun z0 => (slices_Clone_Piece_3 ).bind fun z1 => chk (() = ()) (some ())) (
    slices_Clone_Piece a0)
theorem slices_Clone_PieceW_valid {a0 : List T_api_Piece} {z : Unit} (h : slices_Clone_PieceW a0 = some z) (l : Nat) : Vd Try.prog l (.fn (.func 32) [] []) [v3 a0] [] (v3 a0) [] := by
  unfold slices_Clone_PieceW at h
  rcases cond_some h with ⟨e, h2⟩ | ⟨_, h2⟩ <;> clear h
  · have e := List.isEmpty_iff.1 e
    subst e
    obtain ⟨z0, c0, h2⟩ := bind_some h2
    obtain ⟨z1, c1, h2⟩ := bind_some h2
    obtain ⟨hE, h2⟩ := chk_some h2
    obtain rfl := Option.some.inj h2
    refine Valid.maybe (.inr ⟨_, rfl⟩) [] [] ?_ ?_
    · exact slices_Clone_Piece_2_valid c0 l
    · first | exact slices_Clone_Piece_3_valid c1 l | (rw [hE]; exact slices_Clone_Piece_3_valid c1 l)
  · exact slices_Clone_Piece_valid h2 l
def order_own_hn : Hint where
  live := fun _ r => match r with
    | 0 => [1, 2]
    | 1 => [1, 2]
    | 2 => [2]
    | _ => []
  esc := fun _ => false
  raw := fun k => false
  fresh := fun _ d => false
  vecs := fun _ d => false
def order_own (a0 : T_api_Op) : Option (Unit) :=
  (slices_Clone_PieceW a0.P).bind fun r1 =>
  some ()
theorem order_own_p0 {a0 : T_api_Op} {r1 : Unit} (c2 : slices_Clone_PieceW a0.P = some r1) (l : Nat) : Vd Try.prog l (.fn (.func 28) [] []) [v1 a0] [] (v1 a0) [] :=
  Try_vf28 (hn := order_own_hn) (lvl := 0) (O := { an := [(1002, .call (.ret (v3 a0.P)) [])] }) (ps := [Vd Try.prog 0 (.fn (.func 32) [] []) [v3 a0.P] [] (v3 a0.P) []]) (by kernel_rfl) (Ac (slices_Clone_PieceW_valid c2 _) An) l
theorem order_own_valid {a0 : T_api_Op} {z : Unit} (h : order_own a0 = some z) (l : Nat) : Vd Try.prog l (.fn (.func 28) [] []) [v1 a0] [] (v1 a0) [] := by
  unfold order_own at h
  obtain ⟨r1, c2, h⟩ := bind_some h
  obtain rfl := Option.some.inj h
  exact order_own_p0 c2 l
def order_sorter_next_hn : Hint where
  live := fun _ r => match r with
    | 0 => [0, 1]
    | _ => []
  esc := fun _ => false
  raw := fun k => false
  fresh := fun _ d => false
  vecs := fun _ d => false
def order_sorter_next (a0 : Int) (a1 : Nat) (a2 : List (Int × Bool × Nat)) (a3 : Nat) (a4 : List (Int × Bool × Nat)) (a5 : List T_api_Op) (a6 : List T_api_Op) : Option (List T_api_Op) :=
  chk (0 ≤ a0 ∧ a0 < ((a6.length : Nat) : Int)) <|
  (getI a6 a0).bind fun e2 =>
  (order_own e2).bind fun r4 =>
  some [e2]
theorem order_sorter_next_p0 {a0 : Int} {a1 : Nat} {a2 : List (Int × Bool × Nat)} {a3 : Nat} {a4 : List (Int × Bool × Nat)} {a5 : List T_api_Op} {a6 : List T_api_Op} {e2 : T_api_Op} {r4 : Unit} (c1 : 0 ≤ a0 ∧ a0 < ((a6.length : Nat) : Int)) (c3 : getI a6 a0 = some e2) (c5 : order_own e2 = some r4) (l : Nat) : Vd Try.prog l (.fn (.func 22) [] []) [.p 250 [] 0, vi a0] [(220, m0 a1 a2), (230, m0 a3 a4), (250, .cell false (.ag [.v 100050 a6.length, v0 a5, .m 220, .m 230, .nils])), (100050, w0 a6)] (.tup []) [(220, m0 a1 (delM a0 a2)), (230, m0 a3 a4), (250, .cell false (.ag [.v 100050 a6.length, v0 a5, .m 220, .m 230, .v 100180 1])), (100050, w0 a6), (100180, w0 [e2])] :=
  Try_vf22 (hn := order_sorter_next_hn) (lvl := 0) (O := { an := [(11, .pv (p1 e2)), (12, .call (.ret (v1 e2)) []), (1005, .ents 0 (encM (PV.i .i64) (fun x => AV.pv (.b x)) (delM a0 a2)))] }) (ps := [0 ≤ a0 ∧ a0 < ((a6.length : Nat) : Int), EG (p0 a6) ((a0.toNat : Nat) : Int) (p1 e2), a0.toNat * 71 = a0.toNat * 71 + 0, (p0 a6).len = a6.length, Vd Try.prog 1 (.fn (.func 28) [] []) [v1 e2] [] (v1 e2) [], (p0 [e2]).len * 144 ≤ 140737488355328, (p0 [e2]).len ≠ 0, mapDel (.i .i64 a0) (encM (PV.i .i64) (fun x => AV.pv (.b x)) a2) = some (encM (PV.i .i64) (fun x => AV.pv (.b x)) (delM a0 a2))]) (by kernel_rfl) (Ac c1 (Ac (getI_okN c3 71 T_api_Op.enc) (Ac rfl (Ac (len_ok _ _ _) (Ac (order_own_valid c5 _) (Ac (Nat.le_of_ble_eq_true rfl) (Ac (Nat.succ_ne_zero _) (Ac (delM_ok (fv := (fun x => AV.pv (.b x))) key_i64 _ _) An)))))))) l
theorem order_sorter_next_valid {a0 : Int} {a1 : Nat} {a2 : List (Int × Bool × Nat)} {a3 : Nat} {a4 : List (Int × Bool × Nat)} {a5 : List T_api_Op} {a6 : List T_api_Op} {z : List T_api_Op} (h : order_sorter_next a0 a1 a2 a3 a4 a5 a6 = some z) (l : Nat) : Vd Try.prog l (.fn (.func 22) [] []) [.p 250 [] 0, vi a0] [(220, m0 a1 a2), (230, m0 a3 a4), (250, .cell false (.ag [.v 100050 a6.length, v0 a5, .m 220, .m 230, .nils])), (100050, w0 a6)] (.tup []) [(220, m0 a1 (delM a0 a2)), (230, m0 a3 a4), (250, .cell false (.ag [.v 100050 a6.length, v0 a5, .m 220, .m 230, .v 100180 z.length])), (100050, w0 a6), (100180, w0 z)] := by
  unfold order_sorter_next at h
  obtain ⟨c1, h⟩ := chk_some h
  obtain ⟨e2, c3, h⟩ := bind_some h
  obtain ⟨r4, c5, h⟩ := bind_some h
  obtain rfl := Option.some.inj h
  exact order_sorter_next_p0 c1 c3 c5 l
noncomputable def Try_b23 : Code := Try.f23.body.getD .skip
theorem Try_hb23 : Try.f23.body = some Try_b23 := by kernel_rfl
theorem Try_hf23 : Try.prog.funcs[23]? = some Try.f23 := by kernel_rfl
theorem Try_vf23 {hn : Hint} {lvl : Nat} {first cap args : List AV} {h h' : Ob} {O : Orc} {r : AV} {ps : List Prop} (hs : funO Try.prog hn (Valid Try.prog) 23 Try.f23 lvl (first ++ args ++ cap) h O = some ((.ret r, h'), ps)) (hp : All ps) (l : Nat) : Vd Try.prog l (.fn (.func 23) first cap) args h r h' :=
  valid_fun (draw_ok Try_draw) range_ok Try_hf23 Try_hb23 (by kernel_rfl) hs hp l
def order_sorter_reads_hn : Hint where
  live := fun _ r => match r with
    | 0 => [0, 1]
    | 1 => [0, 1, 6]
    | 2 => [4]
    | _ => []
  esc := fun _ => false
  raw := fun k => false
  fresh := fun _ d => false
  vecs := fun _ d => false
def order_sorter_reads (a0 : Int) (a1 : Nat) (a2 : List (Int × Bool × Nat)) (a3 : Nat) (a4 : List (Int × Bool × Nat)) (a5 : List T_api_Op) (a6 : List T_api_Op) : Option (Bool) :=
  chk (0 ≤ a0 ∧ a0 < ((a6.length : Nat) : Int)) <|
  (getI a6 a0).bind fun e2 =>
  (order_read e2).bind fun r4 =>
  cond (r4.2) (
    optcase (findM a0 a4) (
      some true) fun e8 =>
      some !e8.1) (
    some false)
theorem order_sorter_reads_p0 {a0 : Int} {a1 : Nat} {a2 : List (Int × Bool × Nat)} {a3 : Nat} {a4 : List (Int × Bool × Nat)} {a5 : List T_api_Op} {a6 : List T_api_Op} {e2 : T_api_Op} {r4 : T_order_place × Bool} (c1 : 0 ≤ a0 ∧ a0 < ((a6.length : Nat) : Int)) (c3 : getI a6 a0 = some e2) (c5 : order_read e2 = some r4) (c6 : r4.2 = true) (c7 : findM a0 a4 = none) (l : Nat) : Vd Try.prog l (.fn (.func 23) [.p 250 [] 0] []) [vi a0] [(220, m0 a1 a2), (230, m0 a3 a4), (250, .cell false (.ag [.v 100050 a6.length, v0 a5, .m 220, .m 230, .nils])), (100050, w0 a6)] (vb true) [(220, m0 a1 a2), (230, m0 a3 a4), (250, .cell false (.ag [.v 100050 a6.length, v0 a5, .m 220, .m 230, .nils])), (100050, w0 a6)] :=
  Try_vf23 (hn := order_sorter_reads_hn) (lvl := 1) (O := { an := [(1006, .pv (p1 e2)), (1007, .call (.ret (.tup [v2 r4.1, vb r4.2])) []), (2007, .found none)], nv := [(1010, vb true)] }) (ps := [0 ≤ a0 ∧ a0 < ((a6.length : Nat) : Int), EG (p0 a6) ((a0.toNat : Nat) : Int) (p1 e2), a0.toNat * 71 = a0.toNat * 71 + 0, (p0 a6).len = a6.length, Vd Try.prog 2 (.fn (.func 29) [] []) [v1 e2] [] (.tup [v2 r4.1, vb r4.2]) [], EB r4.2 true, mapFind (.i .i64 a0) (encM (PV.i .i64) (fun x => AV.pv (.b x)) a4) = some none]) (by kernel_rfl) (Ac c1 (Ac (getI_okN c3 71 T_api_Op.enc) (Ac rfl (Ac (len_ok _ _ _) (Ac (order_read_valid c5 _) (Ac (nv_b c6) (Ac (findM_none (fv := (fun x => AV.pv (.b x))) key_i64 c7) An))))))) l
theorem order_sorter_reads_p1 {a0 : Int} {a1 : Nat} {a2 : List (Int × Bool × Nat)} {a3 : Nat} {a4 : List (Int × Bool × Nat)} {a5 : List T_api_Op} {a6 : List T_api_Op} {e2 : T_api_Op} {r4 : T_order_place × Bool} {e8 : Bool × Nat} (c1 : 0 ≤ a0 ∧ a0 < ((a6.length : Nat) : Int)) (c3 : getI a6 a0 = some e2) (c5 : order_read e2 = some r4) (c6 : r4.2 = true) (c7 : findM a0 a4 = some e8) (l : Nat) : Vd Try.prog l (.fn (.func 23) [.p 250 [] 0] []) [vi a0] [(220, m0 a1 a2), (230, m0 a3 a4), (250, .cell false (.ag [.v 100050 a6.length, v0 a5, .m 220, .m 230, .nils])), (100050, w0 a6)] (vb (!e8.1)) [(220, m0 a1 a2), (230, m0 a3 a4), (250, .cell false (.ag [.v 100050 a6.length, v0 a5, .m 220, .m 230, .nils])), (100050, w0 a6)] :=
  Try_vf23 (hn := order_sorter_reads_hn) (lvl := 1) (O := { an := [(1006, .pv (p1 e2)), (1007, .call (.ret (.tup [v2 r4.1, vb r4.2])) []), (2007, .found (some (vb e8.1, e8.2)))], nv := [(1010, vb true)] }) (ps := [0 ≤ a0 ∧ a0 < ((a6.length : Nat) : Int), EG (p0 a6) ((a0.toNat : Nat) : Int) (p1 e2), a0.toNat * 71 = a0.toNat * 71 + 0, (p0 a6).len = a6.length, Vd Try.prog 2 (.fn (.func 29) [] []) [v1 e2] [] (.tup [v2 r4.1, vb r4.2]) [], EB r4.2 true, mapFind (.i .i64 a0) (encM (PV.i .i64) (fun x => AV.pv (.b x)) a4) = some (some (vb e8.1, e8.2))]) (by kernel_rfl) (Ac c1 (Ac (getI_okN c3 71 T_api_Op.enc) (Ac rfl (Ac (len_ok _ _ _) (Ac (order_read_valid c5 _) (Ac (nv_b c6) (Ac (findM_some (fv := (fun x => AV.pv (.b x))) key_i64 c7) An))))))) l
theorem order_sorter_reads_p2 {a0 : Int} {a1 : Nat} {a2 : List (Int × Bool × Nat)} {a3 : Nat} {a4 : List (Int × Bool × Nat)} {a5 : List T_api_Op} {a6 : List T_api_Op} {e2 : T_api_Op} {r4 : T_order_place × Bool} (c1 : 0 ≤ a0 ∧ a0 < ((a6.length : Nat) : Int)) (c3 : getI a6 a0 = some e2) (c5 : order_read e2 = some r4) (c6 : r4.2 = false) (l : Nat) : Vd Try.prog l (.fn (.func 23) [.p 250 [] 0] []) [vi a0] [(220, m0 a1 a2), (230, m0 a3 a4), (250, .cell false (.ag [.v 100050 a6.length, v0 a5, .m 220, .m 230, .nils])), (100050, w0 a6)] (vb false) [(220, m0 a1 a2), (230, m0 a3 a4), (250, .cell false (.ag [.v 100050 a6.length, v0 a5, .m 220, .m 230, .nils])), (100050, w0 a6)] :=
  Try_vf23 (hn := order_sorter_reads_hn) (lvl := 1) (O := { an := [(1006, .pv (p1 e2)), (1007, .call (.ret (.tup [v2 r4.1, vb r4.2])) [])], nv := [(1010, vb false)] }) (ps := [0 ≤ a0 ∧ a0 < ((a6.length : Nat) : Int), EG (p0 a6) ((a0.toNat : Nat) : Int) (p1 e2), a0.toNat * 71 = a0.toNat * 71 + 0, (p0 a6).len = a6.length, Vd Try.prog 2 (.fn (.func 29) [] []) [v1 e2] [] (.tup [v2 r4.1, vb r4.2]) [], EB r4.2 false]) (by kernel_rfl) (Ac c1 (Ac (getI_okN c3 71 T_api_Op.enc) (Ac rfl (Ac (len_ok _ _ _) (Ac (order_read_valid c5 _) (Ac (nv_b c6) An)))))) l
theorem order_sorter_reads_valid {a0 : Int} {a1 : Nat} {a2 : List (Int × Bool × Nat)} {a3 : Nat} {a4 : List (Int × Bool × Nat)} {a5 : List T_api_Op} {a6 : List T_api_Op} {z : Bool} (h : order_sorter_reads a0 a1 a2 a3 a4 a5 a6 = some z) (l : Nat) : Vd Try.prog l (.fn (.func 23) [.p 250 [] 0] []) [vi a0] [(220, m0 a1 a2), (230, m0 a3 a4), (250, .cell false (.ag [.v 100050 a6.length, v0 a5, .m 220, .m 230, .nils])), (100050, w0 a6)] (vb z) [(220, m0 a1 a2), (230, m0 a3 a4), (250, .cell false (.ag [.v 100050 a6.length, v0 a5, .m 220, .m 230, .nils])), (100050, w0 a6)] := by
  unfold order_sorter_reads at h
  obtain ⟨c1, h⟩ := chk_some h
  obtain ⟨e2, c3, h⟩ := bind_some h
  obtain ⟨r4, c5, h⟩ := bind_some h
  rcases cond_some h with ⟨c6, h⟩ | ⟨c6, h⟩
  · rcases optcase_some h with ⟨c7, h⟩ | ⟨e8, c7, h⟩
    · obtain rfl := Option.some.inj h
      exact order_sorter_reads_p0 c1 c3 c5 c6 c7 l
    · obtain rfl := Option.some.inj h
      exact order_sorter_reads_p1 c1 c3 c5 c6 c7 l
  · obtain rfl := Option.some.inj h
    exact order_sorter_reads_p2 c1 c3 c5 c6 l
def order_sorter_first_2_hn : Hint where
  live := fun _ r => match r with
    | 0 => [0, 1]
    | 1 => [0, 1, 11, 12]
    | 2 => [0, 1, 11, 12, 13]
    | 3 => [0, 1, 6, 11, 12]
    | 4 => [0, 1, 6, 11, 12, 25]
    | 5 => [4, 5]
    | 6 => [0, 1, 11, 12]
    | 7 => [4, 5]
    | _ => []
  esc := fun _ => false
  raw := fun k => false
  fresh := fun _ d => false
  vecs := fun _ d => false
noncomputable def order_sorter_first_2_f2 := codeO Try.prog order_sorter_first_2_hn (Valid Try.prog) 20 Try_c20_2
def order_sorter_first_2_l2_e : Int ⊕ Int → Ex
  | .inl _ => .exit 0
  | .inr _ => .ret
def order_sorter_first_2_l2_s (a0 : Nat) (a1 : List (Int × Bool × Nat)) (a2 : Nat) (a3 : List (Int × Bool × Nat)) (a4 : List T_api_Op) (a5 : List T_api_Op) : Int ⊕ Int → St
  | .inl z => S5 1 28 [220, 230, 250, 100050] [(0, .p 250 [] 0), (1, .fn (.func 23) [.p 250 [] 0] []), (11, vi ((a5.length : Nat) : Int)), (12, vi z), (13, vb false)] [(220, m0 a0 a1), (230, m0 a2 a3), (250, .cell false (.ag [.v 100050 a5.length, v0 a4, .m 220, .m 230, .nils])), (100050, w0 a5)]
  | .inr z => S5 1 28 [220, 230, 250, 100050] [(4, vi z), (5, vb true)] [(220, m0 a0 a1), (230, m0 a2 a3), (250, .cell false (.ag [.v 100050 a5.length, v0 a4, .m 220, .m 230, .nils])), (100050, w0 a5)]
def order_sorter_first_2_l2_h (a0 : Nat) (a1 : List (Int × Bool × Nat)) (a2 : Nat) (a3 : List (Int × Bool × Nat)) (a4 : List T_api_Op) (a5 : List T_api_Op) (s12_2 : Int) : St := S5 1 28 [220, 230, 250, 100050] [(0, .p 250 [] 0), (1, .fn (.func 23) [.p 250 [] 0] []), (11, vi ((a5.length : Nat) : Int)), (12, vi s12_2)] [(220, m0 a0 a1), (230, m0 a2 a3), (250, .cell false (.ag [.v 100050 a5.length, v0 a4, .m 220, .m 230, .nils])), (100050, w0 a5)]
def order_sorter_first_2_l2_f (a0 : Nat) (a1 : List (Int × Bool × Nat)) (a2 : Nat) (a3 : List (Int × Bool × Nat)) (a4 : List T_api_Op) (a5 : List T_api_Op) (N : Nat) (ih : Int → Option (Int ⊕ Int)) (s12_2 : Int) : Option (Int ⊕ Int) :=
    cond (decide (s12_2 < ((a5.length : Nat) : Int))) (
      optcase (findM s12_2 a1) (
        chk (in64 (s12_2 + 1)) <|
        ih (s12_2 + 1)) fun e3 =>
        cond (e3.1) (
          (order_sorter_reads s12_2 a0 a1 a2 a3 a4 a5).bind fun r5 =>
          cond (r5) (
            some (.inr s12_2)) (
            chk (in64 (s12_2 + 1)) <|
            ih (s12_2 + 1))) (
          chk (in64 (s12_2 + 1)) <|
          ih (s12_2 + 1))) (
      some (.inl s12_2))
def order_sorter_first_2_l2 (a0 : Nat) (a1 : List (Int × Bool × Nat)) (a2 : Nat) (a3 : List (Int × Bool × Nat)) (a4 : List T_api_Op) (a5 : List T_api_Op) : Nat → Int → Option (Int ⊕ Int)
  | 0 => fun _ => none
  | N + 1 => order_sorter_first_2_l2_f a0 a1 a2 a3 a4 a5 N (order_sorter_first_2_l2 a0 a1 a2 a3 a4 a5 N)
theorem order_sorter_first_2_l2_p0 {a0 : Nat} {a1 : List (Int × Bool × Nat)} {a2 : Nat} {a3 : List (Int × Bool × Nat)} {a4 : List T_api_Op} {a5 : List T_api_Op} {s12_2 : Int} (c1 : (decide (s12_2 < ((a5.length : Nat) : Int))) = true) (c2 : findM s12_2 a1 = none) (c3 : in64 (s12_2 + 1)) : Step order_sorter_first_2_f2 (order_sorter_first_2_l2_h a0 a1 a2 a3 a4 a5 s12_2) (.normal) (S5 1 28 [220, 230, 250, 100050] [(0, .p 250 [] 0), (1, .fn (.func 23) [.p 250 [] 0] []), (11, vi ((a5.length : Nat) : Int)), (12, vi (s12_2 + 1))] [(220, m0 a0 a1), (230, m0 a2 a3), (250, .cell false (.ag [.v 100050 a5.length, v0 a4, .m 220, .m 230, .nils])), (100050, w0 a5)]) :=
  ⟨{ an := [(4005, .found none)], nv := [(2000, vb true), (6000, vi (s12_2 + 1))] }, [EB (decide (s12_2 < ((a5.length : Nat) : Int))) true, mapFind (.i .i64 s12_2) (encM (PV.i .i64) (fun x => AV.pv (.b x)) a1) = some none, EW (s12_2 + 1)], by kernel_rfl, (Ac (nv_b c1) (Ac (findM_none (fv := (fun x => AV.pv (.b x))) key_i64 c2) (Ac (nv_wrap c3) An)))⟩
theorem order_sorter_first_2_l2_p1 {a0 : Nat} {a1 : List (Int × Bool × Nat)} {a2 : Nat} {a3 : List (Int × Bool × Nat)} {a4 : List T_api_Op} {a5 : List T_api_Op} {s12_2 : Int} {e3 : Bool × Nat} {r5 : Bool} (c1 : (decide (s12_2 < ((a5.length : Nat) : Int))) = true) (c2 : findM s12_2 a1 = some e3) (c4 : e3.1 = true) (c6 : order_sorter_reads s12_2 a0 a1 a2 a3 a4 a5 = some r5) (c7 : r5 = true) : Step order_sorter_first_2_f2 (order_sorter_first_2_l2_h a0 a1 a2 a3 a4 a5 s12_2) (.ret) (S5 1 28 [220, 230, 250, 100050] [(4, vi s12_2), (5, vb true)] [(220, m0 a0 a1), (230, m0 a2 a3), (250, .cell false (.ag [.v 100050 a5.length, v0 a4, .m 220, .m 230, .nils])), (100050, w0 a5)]) :=
  ⟨{ an := [(4005, .found (some (vb e3.1, e3.2))), (4009, .call (.ret (vb r5)) [(220, m0 a0 a1), (230, m0 a2 a3), (250, .cell false (.ag [.v 100050 a5.length, v0 a4, .m 220, .m 230, .nils])), (100050, w0 a5)])], nv := [(2000, vb true), (4005, vb true), (4009, vb true)] }, [EB (decide (s12_2 < ((a5.length : Nat) : Int))) true, mapFind (.i .i64 s12_2) (encM (PV.i .i64) (fun x => AV.pv (.b x)) a1) = some (some (vb e3.1, e3.2)), EB e3.1 true, Vd Try.prog 1 (.fn (.func 23) [.p 250 [] 0] []) [vi s12_2] [(220, m0 a0 a1), (230, m0 a2 a3), (250, .cell false (.ag [.v 100050 a5.length, v0 a4, .m 220, .m 230, .nils])), (100050, w0 a5)] (vb r5) [(220, m0 a0 a1), (230, m0 a2 a3), (250, .cell false (.ag [.v 100050 a5.length, v0 a4, .m 220, .m 230, .nils])), (100050, w0 a5)], EB r5 true], by kernel_rfl, (Ac (nv_b c1) (Ac (findM_some (fv := (fun x => AV.pv (.b x))) key_i64 c2) (Ac (nv_b c4) (Ac (order_sorter_reads_valid c6 _) (Ac (nv_b c7) An)))))⟩
theorem order_sorter_first_2_l2_p2 {a0 : Nat} {a1 : List (Int × Bool × Nat)} {a2 : Nat} {a3 : List (Int × Bool × Nat)} {a4 : List T_api_Op} {a5 : List T_api_Op} {s12_2 : Int} {e3 : Bool × Nat} {r5 : Bool} (c1 : (decide (s12_2 < ((a5.length : Nat) : Int))) = true) (c2 : findM s12_2 a1 = some e3) (c4 : e3.1 = true) (c6 : order_sorter_reads s12_2 a0 a1 a2 a3 a4 a5 = some r5) (c7 : r5 = false) (c8 : in64 (s12_2 + 1)) : Step order_sorter_first_2_f2 (order_sorter_first_2_l2_h a0 a1 a2 a3 a4 a5 s12_2) (.normal) (S5 1 28 [220, 230, 250, 100050] [(0, .p 250 [] 0), (1, .fn (.func 23) [.p 250 [] 0] []), (11, vi ((a5.length : Nat) : Int)), (12, vi (s12_2 + 1))] [(220, m0 a0 a1), (230, m0 a2 a3), (250, .cell false (.ag [.v 100050 a5.length, v0 a4, .m 220, .m 230, .nils])), (100050, w0 a5)]) :=
  ⟨{ an := [(4005, .found (some (vb e3.1, e3.2))), (4009, .call (.ret (vb r5)) [(220, m0 a0 a1), (230, m0 a2 a3), (250, .cell false (.ag [.v 100050 a5.length, v0 a4, .m 220, .m 230, .nils])), (100050, w0 a5)])], nv := [(2000, vb true), (4005, vb true), (4009, vb false), (6000, vi (s12_2 + 1))] }, [EB (decide (s12_2 < ((a5.length : Nat) : Int))) true, mapFind (.i .i64 s12_2) (encM (PV.i .i64) (fun x => AV.pv (.b x)) a1) = some (some (vb e3.1, e3.2)), EB e3.1 true, Vd Try.prog 1 (.fn (.func 23) [.p 250 [] 0] []) [vi s12_2] [(220, m0 a0 a1), (230, m0 a2 a3), (250, .cell false (.ag [.v 100050 a5.length, v0 a4, .m 220, .m 230, .nils])), (100050, w0 a5)] (vb r5) [(220, m0 a0 a1), (230, m0 a2 a3), (250, .cell false (.ag [.v 100050 a5.length, v0 a4, .m 220, .m 230, .nils])), (100050, w0 a5)], EB r5 false, EW (s12_2 + 1)], by kernel_rfl, (Ac (nv_b c1) (Ac (findM_some (fv := (fun x => AV.pv (.b x))) key_i64 c2) (Ac (nv_b c4) (Ac (order_sorter_reads_valid c6 _) (Ac (nv_b c7) (Ac (nv_wrap c8) An))))))⟩
theorem order_sorter_first_2_l2_p3 {a0 : Nat} {a1 : List (Int × Bool × Nat)} {a2 : Nat} {a3 : List (Int × Bool × Nat)} {a4 : List T_api_Op} {a5 : List T_api_Op} {s12_2 : Int} {e3 : Bool × Nat} (c1 : (decide (s12_2 < ((a5.length : Nat) : Int))) = true) (c2 : findM s12_2 a1 = some e3) (c4 : e3.1 = false) (c5 : in64 (s12_2 + 1)) : Step order_sorter_first_2_f2 (order_sorter_first_2_l2_h a0 a1 a2 a3 a4 a5 s12_2) (.normal) (S5 1 28 [220, 230, 250, 100050] [(0, .p 250 [] 0), (1, .fn (.func 23) [.p 250 [] 0] []), (11, vi ((a5.length : Nat) : Int)), (12, vi (s12_2 + 1))] [(220, m0 a0 a1), (230, m0 a2 a3), (250, .cell false (.ag [.v 100050 a5.length, v0 a4, .m 220, .m 230, .nils])), (100050, w0 a5)]) :=
  ⟨{ an := [(4005, .found (some (vb e3.1, e3.2)))], nv := [(2000, vb true), (4005, vb false), (6000, vi (s12_2 + 1))] }, [EB (decide (s12_2 < ((a5.length : Nat) : Int))) true, mapFind (.i .i64 s12_2) (encM (PV.i .i64) (fun x => AV.pv (.b x)) a1) = some (some (vb e3.1, e3.2)), EB e3.1 false, EW (s12_2 + 1)], by kernel_rfl, (Ac (nv_b c1) (Ac (findM_some (fv := (fun x => AV.pv (.b x))) key_i64 c2) (Ac (nv_b c4) (Ac (nv_wrap c5) An))))⟩
theorem order_sorter_first_2_l2_p4 {a0 : Nat} {a1 : List (Int × Bool × Nat)} {a2 : Nat} {a3 : List (Int × Bool × Nat)} {a4 : List T_api_Op} {a5 : List T_api_Op} {s12_2 : Int} (c1 : (decide (s12_2 < ((a5.length : Nat) : Int))) = false) : Step order_sorter_first_2_f2 (order_sorter_first_2_l2_h a0 a1 a2 a3 a4 a5 s12_2) (.exit 0) (S5 1 28 [220, 230, 250, 100050] [(0, .p 250 [] 0), (1, .fn (.func 23) [.p 250 [] 0] []), (11, vi ((a5.length : Nat) : Int)), (12, vi s12_2), (13, vb false)] [(220, m0 a0 a1), (230, m0 a2 a3), (250, .cell false (.ag [.v 100050 a5.length, v0 a4, .m 220, .m 230, .nils])), (100050, w0 a5)]) :=
  ⟨{ nv := [(2000, vb false)] }, [EB (decide (s12_2 < ((a5.length : Nat) : Int))) false], by kernel_rfl, (Ac (nv_b c1) An)⟩
theorem order_sorter_first_2_l2_ok {a0 : Nat} {a1 : List (Int × Bool × Nat)} {a2 : Nat} {a3 : List (Int × Bool × Nat)} {a4 : List T_api_Op} {a5 : List T_api_Op} : ∀ {N : Nat} {s12_2 : Int} {z : Int ⊕ Int}, order_sorter_first_2_l2 a0 a1 a2 a3 a4 a5 N s12_2 = some z → LoopP order_sorter_first_2_f2 (order_sorter_first_2_l2_h a0 a1 a2 a3 a4 a5 s12_2) (order_sorter_first_2_l2_e z) (order_sorter_first_2_l2_s a0 a1 a2 a3 a4 a5 z) := by
  intro N
  induction N with
  | zero => intro s12_2 z h; simp [order_sorter_first_2_l2] at h
  | succ N ih =>
    intro s12_2 z h
    change order_sorter_first_2_l2_f a0 a1 a2 a3 a4 a5 N (order_sorter_first_2_l2 a0 a1 a2 a3 a4 a5 N) s12_2 = some z at h
    unfold order_sorter_first_2_l2_f at h
    rcases cond_some h with ⟨c1, h⟩ | ⟨c1, h⟩
    · rcases optcase_some h with ⟨c2, h⟩ | ⟨e3, c2, h⟩
      · obtain ⟨c3, h⟩ := chk_some h
        exact Step.next (order_sorter_first_2_l2_p0 c1 c2 c3) (ih h)
      · rcases cond_some h with ⟨c4, h⟩ | ⟨c4, h⟩
        · obtain ⟨r5, c6, h⟩ := bind_some h
          rcases cond_some h with ⟨c7, h⟩ | ⟨c7, h⟩
          · obtain rfl := Option.some.inj h
            exact Step.ret (order_sorter_first_2_l2_p1 c1 c2 c4 c6 c7)
          · obtain ⟨c8, h⟩ := chk_some h
            exact Step.next (order_sorter_first_2_l2_p2 c1 c2 c4 c6 c7 c8) (ih h)
        · obtain ⟨c5, h⟩ := chk_some h
          exact Step.next (order_sorter_first_2_l2_p3 c1 c2 c4 c5) (ih h)
    · obtain rfl := Option.some.inj h
      exact Step.exit (order_sorter_first_2_l2_p4 c1)
def order_sorter_first_2 (N : Nat) (a0 : Nat) (a1 : List (Int × Bool × Nat)) (a2 : Nat) (a3 : List (Int × Bool × Nat)) (a4 : List T_api_Op) (a5 : List T_api_Op) : Option (Int × Bool) :=
  (order_sorter_first_2_l2 a0 a1 a2 a3 a4 a5 N 0).bind fun z1 => match z1 with
  | .inl z2 =>
    some (0, false)
  | .inr z2 =>
    some (z2, true)
theorem order_sorter_first_2_p0 {N : Nat} {a0 : Nat} {a1 : List (Int × Bool × Nat)} {a2 : Nat} {a3 : List (Int × Bool × Nat)} {a4 : List T_api_Op} {a5 : List T_api_Op} {z2 : Int} (c3 : order_sorter_first_2_l2 a0 a1 a2 a3 a4 a5 N 0 = some (.inl z2)) (l : Nat) : Vd Try.prog l (.fn (.func 20) [] []) [.p 250 [] 0, .fn (.func 23) [.p 250 [] 0] []] [(220, m0 a0 a1), (230, m0 a2 a3), (250, .cell false (.ag [.v 100050 a5.length, v0 a4, .m 220, .m 230, .nils])), (100050, w0 a5)] (.tup [vi 0, vb false]) [(220, m0 a0 a1), (230, m0 a2 a3), (250, .cell false (.ag [.v 100050 a5.length, v0 a4, .m 220, .m 230, .nils])), (100050, w0 a5)] :=
  Try_vf20 (hn := order_sorter_first_2_hn) (lvl := 0) (O := { lo := [(2, .exit 0, S5 1 28 [220, 230, 250, 100050] [(0, .p 250 [] 0), (1, .fn (.func 23) [.p 250 [] 0] []), (11, vi ((a5.length : Nat) : Int)), (12, vi z2), (13, vb false)] [(220, m0 a0 a1), (230, m0 a2 a3), (250, .cell false (.ag [.v 100050 a5.length, v0 a4, .m 220, .m 230, .nils])), (100050, w0 a5)])] }) (ps := [LoopP order_sorter_first_2_f2 (S5 1 28 [220, 230, 250, 100050] [(0, .p 250 [] 0), (1, .fn (.func 23) [.p 250 [] 0] []), (11, vi ((a5.length : Nat) : Int)), (12, vi 0)] [(220, m0 a0 a1), (230, m0 a2 a3), (250, .cell false (.ag [.v 100050 a5.length, v0 a4, .m 220, .m 230, .nils])), (100050, w0 a5)]) (.exit 0) (S5 1 28 [220, 230, 250, 100050] [(0, .p 250 [] 0), (1, .fn (.func 23) [.p 250 [] 0] []), (11, vi ((a5.length : Nat) : Int)), (12, vi z2), (13, vb false)] [(220, m0 a0 a1), (230, m0 a2 a3), (250, .cell false (.ag [.v 100050 a5.length, v0 a4, .m 220, .m 230, .nils])), (100050, w0 a5)])]) (by kernel_rfl) (Ac (order_sorter_first_2_l2_ok c3) An) l
theorem order_sorter_first_2_p1 {N : Nat} {a0 : Nat} {a1 : List (Int × Bool × Nat)} {a2 : Nat} {a3 : List (Int × Bool × Nat)} {a4 : List T_api_Op} {a5 : List T_api_Op} {z2 : Int} (c3 : order_sorter_first_2_l2 a0 a1 a2 a3 a4 a5 N 0 = some (.inr z2)) (l : Nat) : Vd Try.prog l (.fn (.func 20) [] []) [.p 250 [] 0, .fn (.func 23) [.p 250 [] 0] []] [(220, m0 a0 a1), (230, m0 a2 a3), (250, .cell false (.ag [.v 100050 a5.length, v0 a4, .m 220, .m 230, .nils])), (100050, w0 a5)] (.tup [vi z2, vb true]) [(220, m0 a0 a1), (230, m0 a2 a3), (250, .cell false (.ag [.v 100050 a5.length, v0 a4, .m 220, .m 230, .nils])), (100050, w0 a5)] :=
  Try_vf20 (hn := order_sorter_first_2_hn) (lvl := 0) (O := { lo := [(2, .ret, S5 1 28 [220, 230, 250, 100050] [(4, vi z2), (5, vb true)] [(220, m0 a0 a1), (230, m0 a2 a3), (250, .cell false (.ag [.v 100050 a5.length, v0 a4, .m 220, .m 230, .nils])), (100050, w0 a5)])] }) (ps := [LoopP order_sorter_first_2_f2 (S5 1 28 [220, 230, 250, 100050] [(0, .p 250 [] 0), (1, .fn (.func 23) [.p 250 [] 0] []), (11, vi ((a5.length : Nat) : Int)), (12, vi 0)] [(220, m0 a0 a1), (230, m0 a2 a3), (250, .cell false (.ag [.v 100050 a5.length, v0 a4, .m 220, .m 230, .nils])), (100050, w0 a5)]) (.ret) (S5 1 28 [220, 230, 250, 100050] [(4, vi z2), (5, vb true)] [(220, m0 a0 a1), (230, m0 a2 a3), (250, .cell false (.ag [.v 100050 a5.length, v0 a4, .m 220, .m 230, .nils])), (100050, w0 a5)])]) (by kernel_rfl) (Ac (order_sorter_first_2_l2_ok c3) An) l
theorem order_sorter_first_2_valid {N : Nat} {a0 : Nat} {a1 : List (Int × Bool × Nat)} {a2 : Nat} {a3 : List (Int × Bool × Nat)} {a4 : List T_api_Op} {a5 : List T_api_Op} {z : Int × Bool} (h : order_sorter_first_2 N a0 a1 a2 a3 a4 a5 = some z) (l : Nat) : Vd Try.prog l (.fn (.func 20) [] []) [.p 250 [] 0, .fn (.func 23) [.p 250 [] 0] []] [(220, m0 a0 a1), (230, m0 a2 a3), (250, .cell false (.ag [.v 100050 a5.length, v0 a4, .m 220, .m 230, .nils])), (100050, w0 a5)] (.tup [vi z.1, vb z.2]) [(220, m0 a0 a1), (230, m0 a2 a3), (250, .cell false (.ag [.v 100050 a5.length, v0 a4, .m 220, .m 230, .nils])), (100050, w0 a5)] := by
  unfold order_sorter_first_2 at h
  obtain ⟨z1, c3, h⟩ := bind_some h
  rcases z1 with z2 | z2 <;> dsimp only at h
  · obtain rfl := Option.some.inj h
    exact order_sorter_first_2_p0 c3 l
  · obtain rfl := Option.some.inj h
    exact order_sorter_first_2_p1 c3 l
noncomputable def Try_b24 : Code := Try.f24.body.getD .skip
theorem Try_hb24 : Try.f24.body = some Try_b24 := by kernel_rfl
theorem Try_hf24 : Try.prog.funcs[24]? = some Try.f24 := by kernel_rfl
theorem Try_vf24 {hn : Hint} {lvl : Nat} {first cap args : List AV} {h h' : Ob} {O : Orc} {r : AV} {ps : List Prop} (hs : funO Try.prog hn (Valid Try.prog) 24 Try.f24 lvl (first ++ args ++ cap) h O = some ((.ret r, h'), ps)) (hp : All ps) (l : Nat) : Vd Try.prog l (.fn (.func 24) first cap) args h r h' :=
  valid_fun (draw_ok Try_draw) range_ok Try_hf24 Try_hb24 (by kernel_rfl) hs hp l
def order_Sort_1_hn : Hint where
  live := fun _ r => match r with
    | 1 => [2]
    | _ => []
  esc := fun _ => false
  raw := fun k => false
  fresh := fun _ d => false
  vecs := fun _ d => false
def order_Sort_1 (a0 : Int) : Option (Unit) :=
  some ()
theorem order_Sort_1_p0 {a0 : Int} (l : Nat) : Vd Try.prog l (.fn (.func 24) [] []) [vi a0] [] (vb true) [] :=
  Try_vf24 (hn := order_Sort_1_hn) (lvl := 0) (O := {}) (ps := []) (by kernel_rfl) An l
theorem order_Sort_1_valid {a0 : Int} {z : Unit} (h : order_Sort_1 a0 = some z) (l : Nat) : Vd Try.prog l (.fn (.func 24) [] []) [vi a0] [] (vb true) [] := by
  unfold order_Sort_1 at h
  obtain rfl := Option.some.inj h
  exact order_Sort_1_p0  l
def order_sorter_first_3_hn : Hint where
  live := fun _ r => match r with
    | 0 => [0, 1]
    | 1 => [0, 1, 11, 12]
    | 2 => [0, 1, 11, 12, 13]
    | 3 => [0, 1, 6, 11, 12]
    | 4 => [0, 1, 6, 11, 12, 25]
    | 5 => [4, 5]
    | 6 => [0, 1, 11, 12]
    | 7 => [4, 5]
    | _ => []
  esc := fun _ => false
  raw := fun k => false
  fresh := fun _ d => false
  vecs := fun _ d => false
noncomputable def order_sorter_first_3_f2 := codeO Try.prog order_sorter_first_3_hn (Valid Try.prog) 20 Try_c20_2
def order_sorter_first_3_l2_e : Int ⊕ Int → Ex
  | .inl _ => .exit 0
  | .inr _ => .ret
def order_sorter_first_3_l2_s (a0 : Nat) (a1 : List (Int × Bool × Nat)) (a2 : Nat) (a3 : List (Int × Bool × Nat)) (a4 : List T_api_Op) (a5 : List T_api_Op) : Int ⊕ Int → St
  | .inl z => S5 1 28 [220, 230, 250, 100050] [(0, .p 250 [] 0), (1, .fn (.func 24) [] []), (11, vi ((a5.length : Nat) : Int)), (12, vi z), (13, vb false)] [(220, m0 a0 a1), (230, m0 a2 a3), (250, .cell false (.ag [.v 100050 a5.length, v0 a4, .m 220, .m 230, .nils])), (100050, w0 a5)]
  | .inr z => S5 1 28 [220, 230, 250, 100050] [(4, vi z), (5, vb true)] [(220, m0 a0 a1), (230, m0 a2 a3), (250, .cell false (.ag [.v 100050 a5.length, v0 a4, .m 220, .m 230, .nils])), (100050, w0 a5)]
def order_sorter_first_3_l2_h (a0 : Nat) (a1 : List (Int × Bool × Nat)) (a2 : Nat) (a3 : List (Int × Bool × Nat)) (a4 : List T_api_Op) (a5 : List T_api_Op) (s12_2 : Int) : St := S5 1 28 [220, 230, 250, 100050] [(0, .p 250 [] 0), (1, .fn (.func 24) [] []), (11, vi ((a5.length : Nat) : Int)), (12, vi s12_2)] [(220, m0 a0 a1), (230, m0 a2 a3), (250, .cell false (.ag [.v 100050 a5.length, v0 a4, .m 220, .m 230, .nils])), (100050, w0 a5)]
def order_sorter_first_3_l2_f (a0 : Nat) (a1 : List (Int × Bool × Nat)) (a2 : Nat) (a3 : List (Int × Bool × Nat)) (a4 : List T_api_Op) (a5 : List T_api_Op) (N : Nat) (ih : Int → Option (Int ⊕ Int)) (s12_2 : Int) : Option (Int ⊕ Int) :=
    cond (decide (s12_2 < ((a5.length : Nat) : Int))) (
      optcase (findM s12_2 a1) (
        chk (in64 (s12_2 + 1)) <|
        ih (s12_2 + 1)) fun e3 =>
        cond (e3.1) (
          (order_Sort_1 s12_2).bind fun r5 =>
          some (.inr s12_2)) (
          chk (in64 (s12_2 + 1)) <|
          ih (s12_2 + 1))) (
      some (.inl s12_2))
def order_sorter_first_3_l2 (a0 : Nat) (a1 : List (Int × Bool × Nat)) (a2 : Nat) (a3 : List (Int × Bool × Nat)) (a4 : List T_api_Op) (a5 : List T_api_Op) : Nat → Int → Option (Int ⊕ Int)
  | 0 => fun _ => none
  | N + 1 => order_sorter_first_3_l2_f a0 a1 a2 a3 a4 a5 N (order_sorter_first_3_l2 a0 a1 a2 a3 a4 a5 N)
theorem order_sorter_first_3_l2_p0 {a0 : Nat} {a1 : List (Int × Bool × Nat)} {a2 : Nat} {a3 : List (Int × Bool × Nat)} {a4 : List T_api_Op} {a5 : List T_api_Op} {s12_2 : Int} (c1 : (decide (s12_2 < ((a5.length : Nat) : Int))) = true) (c2 : findM s12_2 a1 = none) (c3 : in64 (s12_2 + 1)) : Step order_sorter_first_3_f2 (order_sorter_first_3_l2_h a0 a1 a2 a3 a4 a5 s12_2) (.normal) (S5 1 28 [220, 230, 250, 100050] [(0, .p 250 [] 0), (1, .fn (.func 24) [] []), (11, vi ((a5.length : Nat) : Int)), (12, vi (s12_2 + 1))] [(220, m0 a0 a1), (230, m0 a2 a3), (250, .cell false (.ag [.v 100050 a5.length, v0 a4, .m 220, .m 230, .nils])), (100050, w0 a5)]) :=
  ⟨{ an := [(4005, .found none)], nv := [(2000, vb true), (6000, vi (s12_2 + 1))] }, [EB (decide (s12_2 < ((a5.length : Nat) : Int))) true, mapFind (.i .i64 s12_2) (encM (PV.i .i64) (fun x => AV.pv (.b x)) a1) = some none, EW (s12_2 + 1)], by kernel_rfl, (Ac (nv_b c1) (Ac (findM_none (fv := (fun x => AV.pv (.b x))) key_i64 c2) (Ac (nv_wrap c3) An)))⟩
theorem order_sorter_first_3_l2_p1 {a0 : Nat} {a1 : List (Int × Bool × Nat)} {a2 : Nat} {a3 : List (Int × Bool × Nat)} {a4 : List T_api_Op} {a5 : List T_api_Op} {s12_2 : Int} {e3 : Bool × Nat} {r5 : Unit} (c1 : (decide (s12_2 < ((a5.length : Nat) : Int))) = true) (c2 : findM s12_2 a1 = some e3) (c4 : e3.1 = true) (c6 : order_Sort_1 s12_2 = some r5) : Step order_sorter_first_3_f2 (order_sorter_first_3_l2_h a0 a1 a2 a3 a4 a5 s12_2) (.ret) (S5 1 28 [220, 230, 250, 100050] [(4, vi s12_2), (5, vb true)] [(220, m0 a0 a1), (230, m0 a2 a3), (250, .cell false (.ag [.v 100050 a5.length, v0 a4, .m 220, .m 230, .nils])), (100050, w0 a5)]) :=
  ⟨{ an := [(4005, .found (some (vb e3.1, e3.2))), (4009, .call (.ret (vb true)) [])], nv := [(2000, vb true), (4005, vb true)] }, [EB (decide (s12_2 < ((a5.length : Nat) : Int))) true, mapFind (.i .i64 s12_2) (encM (PV.i .i64) (fun x => AV.pv (.b x)) a1) = some (some (vb e3.1, e3.2)), EB e3.1 true, Vd Try.prog 1 (.fn (.func 24) [] []) [vi s12_2] [] (vb true) []], by kernel_rfl, (Ac (nv_b c1) (Ac (findM_some (fv := (fun x => AV.pv (.b x))) key_i64 c2) (Ac (nv_b c4) (Ac (order_Sort_1_valid c6 _) An))))⟩
theorem order_sorter_first_3_l2_p2 {a0 : Nat} {a1 : List (Int × Bool × Nat)} {a2 : Nat} {a3 : List (Int × Bool × Nat)} {a4 : List T_api_Op} {a5 : List T_api_Op} {s12_2 : Int} {e3 : Bool × Nat} (c1 : (decide (s12_2 < ((a5.length : Nat) : Int))) = true) (c2 : findM s12_2 a1 = some e3) (c4 : e3.1 = false) (c5 : in64 (s12_2 + 1)) : Step order_sorter_first_3_f2 (order_sorter_first_3_l2_h a0 a1 a2 a3 a4 a5 s12_2) (.normal) (S5 1 28 [220, 230, 250, 100050] [(0, .p 250 [] 0), (1, .fn (.func 24) [] []), (11, vi ((a5.length : Nat) : Int)), (12, vi (s12_2 + 1))] [(220, m0 a0 a1), (230, m0 a2 a3), (250, .cell false (.ag [.v 100050 a5.length, v0 a4, .m 220, .m 230, .nils])), (100050, w0 a5)]) :=
  ⟨{ an := [(4005, .found (some (vb e3.1, e3.2)))], nv := [(2000, vb true), (4005, vb false), (6000, vi (s12_2 + 1))] }, [EB (decide (s12_2 < ((a5.length : Nat) : Int))) true, mapFind (.i .i64 s12_2) (encM (PV.i .i64) (fun x => AV.pv (.b x)) a1) = some (some (vb e3.1, e3.2)), EB e3.1 false, EW (s12_2 + 1)], by kernel_rfl, (Ac (nv_b c1) (Ac (findM_some (fv := (fun x => AV.pv (.b x))) key_i64 c2) (Ac (nv_b c4) (Ac (nv_wrap c5) An))))⟩
theorem order_sorter_first_3_l2_p3 {a0 : Nat} {a1 : List (Int × Bool × Nat)} {a2 : Nat} {a3 : List (Int × Bool × Nat)} {a4 : List T_api_Op} {a5 : List T_api_Op} {s12_2 : Int} (c1 : (decide (s12_2 < ((a5.length : Nat) : Int))) = false) : Step order_sorter_first_3_f2 (order_sorter_first_3_l2_h a0 a1 a2 a3 a4 a5 s12_2) (.exit 0) (S5 1 28 [220, 230, 250, 100050] [(0, .p 250 [] 0), (1, .fn (.func 24) [] []), (11, vi ((a5.length : Nat) : Int)), (12, vi s12_2), (13, vb false)] [(220, m0 a0 a1), (230, m0 a2 a3), (250, .cell false (.ag [.v 100050 a5.length, v0 a4, .m 220, .m 230, .nils])), (100050, w0 a5)]) :=
  ⟨{ nv := [(2000, vb false)] }, [EB (decide (s12_2 < ((a5.length : Nat) : Int))) false], by kernel_rfl, (Ac (nv_b c1) An)⟩
theorem order_sorter_first_3_l2_ok {a0 : Nat} {a1 : List (Int × Bool × Nat)} {a2 : Nat} {a3 : List (Int × Bool × Nat)} {a4 : List T_api_Op} {a5 : List T_api_Op} : ∀ {N : Nat} {s12_2 : Int} {z : Int ⊕ Int}, order_sorter_first_3_l2 a0 a1 a2 a3 a4 a5 N s12_2 = some z → LoopP order_sorter_first_3_f2 (order_sorter_first_3_l2_h a0 a1 a2 a3 a4 a5 s12_2) (order_sorter_first_3_l2_e z) (order_sorter_first_3_l2_s a0 a1 a2 a3 a4 a5 z) := by
  intro N
  induction N with
  | zero => intro s12_2 z h; simp [order_sorter_first_3_l2] at h
  | succ N ih =>
    intro s12_2 z h
    change order_sorter_first_3_l2_f a0 a1 a2 a3 a4 a5 N (order_sorter_first_3_l2 a0 a1 a2 a3 a4 a5 N) s12_2 = some z at h
    unfold order_sorter_first_3_l2_f at h
    rcases cond_some h with ⟨c1, h⟩ | ⟨c1, h⟩
    · rcases optcase_some h with ⟨c2, h⟩ | ⟨e3, c2, h⟩
      · obtain ⟨c3, h⟩ := chk_some h
        exact Step.next (order_sorter_first_3_l2_p0 c1 c2 c3) (ih h)
      · rcases cond_some h with ⟨c4, h⟩ | ⟨c4, h⟩
        · obtain ⟨r5, c6, h⟩ := bind_some h
          obtain rfl := Option.some.inj h
          exact Step.ret (order_sorter_first_3_l2_p1 c1 c2 c4 c6)
        · obtain ⟨c5, h⟩ := chk_some h
          exact Step.next (order_sorter_first_3_l2_p2 c1 c2 c4 c5) (ih h)
    · obtain rfl := Option.some.inj h
      exact Step.exit (order_sorter_first_3_l2_p3 c1)
def order_sorter_first_3 (N : Nat) (a0 : Nat) (a1 : List (Int × Bool × Nat)) (a2 : Nat) (a3 : List (Int × Bool × Nat)) (a4 : List T_api_Op) (a5 : List T_api_Op) : Option (Int × Bool) :=
  (order_sorter_first_3_l2 a0 a1 a2 a3 a4 a5 N 0).bind fun z1 => match z1 with
  | .inl z2 =>
    some (0, false)
  | .inr z2 =>
    some (z2, true)
theorem order_sorter_first_3_p0 {N : Nat} {a0 : Nat} {a1 : List (Int × Bool × Nat)} {a2 : Nat} {a3 : List (Int × Bool × Nat)} {a4 : List T_api_Op} {a5 : List T_api_Op} {z2 : Int} (c3 : order_sorter_first_3_l2 a0 a1 a2 a3 a4 a5 N 0 = some (.inl z2)) (l : Nat) : Vd Try.prog l (.fn (.func 20) [] []) [.p 250 [] 0, .fn (.func 24) [] []] [(220, m0 a0 a1), (230, m0 a2 a3), (250, .cell false (.ag [.v 100050 a5.length, v0 a4, .m 220, .m 230, .nils])), (100050, w0 a5)] (.tup [vi 0, vb false]) [(220, m0 a0 a1), (230, m0 a2 a3), (250, .cell false (.ag [.v 100050 a5.length, v0 a4, .m 220, .m 230, .nils])), (100050, w0 a5)] :=
  Try_vf20 (hn := order_sorter_first_3_hn) (lvl := 0) (O := { lo := [(2, .exit 0, S5 1 28 [220, 230, 250, 100050] [(0, .p 250 [] 0), (1, .fn (.func 24) [] []), (11, vi ((a5.length : Nat) : Int)), (12, vi z2), (13, vb false)] [(220, m0 a0 a1), (230, m0 a2 a3), (250, .cell false (.ag [.v 100050 a5.length, v0 a4, .m 220, .m 230, .nils])), (100050, w0 a5)])] }) (ps := [LoopP order_sorter_first_3_f2 (S5 1 28 [220, 230, 250, 100050] [(0, .p 250 [] 0), (1, .fn (.func 24) [] []), (11, vi ((a5.length : Nat) : Int)), (12, vi 0)] [(220, m0 a0 a1), (230, m0 a2 a3), (250, .cell false (.ag [.v 100050 a5.length, v0 a4, .m 220, .m 230, .nils])), (100050, w0 a5)]) (.exit 0) (S5 1 28 [220, 230, 250, 100050] [(0, .p 250 [] 0), (1, .fn (.func 24) [] []), (11, vi ((a5.length : Nat) : Int)), (12, vi z2), (13, vb false)] [(220, m0 a0 a1), (230, m0 a2 a3), (250, .cell false (.ag [.v 100050 a5.length, v0 a4, .m 220, .m 230, .nils])), (100050, w0 a5)])]) (by kernel_rfl) (Ac (order_sorter_first_3_l2_ok c3) An) l
theorem order_sorter_first_3_p1 {N : Nat} {a0 : Nat} {a1 : List (Int × Bool × Nat)} {a2 : Nat} {a3 : List (Int × Bool × Nat)} {a4 : List T_api_Op} {a5 : List T_api_Op} {z2 : Int} (c3 : order_sorter_first_3_l2 a0 a1 a2 a3 a4 a5 N 0 = some (.inr z2)) (l : Nat) : Vd Try.prog l (.fn (.func 20) [] []) [.p 250 [] 0, .fn (.func 24) [] []] [(220, m0 a0 a1), (230, m0 a2 a3), (250, .cell false (.ag [.v 100050 a5.length, v0 a4, .m 220, .m 230, .nils])), (100050, w0 a5)] (.tup [vi z2, vb true]) [(220, m0 a0 a1), (230, m0 a2 a3), (250, .cell false (.ag [.v 100050 a5.length, v0 a4, .m 220, .m 230, .nils])), (100050, w0 a5)] :=
  Try_vf20 (hn := order_sorter_first_3_hn) (lvl := 0) (O := { lo := [(2, .ret, S5 1 28 [220, 230, 250, 100050] [(4, vi z2), (5, vb true)] [(220, m0 a0 a1), (230, m0 a2 a3), (250, .cell false (.ag [.v 100050 a5.length, v0 a4, .m 220, .m 230, .nils])), (100050, w0 a5)])] }) (ps := [LoopP order_sorter_first_3_f2 (S5 1 28 [220, 230, 250, 100050] [(0, .p 250 [] 0), (1, .fn (.func 24) [] []), (11, vi ((a5.length : Nat) : Int)), (12, vi 0)] [(220, m0 a0 a1), (230, m0 a2 a3), (250, .cell false (.ag [.v 100050 a5.length, v0 a4, .m 220, .m 230, .nils])), (100050, w0 a5)]) (.ret) (S5 1 28 [220, 230, 250, 100050] [(4, vi z2), (5, vb true)] [(220, m0 a0 a1), (230, m0 a2 a3), (250, .cell false (.ag [.v 100050 a5.length, v0 a4, .m 220, .m 230, .nils])), (100050, w0 a5)])]) (by kernel_rfl) (Ac (order_sorter_first_3_l2_ok c3) An) l
theorem order_sorter_first_3_valid {N : Nat} {a0 : Nat} {a1 : List (Int × Bool × Nat)} {a2 : Nat} {a3 : List (Int × Bool × Nat)} {a4 : List T_api_Op} {a5 : List T_api_Op} {z : Int × Bool} (h : order_sorter_first_3 N a0 a1 a2 a3 a4 a5 = some z) (l : Nat) : Vd Try.prog l (.fn (.func 20) [] []) [.p 250 [] 0, .fn (.func 24) [] []] [(220, m0 a0 a1), (230, m0 a2 a3), (250, .cell false (.ag [.v 100050 a5.length, v0 a4, .m 220, .m 230, .nils])), (100050, w0 a5)] (.tup [vi z.1, vb z.2]) [(220, m0 a0 a1), (230, m0 a2 a3), (250, .cell false (.ag [.v 100050 a5.length, v0 a4, .m 220, .m 230, .nils])), (100050, w0 a5)] := by
  unfold order_sorter_first_3 at h
  obtain ⟨z1, c3, h⟩ := bind_some h
  rcases z1 with z2 | z2 <;> dsimp only at h
  · obtain rfl := Option.some.inj h
    exact order_sorter_first_3_p0 c3 l
  · obtain rfl := Option.some.inj h
    exact order_sorter_first_3_p1 c3 l
def order_sorter_free_2_hn : Hint where
  live := fun _ r => match r with
    | 0 => [0, 1]
    | 1 => [0, 1, 10, 11]
    | 2 => [0, 1, 10, 11, 12]
    | 3 => [0, 1, 5, 10, 11]
    | 4 => [0, 1, 10, 11, 41]
    | 5 => [4]
    | 6 => [0, 1, 10, 11]
    | 7 => [4]
    | _ => []
  esc := fun _ => false
  raw := fun k => false
  fresh := fun _ d => false
  vecs := fun _ d => false
noncomputable def order_sorter_free_2_f2 := codeO Try.prog order_sorter_free_2_hn (Valid Try.prog) 21 Try_c21_2
def order_sorter_free_2_l2_e : Int ⊕ Unit → Ex
  | .inl _ => .exit 0
  | .inr _ => .ret
def order_sorter_free_2_l2_s (a0 : Int) (a1 : Nat) (a2 : List (Int × Bool × Nat)) (a3 : Nat) (a4 : List (Int × Bool × Nat)) (a5 : List T_api_Op) (a6 : List T_api_Op) (a7 : List T_api_Op) : Int ⊕ Unit → St
  | .inl z => S5 2 43 [220, 230, 250, 100050, 100180] [(0, .p 250 [] 0), (1, vi a0), (10, vi ((a6.length : Nat) : Int)), (11, vi z), (12, vb false)] [(220, m0 a1 a2), (230, m0 a3 a4), (250, .cell false (.ag [.v 100050 a6.length, v0 a5, .m 220, .m 230, .v 100180 a7.length])), (100050, w0 a6), (100180, w0 a7)]
  | .inr z => S5 2 43 [220, 230, 250, 100050, 100180] [(4, vb false)] [(220, m0 a1 a2), (230, m0 a3 a4), (250, .cell false (.ag [.v 100050 a6.length, v0 a5, .m 220, .m 230, .v 100180 a7.length])), (100050, w0 a6), (100180, w0 a7)]
def order_sorter_free_2_l2_h (a0 : Int) (a1 : Nat) (a2 : List (Int × Bool × Nat)) (a3 : Nat) (a4 : List (Int × Bool × Nat)) (a5 : List T_api_Op) (a6 : List T_api_Op) (a7 : List T_api_Op) (s11_2 : Int) : St := S5 2 43 [220, 230, 250, 100050, 100180] [(0, .p 250 [] 0), (1, vi a0), (10, vi ((a6.length : Nat) : Int)), (11, vi s11_2)] [(220, m0 a1 a2), (230, m0 a3 a4), (250, .cell false (.ag [.v 100050 a6.length, v0 a5, .m 220, .m 230, .v 100180 a7.length])), (100050, w0 a6), (100180, w0 a7)]
def order_sorter_free_2_l2_f (a0 : Int) (a1 : Nat) (a2 : List (Int × Bool × Nat)) (a3 : Nat) (a4 : List (Int × Bool × Nat)) (a5 : List T_api_Op) (a6 : List T_api_Op) (a7 : List T_api_Op) (N : Nat) (ih : Int → Option (Int ⊕ Unit)) (s11_2 : Int) : Option (Int ⊕ Unit) :=
    cond (decide (s11_2 < ((a6.length : Nat) : Int))) (
      cond (!decide (s11_2 = a0)) (
        optcase (findM s11_2 a2) (
          chk (in64 (s11_2 + 1)) <|
          ih (s11_2 + 1)) fun e4 =>
          cond (e4.1) (
            chk (0 ≤ s11_2 ∧ s11_2 < ((a6.length : Nat) : Int)) <|
            (getI a6 s11_2).bind fun e7 =>
            chk (0 ≤ a0 ∧ a0 < ((a6.length : Nat) : Int)) <|
            (getI a6 a0).bind fun e10 =>
            (order_Reads e7 e10).bind fun r12 =>
            cond (r12) (
              some (.inr ())) (
              chk (in64 (s11_2 + 1)) <|
              ih (s11_2 + 1))) (
            chk (in64 (s11_2 + 1)) <|
            ih (s11_2 + 1))) (
        chk (in64 (s11_2 + 1)) <|
        ih (s11_2 + 1))) (
      some (.inl s11_2))
def order_sorter_free_2_l2 (a0 : Int) (a1 : Nat) (a2 : List (Int × Bool × Nat)) (a3 : Nat) (a4 : List (Int × Bool × Nat)) (a5 : List T_api_Op) (a6 : List T_api_Op) (a7 : List T_api_Op) : Nat → Int → Option (Int ⊕ Unit)
  | 0 => fun _ => none
  | N + 1 => order_sorter_free_2_l2_f a0 a1 a2 a3 a4 a5 a6 a7 N (order_sorter_free_2_l2 a0 a1 a2 a3 a4 a5 a6 a7 N)
theorem order_sorter_free_2_l2_p0 {a0 : Int} {a1 : Nat} {a2 : List (Int × Bool × Nat)} {a3 : Nat} {a4 : List (Int × Bool × Nat)} {a5 : List T_api_Op} {a6 : List T_api_Op} {a7 : List T_api_Op} {s11_2 : Int} (c1 : (decide (s11_2 < ((a6.length : Nat) : Int))) = true) (c2 : (!decide (s11_2 = a0)) = true) (c3 : findM s11_2 a2 = none) (c4 : in64 (s11_2 + 1)) : Step order_sorter_free_2_f2 (order_sorter_free_2_l2_h a0 a1 a2 a3 a4 a5 a6 a7 s11_2) (.normal) (S5 2 43 [220, 230, 250, 100050, 100180] [(0, .p 250 [] 0), (1, vi a0), (10, vi ((a6.length : Nat) : Int)), (11, vi (s11_2 + 1))] [(220, m0 a1 a2), (230, m0 a3 a4), (250, .cell false (.ag [.v 100050 a6.length, v0 a5, .m 220, .m 230, .v 100180 a7.length])), (100050, w0 a6), (100180, w0 a7)]) :=
  ⟨{ an := [(4009, .found none)], nv := [(2000, vb true), (4002, vb true), (6000, vi (s11_2 + 1))] }, [EB (decide (s11_2 < ((a6.length : Nat) : Int))) true, EB (!decide (s11_2 = a0)) true, mapFind (.i .i64 s11_2) (encM (PV.i .i64) (fun x => AV.pv (.b x)) a2) = some none, EW (s11_2 + 1)], by kernel_rfl, (Ac (nv_b c1) (Ac (nv_b c2) (Ac (findM_none (fv := (fun x => AV.pv (.b x))) key_i64 c3) (Ac (nv_wrap c4) An))))⟩
theorem order_sorter_free_2_l2_p1 {a0 : Int} {a1 : Nat} {a2 : List (Int × Bool × Nat)} {a3 : Nat} {a4 : List (Int × Bool × Nat)} {a5 : List T_api_Op} {a6 : List T_api_Op} {a7 : List T_api_Op} {s11_2 : Int} {e4 : Bool × Nat} {e7 : T_api_Op} {e10 : T_api_Op} {r12 : Bool} (c1 : (decide (s11_2 < ((a6.length : Nat) : Int))) = true) (c2 : (!decide (s11_2 = a0)) = true) (c3 : findM s11_2 a2 = some e4) (c5 : e4.1 = true) (c6 : 0 ≤ s11_2 ∧ s11_2 < ((a6.length : Nat) : Int)) (c8 : getI a6 s11_2 = some e7) (c9 : 0 ≤ a0 ∧ a0 < ((a6.length : Nat) : Int)) (c11 : getI a6 a0 = some e10) (c13 : order_Reads e7 e10 = some r12) (c14 : r12 = true) : Step order_sorter_free_2_f2 (order_sorter_free_2_l2_h a0 a1 a2 a3 a4 a5 a6 a7 s11_2) (.ret) (S5 2 43 [220, 230, 250, 100050, 100180] [(4, vb false)] [(220, m0 a1 a2), (230, m0 a3 a4), (250, .cell false (.ag [.v 100050 a6.length, v0 a5, .m 220, .m 230, .v 100180 a7.length])), (100050, w0 a6), (100180, w0 a7)]) :=
  ⟨{ an := [(4009, .found (some (vb e4.1, e4.2))), (4018, .pv (p1 e7)), (4025, .pv (p1 e10)), (4026, .call (.ret (vb r12)) [])], nv := [(2000, vb true), (4002, vb true), (4009, vb true), (4026, vb true)] }, [EB (decide (s11_2 < ((a6.length : Nat) : Int))) true, EB (!decide (s11_2 = a0)) true, mapFind (.i .i64 s11_2) (encM (PV.i .i64) (fun x => AV.pv (.b x)) a2) = some (some (vb e4.1, e4.2)), EB e4.1 true, 0 ≤ s11_2 ∧ s11_2 < ((a6.length : Nat) : Int), EG (p0 a6) ((s11_2.toNat : Nat) : Int) (p1 e7), s11_2.toNat * 71 = s11_2.toNat * 71 + 0, (p0 a6).len = a6.length, 0 ≤ a0 ∧ a0 < ((a6.length : Nat) : Int), EG (p0 a6) ((a0.toNat : Nat) : Int) (p1 e10), a0.toNat * 71 = a0.toNat * 71 + 0, (p0 a6).len = a6.length, Vd Try.prog 2 (.fn (.func 17) [] []) [v1 e7, v1 e10] [] (vb r12) [], EB r12 true], by kernel_rfl, (Ac (nv_b c1) (Ac (nv_b c2) (Ac (findM_some (fv := (fun x => AV.pv (.b x))) key_i64 c3) (Ac (nv_b c5) (Ac c6 (Ac (getI_okN c8 71 T_api_Op.enc) (Ac rfl (Ac (len_ok _ _ _) (Ac c9 (Ac (getI_okN c11 71 T_api_Op.enc) (Ac rfl (Ac (len_ok _ _ _) (Ac (order_Reads_valid c13 _) (Ac (nv_b c14) An))))))))))))))⟩
theorem order_sorter_free_2_l2_p2 {a0 : Int} {a1 : Nat} {a2 : List (Int × Bool × Nat)} {a3 : Nat} {a4 : List (Int × Bool × Nat)} {a5 : List T_api_Op} {a6 : List T_api_Op} {a7 : List T_api_Op} {s11_2 : Int} {e4 : Bool × Nat} {e7 : T_api_Op} {e10 : T_api_Op} {r12 : Bool} (c1 : (decide (s11_2 < ((a6.length : Nat) : Int))) = true) (c2 : (!decide (s11_2 = a0)) = true) (c3 : findM s11_2 a2 = some e4) (c5 : e4.1 = true) (c6 : 0 ≤ s11_2 ∧ s11_2 < ((a6.length : Nat) : Int)) (c8 : getI a6 s11_2 = some e7) (c9 : 0 ≤ a0 ∧ a0 < ((a6.length : Nat) : Int)) (c11 : getI a6 a0 = some e10) (c13 : order_Reads e7 e10 = some r12) (c14 : r12 = false) (c15 : in64 (s11_2 + 1)) : Step order_sorter_free_2_f2 (order_sorter_free_2_l2_h a0 a1 a2 a3 a4 a5 a6 a7 s11_2) (.normal) (S5 2 43 [220, 230, 250, 100050, 100180] [(0, .p 250 [] 0), (1, vi a0), (10, vi ((a6.length : Nat) : Int)), (11, vi (s11_2 + 1))] [(220, m0 a1 a2), (230, m0 a3 a4), (250, .cell false (.ag [.v 100050 a6.length, v0 a5, .m 220, .m 230, .v 100180 a7.length])), (100050, w0 a6), (100180, w0 a7)]) :=
  ⟨{ an := [(4009, .found (some (vb e4.1, e4.2))), (4018, .pv (p1 e7)), (4025, .pv (p1 e10)), (4026, .call (.ret (vb r12)) [])], nv := [(2000, vb true), (4002, vb true), (4009, vb true), (4026, vb false), (6000, vi (s11_2 + 1))] }, [EB (decide (s11_2 < ((a6.length : Nat) : Int))) true, EB (!decide (s11_2 = a0)) true, mapFind (.i .i64 s11_2) (encM (PV.i .i64) (fun x => AV.pv (.b x)) a2) = some (some (vb e4.1, e4.2)), EB e4.1 true, 0 ≤ s11_2 ∧ s11_2 < ((a6.length : Nat) : Int), EG (p0 a6) ((s11_2.toNat : Nat) : Int) (p1 e7), s11_2.toNat * 71 = s11_2.toNat * 71 + 0, (p0 a6).len = a6.length, 0 ≤ a0 ∧ a0 < ((a6.length : Nat) : Int), EG (p0 a6) ((a0.toNat : Nat) : Int) (p1 e10), a0.toNat * 71 = a0.toNat * 71 + 0, (p0 a6).len = a6.length, Vd Try.prog 2 (.fn (.func 17) [] []) [v1 e7, v1 e10] [] (vb r12) [], EB r12 false, EW (s11_2 + 1)], by kernel_rfl, (Ac (nv_b c1) (Ac (nv_b c2) (Ac (findM_some (fv := (fun x => AV.pv (.b x))) key_i64 c3) (Ac (nv_b c5) (Ac c6 (Ac (getI_okN c8 71 T_api_Op.enc) (Ac rfl (Ac (len_ok _ _ _) (Ac c9 (Ac (getI_okN c11 71 T_api_Op.enc) (Ac rfl (Ac (len_ok _ _ _) (Ac (order_Reads_valid c13 _) (Ac (nv_b c14) (Ac (nv_wrap c15) An)))))))))))))))⟩
theorem order_sorter_free_2_l2_p3 {a0 : Int} {a1 : Nat} {a2 : List (Int × Bool × Nat)} {a3 : Nat} {a4 : List (Int × Bool × Nat)} {a5 : List T_api_Op} {a6 : List T_api_Op} {a7 : List T_api_Op} {s11_2 : Int} {e4 : Bool × Nat} (c1 : (decide (s11_2 < ((a6.length : Nat) : Int))) = true) (c2 : (!decide (s11_2 = a0)) = true) (c3 : findM s11_2 a2 = some e4) (c5 : e4.1 = false) (c6 : in64 (s11_2 + 1)) : Step order_sorter_free_2_f2 (order_sorter_free_2_l2_h a0 a1 a2 a3 a4 a5 a6 a7 s11_2) (.normal) (S5 2 43 [220, 230, 250, 100050, 100180] [(0, .p 250 [] 0), (1, vi a0), (10, vi ((a6.length : Nat) : Int)), (11, vi (s11_2 + 1))] [(220, m0 a1 a2), (230, m0 a3 a4), (250, .cell false (.ag [.v 100050 a6.length, v0 a5, .m 220, .m 230, .v 100180 a7.length])), (100050, w0 a6), (100180, w0 a7)]) :=
  ⟨{ an := [(4009, .found (some (vb e4.1, e4.2)))], nv := [(2000, vb true), (4002, vb true), (4009, vb false), (6000, vi (s11_2 + 1))] }, [EB (decide (s11_2 < ((a6.length : Nat) : Int))) true, EB (!decide (s11_2 = a0)) true, mapFind (.i .i64 s11_2) (encM (PV.i .i64) (fun x => AV.pv (.b x)) a2) = some (some (vb e4.1, e4.2)), EB e4.1 false, EW (s11_2 + 1)], by kernel_rfl, (Ac (nv_b c1) (Ac (nv_b c2) (Ac (findM_some (fv := (fun x => AV.pv (.b x))) key_i64 c3) (Ac (nv_b c5) (Ac (nv_wrap c6) An)))))⟩
theorem order_sorter_free_2_l2_p4 {a0 : Int} {a1 : Nat} {a2 : List (Int × Bool × Nat)} {a3 : Nat} {a4 : List (Int × Bool × Nat)} {a5 : List T_api_Op} {a6 : List T_api_Op} {a7 : List T_api_Op} {s11_2 : Int} (c1 : (decide (s11_2 < ((a6.length : Nat) : Int))) = true) (c2 : (!decide (s11_2 = a0)) = false) (c3 : in64 (s11_2 + 1)) : Step order_sorter_free_2_f2 (order_sorter_free_2_l2_h a0 a1 a2 a3 a4 a5 a6 a7 s11_2) (.normal) (S5 2 43 [220, 230, 250, 100050, 100180] [(0, .p 250 [] 0), (1, vi a0), (10, vi ((a6.length : Nat) : Int)), (11, vi (s11_2 + 1))] [(220, m0 a1 a2), (230, m0 a3 a4), (250, .cell false (.ag [.v 100050 a6.length, v0 a5, .m 220, .m 230, .v 100180 a7.length])), (100050, w0 a6), (100180, w0 a7)]) :=
  ⟨{ nv := [(2000, vb true), (4002, vb false), (6000, vi (s11_2 + 1))] }, [EB (decide (s11_2 < ((a6.length : Nat) : Int))) true, EB (!decide (s11_2 = a0)) false, EW (s11_2 + 1)], by kernel_rfl, (Ac (nv_b c1) (Ac (nv_b c2) (Ac (nv_wrap c3) An)))⟩
theorem order_sorter_free_2_l2_p5 {a0 : Int} {a1 : Nat} {a2 : List (Int × Bool × Nat)} {a3 : Nat} {a4 : List (Int × Bool × Nat)} {a5 : List T_api_Op} {a6 : List T_api_Op} {a7 : List T_api_Op} {s11_2 : Int} (c1 : (decide (s11_2 < ((a6.length : Nat) : Int))) = false) : Step order_sorter_free_2_f2 (order_sorter_free_2_l2_h a0 a1 a2 a3 a4 a5 a6 a7 s11_2) (.exit 0) (S5 2 43 [220, 230, 250, 100050, 100180] [(0, .p 250 [] 0), (1, vi a0), (10, vi ((a6.length : Nat) : Int)), (11, vi s11_2), (12, vb false)] [(220, m0 a1 a2), (230, m0 a3 a4), (250, .cell false (.ag [.v 100050 a6.length, v0 a5, .m 220, .m 230, .v 100180 a7.length])), (100050, w0 a6), (100180, w0 a7)]) :=
  ⟨{ nv := [(2000, vb false)] }, [EB (decide (s11_2 < ((a6.length : Nat) : Int))) false], by kernel_rfl, (Ac (nv_b c1) An)⟩
theorem order_sorter_free_2_l2_ok {a0 : Int} {a1 : Nat} {a2 : List (Int × Bool × Nat)} {a3 : Nat} {a4 : List (Int × Bool × Nat)} {a5 : List T_api_Op} {a6 : List T_api_Op} {a7 : List T_api_Op} : ∀ {N : Nat} {s11_2 : Int} {z : Int ⊕ Unit}, order_sorter_free_2_l2 a0 a1 a2 a3 a4 a5 a6 a7 N s11_2 = some z → LoopP order_sorter_free_2_f2 (order_sorter_free_2_l2_h a0 a1 a2 a3 a4 a5 a6 a7 s11_2) (order_sorter_free_2_l2_e z) (order_sorter_free_2_l2_s a0 a1 a2 a3 a4 a5 a6 a7 z) := by
  intro N
  induction N with
  | zero => intro s11_2 z h; simp [order_sorter_free_2_l2] at h
  | succ N ih =>
    intro s11_2 z h
    change order_sorter_free_2_l2_f a0 a1 a2 a3 a4 a5 a6 a7 N (order_sorter_free_2_l2 a0 a1 a2 a3 a4 a5 a6 a7 N) s11_2 = some z at h
    unfold order_sorter_free_2_l2_f at h
    rcases cond_some h with ⟨c1, h⟩ | ⟨c1, h⟩
    · rcases cond_some h with ⟨c2, h⟩ | ⟨c2, h⟩
      · rcases optcase_some h with ⟨c3, h⟩ | ⟨e4, c3, h⟩
        · obtain ⟨c4, h⟩ := chk_some h
          exact Step.next (order_sorter_free_2_l2_p0 c1 c2 c3 c4) (ih h)
        · rcases cond_some h with ⟨c5, h⟩ | ⟨c5, h⟩
          · obtain ⟨c6, h⟩ := chk_some h
            obtain ⟨e7, c8, h⟩ := bind_some h
            obtain ⟨c9, h⟩ := chk_some h
            obtain ⟨e10, c11, h⟩ := bind_some h
            obtain ⟨r12, c13, h⟩ := bind_some h
            rcases cond_some h with ⟨c14, h⟩ | ⟨c14, h⟩
            · obtain rfl := Option.some.inj h
              exact Step.ret (order_sorter_free_2_l2_p1 c1 c2 c3 c5 c6 c8 c9 c11 c13 c14)
            · obtain ⟨c15, h⟩ := chk_some h
              exact Step.next (order_sorter_free_2_l2_p2 c1 c2 c3 c5 c6 c8 c9 c11 c13 c14 c15) (ih h)
          · obtain ⟨c6, h⟩ := chk_some h
            exact Step.next (order_sorter_free_2_l2_p3 c1 c2 c3 c5 c6) (ih h)
      · obtain ⟨c3, h⟩ := chk_some h
        exact Step.next (order_sorter_free_2_l2_p4 c1 c2 c3) (ih h)
    · obtain rfl := Option.some.inj h
      exact Step.exit (order_sorter_free_2_l2_p5 c1)
def order_sorter_free_2 (N : Nat) (a0 : Int) (a1 : Nat) (a2 : List (Int × Bool × Nat)) (a3 : Nat) (a4 : List (Int × Bool × Nat)) (a5 : List T_api_Op) (a6 : List T_api_Op) (a7 : List T_api_Op) : Option (Bool) :=
  (order_sorter_free_2_l2 a0 a1 a2 a3 a4 a5 a6 a7 N 0).bind fun z1 => match z1 with
  | .inl z2 =>
    some true
  | .inr z2 =>
    some false
theorem order_sorter_free_2_p0 {N : Nat} {a0 : Int} {a1 : Nat} {a2 : List (Int × Bool × Nat)} {a3 : Nat} {a4 : List (Int × Bool × Nat)} {a5 : List T_api_Op} {a6 : List T_api_Op} {a7 : List T_api_Op} {z2 : Int} (c3 : order_sorter_free_2_l2 a0 a1 a2 a3 a4 a5 a6 a7 N 0 = some (.inl z2)) (l : Nat) : Vd Try.prog l (.fn (.func 21) [.p 250 [] 0] []) [vi a0] [(220, m0 a1 a2), (230, m0 a3 a4), (250, .cell false (.ag [.v 100050 a6.length, v0 a5, .m 220, .m 230, .v 100180 a7.length])), (100050, w0 a6), (100180, w0 a7)] (vb true) [(220, m0 a1 a2), (230, m0 a3 a4), (250, .cell false (.ag [.v 100050 a6.length, v0 a5, .m 220, .m 230, .v 100180 a7.length])), (100050, w0 a6), (100180, w0 a7)] :=
  Try_vf21 (hn := order_sorter_free_2_hn) (lvl := 1) (O := { lo := [(2, .exit 0, S5 2 43 [220, 230, 250, 100050, 100180] [(0, .p 250 [] 0), (1, vi a0), (10, vi ((a6.length : Nat) : Int)), (11, vi z2), (12, vb false)] [(220, m0 a1 a2), (230, m0 a3 a4), (250, .cell false (.ag [.v 100050 a6.length, v0 a5, .m 220, .m 230, .v 100180 a7.length])), (100050, w0 a6), (100180, w0 a7)])] }) (ps := [LoopP order_sorter_free_2_f2 (S5 2 43 [220, 230, 250, 100050, 100180] [(0, .p 250 [] 0), (1, vi a0), (10, vi ((a6.length : Nat) : Int)), (11, vi 0)] [(220, m0 a1 a2), (230, m0 a3 a4), (250, .cell false (.ag [.v 100050 a6.length, v0 a5, .m 220, .m 230, .v 100180 a7.length])), (100050, w0 a6), (100180, w0 a7)]) (.exit 0) (S5 2 43 [220, 230, 250, 100050, 100180] [(0, .p 250 [] 0), (1, vi a0), (10, vi ((a6.length : Nat) : Int)), (11, vi z2), (12, vb false)] [(220, m0 a1 a2), (230, m0 a3 a4), (250, .cell false (.ag [.v 100050 a6.length, v0 a5, .m 220, .m 230, .v 100180 a7.length])), (100050, w0 a6), (100180, w0 a7)])]) (by kernel_rfl) (Ac (order_sorter_free_2_l2_ok c3) An) l
theorem order_sorter_free_2_p1 {N : Nat} {a0 : Int} {a1 : Nat} {a2 : List (Int × Bool × Nat)} {a3 : Nat} {a4 : List (Int × Bool × Nat)} {a5 : List T_api_Op} {a6 : List T_api_Op} {a7 : List T_api_Op} {z2 : Unit} (c3 : order_sorter_free_2_l2 a0 a1 a2 a3 a4 a5 a6 a7 N 0 = some (.inr z2)) (l : Nat) : Vd Try.prog l (.fn (.func 21) [.p 250 [] 0] []) [vi a0] [(220, m0 a1 a2), (230, m0 a3 a4), (250, .cell false (.ag [.v 100050 a6.length, v0 a5, .m 220, .m 230, .v 100180 a7.length])), (100050, w0 a6), (100180, w0 a7)] (vb false) [(220, m0 a1 a2), (230, m0 a3 a4), (250, .cell false (.ag [.v 100050 a6.length, v0 a5, .m 220, .m 230, .v 100180 a7.length])), (100050, w0 a6), (100180, w0 a7)] :=
  Try_vf21 (hn := order_sorter_free_2_hn) (lvl := 1) (O := { lo := [(2, .ret, S5 2 43 [220, 230, 250, 100050, 100180] [(4, vb false)] [(220, m0 a1 a2), (230, m0 a3 a4), (250, .cell false (.ag [.v 100050 a6.length, v0 a5, .m 220, .m 230, .v 100180 a7.length])), (100050, w0 a6), (100180, w0 a7)])] }) (ps := [LoopP order_sorter_free_2_f2 (S5 2 43 [220, 230, 250, 100050, 100180] [(0, .p 250 [] 0), (1, vi a0), (10, vi ((a6.length : Nat) : Int)), (11, vi 0)] [(220, m0 a1 a2), (230, m0 a3 a4), (250, .cell false (.ag [.v 100050 a6.length, v0 a5, .m 220, .m 230, .v 100180 a7.length])), (100050, w0 a6), (100180, w0 a7)]) (.ret) (S5 2 43 [220, 230, 250, 100050, 100180] [(4, vb false)] [(220, m0 a1 a2), (230, m0 a3 a4), (250, .cell false (.ag [.v 100050 a6.length, v0 a5, .m 220, .m 230, .v 100180 a7.length])), (100050, w0 a6), (100180, w0 a7)])]) (by kernel_rfl) (Ac (order_sorter_free_2_l2_ok c3) An) l
theorem order_sorter_free_2_valid {N : Nat} {a0 : Int} {a1 : Nat} {a2 : List (Int × Bool × Nat)} {a3 : Nat} {a4 : List (Int × Bool × Nat)} {a5 : List T_api_Op} {a6 : List T_api_Op} {a7 : List T_api_Op} {z : Bool} (h : order_sorter_free_2 N a0 a1 a2 a3 a4 a5 a6 a7 = some z) (l : Nat) : Vd Try.prog l (.fn (.func 21) [.p 250 [] 0] []) [vi a0] [(220, m0 a1 a2), (230, m0 a3 a4), (250, .cell false (.ag [.v 100050 a6.length, v0 a5, .m 220, .m 230, .v 100180 a7.length])), (100050, w0 a6), (100180, w0 a7)] (vb z) [(220, m0 a1 a2), (230, m0 a3 a4), (250, .cell false (.ag [.v 100050 a6.length, v0 a5, .m 220, .m 230, .v 100180 a7.length])), (100050, w0 a6), (100180, w0 a7)] := by
  unfold order_sorter_free_2 at h
  obtain ⟨z1, c3, h⟩ := bind_some h
  rcases z1 with z2 | z2 <;> dsimp only at h
  · obtain rfl := Option.some.inj h
    exact order_sorter_free_2_p0 c3 l
  · obtain rfl := Option.some.inj h
    exact order_sorter_free_2_p1 c3 l
def order_sorter_first_4_hn : Hint where
  live := fun _ r => match r with
    | 0 => [0, 1]
    | 1 => [0, 1, 11, 12]
    | 2 => [0, 1, 11, 12, 13]
    | 3 => [0, 1, 6, 11, 12]
    | 4 => [0, 1, 6, 11, 12, 25]
    | 5 => [4, 5]
    | 6 => [0, 1, 11, 12]
    | 7 => [4, 5]
    | _ => []
  esc := fun _ => false
  raw := fun k => false
  fresh := fun _ d => false
  vecs := fun _ d => false
noncomputable def order_sorter_first_4_f2 := codeO Try.prog order_sorter_first_4_hn (Valid Try.prog) 20 Try_c20_2
def order_sorter_first_4_l2_e : Int ⊕ Int → Ex
  | .inl _ => .exit 0
  | .inr _ => .ret
def order_sorter_first_4_l2_s (a0 : Nat) (a1 : List (Int × Bool × Nat)) (a2 : Nat) (a3 : List (Int × Bool × Nat)) (a4 : List T_api_Op) (a5 : List T_api_Op) (a6 : List T_api_Op) : Int ⊕ Int → St
  | .inl z => S5 1 28 [220, 230, 250, 100050, 100180] [(0, .p 250 [] 0), (1, .fn (.func 21) [.p 250 [] 0] []), (11, vi ((a5.length : Nat) : Int)), (12, vi z), (13, vb false)] [(220, m0 a0 a1), (230, m0 a2 a3), (250, .cell false (.ag [.v 100050 a5.length, v0 a4, .m 220, .m 230, .v 100180 a6.length])), (100050, w0 a5), (100180, w0 a6)]
  | .inr z => S5 1 28 [220, 230, 250, 100050, 100180] [(4, vi z), (5, vb true)] [(220, m0 a0 a1), (230, m0 a2 a3), (250, .cell false (.ag [.v 100050 a5.length, v0 a4, .m 220, .m 230, .v 100180 a6.length])), (100050, w0 a5), (100180, w0 a6)]
def order_sorter_first_4_l2_h (a0 : Nat) (a1 : List (Int × Bool × Nat)) (a2 : Nat) (a3 : List (Int × Bool × Nat)) (a4 : List T_api_Op) (a5 : List T_api_Op) (a6 : List T_api_Op) (s12_2 : Int) : St := S5 1 28 [220, 230, 250, 100050, 100180] [(0, .p 250 [] 0), (1, .fn (.func 21) [.p 250 [] 0] []), (11, vi ((a5.length : Nat) : Int)), (12, vi s12_2)] [(220, m0 a0 a1), (230, m0 a2 a3), (250, .cell false (.ag [.v 100050 a5.length, v0 a4, .m 220, .m 230, .v 100180 a6.length])), (100050, w0 a5), (100180, w0 a6)]
def order_sorter_first_4_l2_f (a0 : Nat) (a1 : List (Int × Bool × Nat)) (a2 : Nat) (a3 : List (Int × Bool × Nat)) (a4 : List T_api_Op) (a5 : List T_api_Op) (a6 : List T_api_Op) (N : Nat) (ih : Int → Option (Int ⊕ Int)) (s12_2 : Int) : Option (Int ⊕ Int) :=
    cond (decide (s12_2 < ((a5.length : Nat) : Int))) (
      optcase (findM s12_2 a1) (
        chk (in64 (s12_2 + 1)) <|
        ih (s12_2 + 1)) fun e3 =>
        cond (e3.1) (
          (order_sorter_free_2 N s12_2 a0 a1 a2 a3 a4 a5 a6).bind fun r5 =>
          cond (r5) (
            some (.inr s12_2)) (
            chk (in64 (s12_2 + 1)) <|
            ih (s12_2 + 1))) (
          chk (in64 (s12_2 + 1)) <|
          ih (s12_2 + 1))) (
      some (.inl s12_2))
def order_sorter_first_4_l2 (a0 : Nat) (a1 : List (Int × Bool × Nat)) (a2 : Nat) (a3 : List (Int × Bool × Nat)) (a4 : List T_api_Op) (a5 : List T_api_Op) (a6 : List T_api_Op) : Nat → Int → Option (Int ⊕ Int)
  | 0 => fun _ => none
  | N + 1 => order_sorter_first_4_l2_f a0 a1 a2 a3 a4 a5 a6 N (order_sorter_first_4_l2 a0 a1 a2 a3 a4 a5 a6 N)
theorem order_sorter_first_4_l2_p0 {a0 : Nat} {a1 : List (Int × Bool × Nat)} {a2 : Nat} {a3 : List (Int × Bool × Nat)} {a4 : List T_api_Op} {a5 : List T_api_Op} {a6 : List T_api_Op} {s12_2 : Int} (c1 : (decide (s12_2 < ((a5.length : Nat) : Int))) = true) (c2 : findM s12_2 a1 = none) (c3 : in64 (s12_2 + 1)) : Step order_sorter_first_4_f2 (order_sorter_first_4_l2_h a0 a1 a2 a3 a4 a5 a6 s12_2) (.normal) (S5 1 28 [220, 230, 250, 100050, 100180] [(0, .p 250 [] 0), (1, .fn (.func 21) [.p 250 [] 0] []), (11, vi ((a5.length : Nat) : Int)), (12, vi (s12_2 + 1))] [(220, m0 a0 a1), (230, m0 a2 a3), (250, .cell false (.ag [.v 100050 a5.length, v0 a4, .m 220, .m 230, .v 100180 a6.length])), (100050, w0 a5), (100180, w0 a6)]) :=
  ⟨{ an := [(4005, .found none)], nv := [(2000, vb true), (6000, vi (s12_2 + 1))] }, [EB (decide (s12_2 < ((a5.length : Nat) : Int))) true, mapFind (.i .i64 s12_2) (encM (PV.i .i64) (fun x => AV.pv (.b x)) a1) = some none, EW (s12_2 + 1)], by kernel_rfl, (Ac (nv_b c1) (Ac (findM_none (fv := (fun x => AV.pv (.b x))) key_i64 c2) (Ac (nv_wrap c3) An)))⟩
theorem order_sorter_first_4_l2_p1 {N : Nat} {a0 : Nat} {a1 : List (Int × Bool × Nat)} {a2 : Nat} {a3 : List (Int × Bool × Nat)} {a4 : List T_api_Op} {a5 : List T_api_Op} {a6 : List T_api_Op} {s12_2 : Int} {e3 : Bool × Nat} {r5 : Bool} (c1 : (decide (s12_2 < ((a5.length : Nat) : Int))) = true) (c2 : findM s12_2 a1 = some e3) (c4 : e3.1 = true) (c6 : order_sorter_free_2 N s12_2 a0 a1 a2 a3 a4 a5 a6 = some r5) (c7 : r5 = true) : Step order_sorter_first_4_f2 (order_sorter_first_4_l2_h a0 a1 a2 a3 a4 a5 a6 s12_2) (.ret) (S5 1 28 [220, 230, 250, 100050, 100180] [(4, vi s12_2), (5, vb true)] [(220, m0 a0 a1), (230, m0 a2 a3), (250, .cell false (.ag [.v 100050 a5.length, v0 a4, .m 220, .m 230, .v 100180 a6.length])), (100050, w0 a5), (100180, w0 a6)]) :=
  ⟨{ an := [(4005, .found (some (vb e3.1, e3.2))), (4009, .call (.ret (vb r5)) [(220, m0 a0 a1), (230, m0 a2 a3), (250, .cell false (.ag [.v 100050 a5.length, v0 a4, .m 220, .m 230, .v 100180 a6.length])), (100050, w0 a5), (100180, w0 a6)])], nv := [(2000, vb true), (4005, vb true), (4009, vb true)] }, [EB (decide (s12_2 < ((a5.length : Nat) : Int))) true, mapFind (.i .i64 s12_2) (encM (PV.i .i64) (fun x => AV.pv (.b x)) a1) = some (some (vb e3.1, e3.2)), EB e3.1 true, Vd Try.prog 1 (.fn (.func 21) [.p 250 [] 0] []) [vi s12_2] [(220, m0 a0 a1), (230, m0 a2 a3), (250, .cell false (.ag [.v 100050 a5.length, v0 a4, .m 220, .m 230, .v 100180 a6.length])), (100050, w0 a5), (100180, w0 a6)] (vb r5) [(220, m0 a0 a1), (230, m0 a2 a3), (250, .cell false (.ag [.v 100050 a5.length, v0 a4, .m 220, .m 230, .v 100180 a6.length])), (100050, w0 a5), (100180, w0 a6)], EB r5 true], by kernel_rfl, (Ac (nv_b c1) (Ac (findM_some (fv := (fun x => AV.pv (.b x))) key_i64 c2) (Ac (nv_b c4) (Ac (order_sorter_free_2_valid c6 _) (Ac (nv_b c7) An)))))⟩
theorem order_sorter_first_4_l2_p2 {N : Nat} {a0 : Nat} {a1 : List (Int × Bool × Nat)} {a2 : Nat} {a3 : List (Int × Bool × Nat)} {a4 : List T_api_Op} {a5 : List T_api_Op} {a6 : List T_api_Op} {s12_2 : Int} {e3 : Bool × Nat} {r5 : Bool} (c1 : (decide (s12_2 < ((a5.length : Nat) : Int))) = true) (c2 : findM s12_2 a1 = some e3) (c4 : e3.1 = true) (c6 : order_sorter_free_2 N s12_2 a0 a1 a2 a3 a4 a5 a6 = some r5) (c7 : r5 = false) (c8 : in64 (s12_2 + 1)) : Step order_sorter_first_4_f2 (order_sorter_first_4_l2_h a0 a1 a2 a3 a4 a5 a6 s12_2) (.normal) (S5 1 28 [220, 230, 250, 100050, 100180] [(0, .p 250 [] 0), (1, .fn (.func 21) [.p 250 [] 0] []), (11, vi ((a5.length : Nat) : Int)), (12, vi (s12_2 + 1))] [(220, m0 a0 a1), (230, m0 a2 a3), (250, .cell false (.ag [.v 100050 a5.length, v0 a4, .m 220, .m 230, .v 100180 a6.length])), (100050, w0 a5), (100180, w0 a6)]) :=
  ⟨{ an := [(4005, .found (some (vb e3.1, e3.2))), (4009, .call (.ret (vb r5)) [(220, m0 a0 a1), (230, m0 a2 a3), (250, .cell false (.ag [.v 100050 a5.length, v0 a4, .m 220, .m 230, .v 100180 a6.length])), (100050, w0 a5), (100180, w0 a6)])], nv := [(2000, vb true), (4005, vb true), (4009, vb false), (6000, vi (s12_2 + 1))] }, [EB (decide (s12_2 < ((a5.length : Nat) : Int))) true, mapFind (.i .i64 s12_2) (encM (PV.i .i64) (fun x => AV.pv (.b x)) a1) = some (some (vb e3.1, e3.2)), EB e3.1 true, Vd Try.prog 1 (.fn (.func 21) [.p 250 [] 0] []) [vi s12_2] [(220, m0 a0 a1), (230, m0 a2 a3), (250, .cell false (.ag [.v 100050 a5.length, v0 a4, .m 220, .m 230, .v 100180 a6.length])), (100050, w0 a5), (100180, w0 a6)] (vb r5) [(220, m0 a0 a1), (230, m0 a2 a3), (250, .cell false (.ag [.v 100050 a5.length, v0 a4, .m 220, .m 230, .v 100180 a6.length])), (100050, w0 a5), (100180, w0 a6)], EB r5 false, EW (s12_2 + 1)], by kernel_rfl, (Ac (nv_b c1) (Ac (findM_some (fv := (fun x => AV.pv (.b x))) key_i64 c2) (Ac (nv_b c4) (Ac (order_sorter_free_2_valid c6 _) (Ac (nv_b c7) (Ac (nv_wrap c8) An))))))⟩
theorem order_sorter_first_4_l2_p3 {a0 : Nat} {a1 : List (Int × Bool × Nat)} {a2 : Nat} {a3 : List (Int × Bool × Nat)} {a4 : List T_api_Op} {a5 : List T_api_Op} {a6 : List T_api_Op} {s12_2 : Int} {e3 : Bool × Nat} (c1 : (decide (s12_2 < ((a5.length : Nat) : Int))) = true) (c2 : findM s12_2 a1 = some e3) (c4 : e3.1 = false) (c5 : in64 (s12_2 + 1)) : Step order_sorter_first_4_f2 (order_sorter_first_4_l2_h a0 a1 a2 a3 a4 a5 a6 s12_2) (.normal) (S5 1 28 [220, 230, 250, 100050, 100180] [(0, .p 250 [] 0), (1, .fn (.func 21) [.p 250 [] 0] []), (11, vi ((a5.length : Nat) : Int)), (12, vi (s12_2 + 1))] [(220, m0 a0 a1), (230, m0 a2 a3), (250, .cell false (.ag [.v 100050 a5.length, v0 a4, .m 220, .m 230, .v 100180 a6.length])), (100050, w0 a5), (100180, w0 a6)]) :=
  ⟨{ an := [(4005, .found (some (vb e3.1, e3.2)))], nv := [(2000, vb true), (4005, vb false), (6000, vi (s12_2 + 1))] }, [EB (decide (s12_2 < ((a5.length : Nat) : Int))) true, mapFind (.i .i64 s12_2) (encM (PV.i .i64) (fun x => AV.pv (.b x)) a1) = some (some (vb e3.1, e3.2)), EB e3.1 false, EW (s12_2 + 1)], by kernel_rfl, (Ac (nv_b c1) (Ac (findM_some (fv := (fun x => AV.pv (.b x))) key_i64 c2) (Ac (nv_b c4) (Ac (nv_wrap c5) An))))⟩
theorem order_sorter_first_4_l2_p4 {a0 : Nat} {a1 : List (Int × Bool × Nat)} {a2 : Nat} {a3 : List (Int × Bool × Nat)} {a4 : List T_api_Op} {a5 : List T_api_Op} {a6 : List T_api_Op} {s12_2 : Int} (c1 : (decide (s12_2 < ((a5.length : Nat) : Int))) = false) : Step order_sorter_first_4_f2 (order_sorter_first_4_l2_h a0 a1 a2 a3 a4 a5 a6 s12_2) (.exit 0) (S5 1 28 [220, 230, 250, 100050, 100180] [(0, .p 250 [] 0), (1, .fn (.func 21) [.p 250 [] 0] []), (11, vi ((a5.length : Nat) : Int)), (12, vi s12_2), (13, vb false)] [(220, m0 a0 a1), (230, m0 a2 a3), (250, .cell false (.ag [.v 100050 a5.length, v0 a4, .m 220, .m 230, .v 100180 a6.length])), (100050, w0 a5), (100180, w0 a6)]) :=
  ⟨{ nv := [(2000, vb false)] }, [EB (decide (s12_2 < ((a5.length : Nat) : Int))) false], by kernel_rfl, (Ac (nv_b c1) An)⟩
theorem order_sorter_first_4_l2_ok {a0 : Nat} {a1 : List (Int × Bool × Nat)} {a2 : Nat} {a3 : List (Int × Bool × Nat)} {a4 : List T_api_Op} {a5 : List T_api_Op} {a6 : List T_api_Op} : ∀ {N : Nat} {s12_2 : Int} {z : Int ⊕ Int}, order_sorter_first_4_l2 a0 a1 a2 a3 a4 a5 a6 N s12_2 = some z → LoopP order_sorter_first_4_f2 (order_sorter_first_4_l2_h a0 a1 a2 a3 a4 a5 a6 s12_2) (order_sorter_first_4_l2_e z) (order_sorter_first_4_l2_s a0 a1 a2 a3 a4 a5 a6 z) := by
  intro N
  induction N with
  | zero => intro s12_2 z h; simp [order_sorter_first_4_l2] at h
  | succ N ih =>
    intro s12_2 z h
    change order_sorter_first_4_l2_f a0 a1 a2 a3 a4 a5 a6 N (order_sorter_first_4_l2 a0 a1 a2 a3 a4 a5 a6 N) s12_2 = some z at h
    unfold order_sorter_first_4_l2_f at h
    rcases cond_some h with ⟨c1, h⟩ | ⟨c1, h⟩
    · rcases optcase_some h with ⟨c2, h⟩ | ⟨e3, c2, h⟩
      · obtain ⟨c3, h⟩ := chk_some h
        exact Step.next (order_sorter_first_4_l2_p0 c1 c2 c3) (ih h)
      · rcases cond_some h with ⟨c4, h⟩ | ⟨c4, h⟩
        · obtain ⟨r5, c6, h⟩ := bind_some h
          rcases cond_some h with ⟨c7, h⟩ | ⟨c7, h⟩
          · obtain rfl := Option.some.inj h
            exact Step.ret (order_sorter_first_4_l2_p1 c1 c2 c4 c6 c7)
          · obtain ⟨c8, h⟩ := chk_some h
            exact Step.next (order_sorter_first_4_l2_p2 c1 c2 c4 c6 c7 c8) (ih h)
        · obtain ⟨c5, h⟩ := chk_some h
          exact Step.next (order_sorter_first_4_l2_p3 c1 c2 c4 c5) (ih h)
    · obtain rfl := Option.some.inj h
      exact Step.exit (order_sorter_first_4_l2_p4 c1)
def order_sorter_first_4 (N : Nat) (a0 : Nat) (a1 : List (Int × Bool × Nat)) (a2 : Nat) (a3 : List (Int × Bool × Nat)) (a4 : List T_api_Op) (a5 : List T_api_Op) (a6 : List T_api_Op) : Option (Int × Bool) :=
  (order_sorter_first_4_l2 a0 a1 a2 a3 a4 a5 a6 N 0).bind fun z1 => match z1 with
  | .inl z2 =>
    some (0, false)
  | .inr z2 =>
    some (z2, true)
theorem order_sorter_first_4_p0 {N : Nat} {a0 : Nat} {a1 : List (Int × Bool × Nat)} {a2 : Nat} {a3 : List (Int × Bool × Nat)} {a4 : List T_api_Op} {a5 : List T_api_Op} {a6 : List T_api_Op} {z2 : Int} (c3 : order_sorter_first_4_l2 a0 a1 a2 a3 a4 a5 a6 N 0 = some (.inl z2)) (l : Nat) : Vd Try.prog l (.fn (.func 20) [] []) [.p 250 [] 0, .fn (.func 21) [.p 250 [] 0] []] [(220, m0 a0 a1), (230, m0 a2 a3), (250, .cell false (.ag [.v 100050 a5.length, v0 a4, .m 220, .m 230, .v 100180 a6.length])), (100050, w0 a5), (100180, w0 a6)] (.tup [vi 0, vb false]) [(220, m0 a0 a1), (230, m0 a2 a3), (250, .cell false (.ag [.v 100050 a5.length, v0 a4, .m 220, .m 230, .v 100180 a6.length])), (100050, w0 a5), (100180, w0 a6)] :=
  Try_vf20 (hn := order_sorter_first_4_hn) (lvl := 0) (O := { lo := [(2, .exit 0, S5 1 28 [220, 230, 250, 100050, 100180] [(0, .p 250 [] 0), (1, .fn (.func 21) [.p 250 [] 0] []), (11, vi ((a5.length : Nat) : Int)), (12, vi z2), (13, vb false)] [(220, m0 a0 a1), (230, m0 a2 a3), (250, .cell false (.ag [.v 100050 a5.length, v0 a4, .m 220, .m 230, .v 100180 a6.length])), (100050, w0 a5), (100180, w0 a6)])] }) (ps := [LoopP order_sorter_first_4_f2 (S5 1 28 [220, 230, 250, 100050, 100180] [(0, .p 250 [] 0), (1, .fn (.func 21) [.p 250 [] 0] []), (11, vi ((a5.length : Nat) : Int)), (12, vi 0)] [(220, m0 a0 a1), (230, m0 a2 a3), (250, .cell false (.ag [.v 100050 a5.length, v0 a4, .m 220, .m 230, .v 100180 a6.length])), (100050, w0 a5), (100180, w0 a6)]) (.exit 0) (S5 1 28 [220, 230, 250, 100050, 100180] [(0, .p 250 [] 0), (1, .fn (.func 21) [.p 250 [] 0] []), (11, vi ((a5.length : Nat) : Int)), (12, vi z2), (13, vb false)] [(220, m0 a0 a1), (230, m0 a2 a3), (250, .cell false (.ag [.v 100050 a5.length, v0 a4, .m 220, .m 230, .v 100180 a6.length])), (100050, w0 a5), (100180, w0 a6)])]) (by kernel_rfl) (Ac (order_sorter_first_4_l2_ok c3) An) l
theorem order_sorter_first_4_p1 {N : Nat} {a0 : Nat} {a1 : List (Int × Bool × Nat)} {a2 : Nat} {a3 : List (Int × Bool × Nat)} {a4 : List T_api_Op} {a5 : List T_api_Op} {a6 : List T_api_Op} {z2 : Int} (c3 : order_sorter_first_4_l2 a0 a1 a2 a3 a4 a5 a6 N 0 = some (.inr z2)) (l : Nat) : Vd Try.prog l (.fn (.func 20) [] []) [.p 250 [] 0, .fn (.func 21) [.p 250 [] 0] []] [(220, m0 a0 a1), (230, m0 a2 a3), (250, .cell false (.ag [.v 100050 a5.length, v0 a4, .m 220, .m 230, .v 100180 a6.length])), (100050, w0 a5), (100180, w0 a6)] (.tup [vi z2, vb true]) [(220, m0 a0 a1), (230, m0 a2 a3), (250, .cell false (.ag [.v 100050 a5.length, v0 a4, .m 220, .m 230, .v 100180 a6.length])), (100050, w0 a5), (100180, w0 a6)] :=
  Try_vf20 (hn := order_sorter_first_4_hn) (lvl := 0) (O := { lo := [(2, .ret, S5 1 28 [220, 230, 250, 100050, 100180] [(4, vi z2), (5, vb true)] [(220, m0 a0 a1), (230, m0 a2 a3), (250, .cell false (.ag [.v 100050 a5.length, v0 a4, .m 220, .m 230, .v 100180 a6.length])), (100050, w0 a5), (100180, w0 a6)])] }) (ps := [LoopP order_sorter_first_4_f2 (S5 1 28 [220, 230, 250, 100050, 100180] [(0, .p 250 [] 0), (1, .fn (.func 21) [.p 250 [] 0] []), (11, vi ((a5.length : Nat) : Int)), (12, vi 0)] [(220, m0 a0 a1), (230, m0 a2 a3), (250, .cell false (.ag [.v 100050 a5.length, v0 a4, .m 220, .m 230, .v 100180 a6.length])), (100050, w0 a5), (100180, w0 a6)]) (.ret) (S5 1 28 [220, 230, 250, 100050, 100180] [(4, vi z2), (5, vb true)] [(220, m0 a0 a1), (230, m0 a2 a3), (250, .cell false (.ag [.v 100050 a5.length, v0 a4, .m 220, .m 230, .v 100180 a6.length])), (100050, w0 a5), (100180, w0 a6)])]) (by kernel_rfl) (Ac (order_sorter_first_4_l2_ok c3) An) l
theorem order_sorter_first_4_valid {N : Nat} {a0 : Nat} {a1 : List (Int × Bool × Nat)} {a2 : Nat} {a3 : List (Int × Bool × Nat)} {a4 : List T_api_Op} {a5 : List T_api_Op} {a6 : List T_api_Op} {z : Int × Bool} (h : order_sorter_first_4 N a0 a1 a2 a3 a4 a5 a6 = some z) (l : Nat) : Vd Try.prog l (.fn (.func 20) [] []) [.p 250 [] 0, .fn (.func 21) [.p 250 [] 0] []] [(220, m0 a0 a1), (230, m0 a2 a3), (250, .cell false (.ag [.v 100050 a5.length, v0 a4, .m 220, .m 230, .v 100180 a6.length])), (100050, w0 a5), (100180, w0 a6)] (.tup [vi z.1, vb z.2]) [(220, m0 a0 a1), (230, m0 a2 a3), (250, .cell false (.ag [.v 100050 a5.length, v0 a4, .m 220, .m 230, .v 100180 a6.length])), (100050, w0 a5), (100180, w0 a6)] := by
  unfold order_sorter_first_4 at h
  obtain ⟨z1, c3, h⟩ := bind_some h
  rcases z1 with z2 | z2 <;> dsimp only at h
  · obtain rfl := Option.some.inj h
    exact order_sorter_first_4_p0 c3 l
  · obtain rfl := Option.some.inj h
    exact order_sorter_first_4_p1 c3 l
def order_sorter_next_2_hn : Hint where
  live := fun _ r => match r with
    | 0 => [0, 1]
    | _ => []
  esc := fun _ => false
  raw := fun k => false
  fresh := fun _ d => false
  vecs := fun _ d => false
def order_sorter_next_2 (a0 : Int) (a1 : Nat) (a2 : List (Int × Bool × Nat)) (a3 : Nat) (a4 : List (Int × Bool × Nat)) (a5 : List T_api_Op) (a6 : List T_api_Op) (a7 : List T_api_Op) : Option (List T_api_Op) :=
  chk (0 ≤ a0 ∧ a0 < ((a6.length : Nat) : Int)) <|
  (getI a6 a0).bind fun e2 =>
  (order_own e2).bind fun r4 =>
  chk (capOK (a7 ++ [e2]).length 144) <|
  some (a7 ++ [e2])
theorem order_sorter_next_2_p0 {a0 : Int} {a1 : Nat} {a2 : List (Int × Bool × Nat)} {a3 : Nat} {a4 : List (Int × Bool × Nat)} {a5 : List T_api_Op} {a6 : List T_api_Op} {a7 : List T_api_Op} {e2 : T_api_Op} {r4 : Unit} (c1 : 0 ≤ a0 ∧ a0 < ((a6.length : Nat) : Int)) (c3 : getI a6 a0 = some e2) (c5 : order_own e2 = some r4) (c6 : capOK (a7 ++ [e2]).length 144) (l : Nat) : Vd Try.prog l (.fn (.func 22) [] []) [.p 250 [] 0, vi a0] [(220, m0 a1 a2), (230, m0 a3 a4), (250, .cell false (.ag [.v 100050 a6.length, v0 a5, .m 220, .m 230, .v 100180 a7.length])), (100050, w0 a6), (100180, w0 a7)] (.tup []) [(220, m0 a1 (delM a0 a2)), (230, m0 a3 a4), (250, .cell false (.ag [.v 100050 a6.length, v0 a5, .m 220, .m 230, .v 100180 ((a7 ++ [e2]).length)])), (100050, w0 a6), (100180, w0 (a7 ++ [e2]))] :=
  Try_vf22 (hn := order_sorter_next_2_hn) (lvl := 0) (O := { an := [(11, .pv (p1 e2)), (12, .call (.ret (v1 e2)) []), (1005, .ents 0 (encM (PV.i .i64) (fun x => AV.pv (.b x)) (delM a0 a2)))], nv := [(14, .v 100180 ((a7 ++ [e2]).length))], no := [(14, 100180, w0 (a7 ++ [e2]))] }) (ps := [0 ≤ a0 ∧ a0 < ((a6.length : Nat) : Int), EG (p0 a6) ((a0.toNat : Nat) : Int) (p1 e2), a0.toNat * 71 = a0.toNat * 71 + 0, (p0 a6).len = a6.length, Vd Try.prog 1 (.fn (.func 28) [] []) [v1 e2] [] (v1 e2) [], (p0 a7).len = a7.length, (PV.l 71 ((a7).map T_api_Op.enc ++ ([e2]).map T_api_Op.enc)).len * 144 ≤ 140737488355328, AObj.vec false 71 (.l 71 ((a7).map T_api_Op.enc ++ ([e2]).map T_api_Op.enc)) = w0 (a7 ++ [e2]), AV.v 100180 ((a7).map T_api_Op.enc ++ ([e2]).map T_api_Op.enc).length = AV.v 100180 ((a7 ++ [e2]).length), mapDel (.i .i64 a0) (encM (PV.i .i64) (fun x => AV.pv (.b x)) a2) = some (encM (PV.i .i64) (fun x => AV.pv (.b x)) (delM a0 a2))]) (by kernel_rfl) (Ac c1 (Ac (getI_okN c3 71 T_api_Op.enc) (Ac rfl (Ac (len_ok _ _ _) (Ac (order_own_valid c5 _) (Ac (len_ok _ _ _) (Ac (len_le2 c6) (Ac (ob_app _ _ _ _ _) (Ac (nv_app _ _ _ _) (Ac (delM_ok (fv := (fun x => AV.pv (.b x))) key_i64 _ _) An)))))))))) l
theorem order_sorter_next_2_valid {a0 : Int} {a1 : Nat} {a2 : List (Int × Bool × Nat)} {a3 : Nat} {a4 : List (Int × Bool × Nat)} {a5 : List T_api_Op} {a6 : List T_api_Op} {a7 : List T_api_Op} {z : List T_api_Op} (h : order_sorter_next_2 a0 a1 a2 a3 a4 a5 a6 a7 = some z) (l : Nat) : Vd Try.prog l (.fn (.func 22) [] []) [.p 250 [] 0, vi a0] [(220, m0 a1 a2), (230, m0 a3 a4), (250, .cell false (.ag [.v 100050 a6.length, v0 a5, .m 220, .m 230, .v 100180 a7.length])), (100050, w0 a6), (100180, w0 a7)] (.tup []) [(220, m0 a1 (delM a0 a2)), (230, m0 a3 a4), (250, .cell false (.ag [.v 100050 a6.length, v0 a5, .m 220, .m 230, .v 100180 z.length])), (100050, w0 a6), (100180, w0 z)] := by
  unfold order_sorter_next_2 at h
  obtain ⟨c1, h⟩ := chk_some h
  obtain ⟨e2, c3, h⟩ := bind_some h
  obtain ⟨r4, c5, h⟩ := bind_some h
  obtain ⟨c6, h⟩ := chk_some h
  obtain rfl := Option.some.inj h
  exact order_sorter_next_2_p0 c1 c3 c5 c6 l
def order_sorter_reads_2_hn : Hint where
  live := fun _ r => match r with
    | 0 => [0, 1]
    | 1 => [0, 1, 6]
    | 2 => [4]
    | _ => []
  esc := fun _ => false
  raw := fun k => false
  fresh := fun _ d => false
  vecs := fun _ d => false
def order_sorter_reads_2 (a0 : Int) (a1 : Nat) (a2 : List (Int × Bool × Nat)) (a3 : Nat) (a4 : List (Int × Bool × Nat)) (a5 : List T_api_Op) (a6 : List T_api_Op) (a7 : List T_api_Op) : Option (Bool) :=
  chk (0 ≤ a0 ∧ a0 < ((a6.length : Nat) : Int)) <|
  (getI a6 a0).bind fun e2 =>
  (order_read e2).bind fun r4 =>
  cond (r4.2) (
    optcase (findM a0 a4) (
      some true) fun e8 =>
      some !e8.1) (
    some false)
theorem order_sorter_reads_2_p0 {a0 : Int} {a1 : Nat} {a2 : List (Int × Bool × Nat)} {a3 : Nat} {a4 : List (Int × Bool × Nat)} {a5 : List T_api_Op} {a6 : List T_api_Op} {a7 : List T_api_Op} {e2 : T_api_Op} {r4 : T_order_place × Bool} (c1 : 0 ≤ a0 ∧ a0 < ((a6.length : Nat) : Int)) (c3 : getI a6 a0 = some e2) (c5 : order_read e2 = some r4) (c6 : r4.2 = true) (c7 : findM a0 a4 = none) (l : Nat) : Vd Try.prog l (.fn (.func 23) [.p 250 [] 0] []) [vi a0] [(220, m0 a1 a2), (230, m0 a3 a4), (250, .cell false (.ag [.v 100050 a6.length, v0 a5, .m 220, .m 230, .v 100180 a7.length])), (100050, w0 a6), (100180, w0 a7)] (vb true) [(220, m0 a1 a2), (230, m0 a3 a4), (250, .cell false (.ag [.v 100050 a6.length, v0 a5, .m 220, .m 230, .v 100180 a7.length])), (100050, w0 a6), (100180, w0 a7)] :=
  Try_vf23 (hn := order_sorter_reads_2_hn) (lvl := 1) (O := { an := [(1006, .pv (p1 e2)), (1007, .call (.ret (.tup [v2 r4.1, vb r4.2])) []), (2007, .found none)], nv := [(1010, vb true)] }) (ps := [0 ≤ a0 ∧ a0 < ((a6.length : Nat) : Int), EG (p0 a6) ((a0.toNat : Nat) : Int) (p1 e2), a0.toNat * 71 = a0.toNat * 71 + 0, (p0 a6).len = a6.length, Vd Try.prog 2 (.fn (.func 29) [] []) [v1 e2] [] (.tup [v2 r4.1, vb r4.2]) [], EB r4.2 true, mapFind (.i .i64 a0) (encM (PV.i .i64) (fun x => AV.pv (.b x)) a4) = some none]) (by kernel_rfl) (Ac c1 (Ac (getI_okN c3 71 T_api_Op.enc) (Ac rfl (Ac (len_ok _ _ _) (Ac (order_read_valid c5 _) (Ac (nv_b c6) (Ac (findM_none (fv := (fun x => AV.pv (.b x))) key_i64 c7) An))))))) l
theorem order_sorter_reads_2_p1 {a0 : Int} {a1 : Nat} {a2 : List (Int × Bool × Nat)} {a3 : Nat} {a4 : List (Int × Bool × Nat)} {a5 : List T_api_Op} {a6 : List T_api_Op} {a7 : List T_api_Op} {e2 : T_api_Op} {r4 : T_order_place × Bool} {e8 : Bool × Nat} (c1 : 0 ≤ a0 ∧ a0 < ((a6.length : Nat) : Int)) (c3 : getI a6 a0 = some e2) (c5 : order_read e2 = some r4) (c6 : r4.2 = true) (c7 : findM a0 a4 = some e8) (l : Nat) : Vd Try.prog l (.fn (.func 23) [.p 250 [] 0] []) [vi a0] [(220, m0 a1 a2), (230, m0 a3 a4), (250, .cell false (.ag [.v 100050 a6.length, v0 a5, .m 220, .m 230, .v 100180 a7.length])), (100050, w0 a6), (100180, w0 a7)] (vb (!e8.1)) [(220, m0 a1 a2), (230, m0 a3 a4), (250, .cell false (.ag [.v 100050 a6.length, v0 a5, .m 220, .m 230, .v 100180 a7.length])), (100050, w0 a6), (100180, w0 a7)] :=
  Try_vf23 (hn := order_sorter_reads_2_hn) (lvl := 1) (O := { an := [(1006, .pv (p1 e2)), (1007, .call (.ret (.tup [v2 r4.1, vb r4.2])) []), (2007, .found (some (vb e8.1, e8.2)))], nv := [(1010, vb true)] }) (ps := [0 ≤ a0 ∧ a0 < ((a6.length : Nat) : Int), EG (p0 a6) ((a0.toNat : Nat) : Int) (p1 e2), a0.toNat * 71 = a0.toNat * 71 + 0, (p0 a6).len = a6.length, Vd Try.prog 2 (.fn (.func 29) [] []) [v1 e2] [] (.tup [v2 r4.1, vb r4.2]) [], EB r4.2 true, mapFind (.i .i64 a0) (encM (PV.i .i64) (fun x => AV.pv (.b x)) a4) = some (some (vb e8.1, e8.2))]) (by kernel_rfl) (Ac c1 (Ac (getI_okN c3 71 T_api_Op.enc) (Ac rfl (Ac (len_ok _ _ _) (Ac (order_read_valid c5 _) (Ac (nv_b c6) (Ac (findM_some (fv := (fun x => AV.pv (.b x))) key_i64 c7) An))))))) l
theorem order_sorter_reads_2_p2 {a0 : Int} {a1 : Nat} {a2 : List (Int × Bool × Nat)} {a3 : Nat} {a4 : List (Int × Bool × Nat)} {a5 : List T_api_Op} {a6 : List T_api_Op} {a7 : List T_api_Op} {e2 : T_api_Op} {r4 : T_order_place × Bool} (c1 : 0 ≤ a0 ∧ a0 < ((a6.length : Nat) : Int)) (c3 : getI a6 a0 = some e2) (c5 : order_read e2 = some r4) (c6 : r4.2 = false) (l : Nat) : Vd Try.prog l (.fn (.func 23) [.p 250 [] 0] []) [vi a0] [(220, m0 a1 a2), (230, m0 a3 a4), (250, .cell false (.ag [.v 100050 a6.length, v0 a5, .m 220, .m 230, .v 100180 a7.length])), (100050, w0 a6), (100180, w0 a7)] (vb false) [(220, m0 a1 a2), (230, m0 a3 a4), (250, .cell false (.ag [.v 100050 a6.length, v0 a5, .m 220, .m 230, .v 100180 a7.length])), (100050, w0 a6), (100180, w0 a7)] :=
  Try_vf23 (hn := order_sorter_reads_2_hn) (lvl := 1) (O := { an := [(1006, .pv (p1 e2)), (1007, .call (.ret (.tup [v2 r4.1, vb r4.2])) [])], nv := [(1010, vb false)] }) (ps := [0 ≤ a0 ∧ a0 < ((a6.length : Nat) : Int), EG (p0 a6) ((a0.toNat : Nat) : Int) (p1 e2), a0.toNat * 71 = a0.toNat * 71 + 0, (p0 a6).len = a6.length, Vd Try.prog 2 (.fn (.func 29) [] []) [v1 e2] [] (.tup [v2 r4.1, vb r4.2]) [], EB r4.2 false]) (by kernel_rfl) (Ac c1 (Ac (getI_okN c3 71 T_api_Op.enc) (Ac rfl (Ac (len_ok _ _ _) (Ac (order_read_valid c5 _) (Ac (nv_b c6) An)))))) l
theorem order_sorter_reads_2_valid {a0 : Int} {a1 : Nat} {a2 : List (Int × Bool × Nat)} {a3 : Nat} {a4 : List (Int × Bool × Nat)} {a5 : List T_api_Op} {a6 : List T_api_Op} {a7 : List T_api_Op} {z : Bool} (h : order_sorter_reads_2 a0 a1 a2 a3 a4 a5 a6 a7 = some z) (l : Nat) : Vd Try.prog l (.fn (.func 23) [.p 250 [] 0] []) [vi a0] [(220, m0 a1 a2), (230, m0 a3 a4), (250, .cell false (.ag [.v 100050 a6.length, v0 a5, .m 220, .m 230, .v 100180 a7.length])), (100050, w0 a6), (100180, w0 a7)] (vb z) [(220, m0 a1 a2), (230, m0 a3 a4), (250, .cell false (.ag [.v 100050 a6.length, v0 a5, .m 220, .m 230, .v 100180 a7.length])), (100050, w0 a6), (100180, w0 a7)] := by
  unfold order_sorter_reads_2 at h
  obtain ⟨c1, h⟩ := chk_some h
  obtain ⟨e2, c3, h⟩ := bind_some h
  obtain ⟨r4, c5, h⟩ := bind_some h
  rcases cond_some h with ⟨c6, h⟩ | ⟨c6, h⟩
  · rcases optcase_some h with ⟨c7, h⟩ | ⟨e8, c7, h⟩
    · obtain rfl := Option.some.inj h
      exact order_sorter_reads_2_p0 c1 c3 c5 c6 c7 l
    · obtain rfl := Option.some.inj h
      exact order_sorter_reads_2_p1 c1 c3 c5 c6 c7 l
  · obtain rfl := Option.some.inj h
    exact order_sorter_reads_2_p2 c1 c3 c5 c6 l
def order_sorter_first_5_hn : Hint where
  live := fun _ r => match r with
    | 0 => [0, 1]
    | 1 => [0, 1, 11, 12]
    | 2 => [0, 1, 11, 12, 13]
    | 3 => [0, 1, 6, 11, 12]
    | 4 => [0, 1, 6, 11, 12, 25]
    | 5 => [4, 5]
    | 6 => [0, 1, 11, 12]
    | 7 => [4, 5]
    | _ => []
  esc := fun _ => false
  raw := fun k => false
  fresh := fun _ d => false
  vecs := fun _ d => false
noncomputable def order_sorter_first_5_f2 := codeO Try.prog order_sorter_first_5_hn (Valid Try.prog) 20 Try_c20_2
def order_sorter_first_5_l2_e : Int ⊕ Int → Ex
  | .inl _ => .exit 0
  | .inr _ => .ret
def order_sorter_first_5_l2_s (a0 : Nat) (a1 : List (Int × Bool × Nat)) (a2 : Nat) (a3 : List (Int × Bool × Nat)) (a4 : List T_api_Op) (a5 : List T_api_Op) (a6 : List T_api_Op) : Int ⊕ Int → St
  | .inl z => S5 1 28 [220, 230, 250, 100050, 100180] [(0, .p 250 [] 0), (1, .fn (.func 23) [.p 250 [] 0] []), (11, vi ((a5.length : Nat) : Int)), (12, vi z), (13, vb false)] [(220, m0 a0 a1), (230, m0 a2 a3), (250, .cell false (.ag [.v 100050 a5.length, v0 a4, .m 220, .m 230, .v 100180 a6.length])), (100050, w0 a5), (100180, w0 a6)]
  | .inr z => S5 1 28 [220, 230, 250, 100050, 100180] [(4, vi z), (5, vb true)] [(220, m0 a0 a1), (230, m0 a2 a3), (250, .cell false (.ag [.v 100050 a5.length, v0 a4, .m 220, .m 230, .v 100180 a6.length])), (100050, w0 a5), (100180, w0 a6)]
def order_sorter_first_5_l2_h (a0 : Nat) (a1 : List (Int × Bool × Nat)) (a2 : Nat) (a3 : List (Int × Bool × Nat)) (a4 : List T_api_Op) (a5 : List T_api_Op) (a6 : List T_api_Op) (s12_2 : Int) : St := S5 1 28 [220, 230, 250, 100050, 100180] [(0, .p 250 [] 0), (1, .fn (.func 23) [.p 250 [] 0] []), (11, vi ((a5.length : Nat) : Int)), (12, vi s12_2)] [(220, m0 a0 a1), (230, m0 a2 a3), (250, .cell false (.ag [.v 100050 a5.length, v0 a4, .m 220, .m 230, .v 100180 a6.length])), (100050, w0 a5), (100180, w0 a6)]
def order_sorter_first_5_l2_f (a0 : Nat) (a1 : List (Int × Bool × Nat)) (a2 : Nat) (a3 : List (Int × Bool × Nat)) (a4 : List T_api_Op) (a5 : List T_api_Op) (a6 : List T_api_Op) (N : Nat) (ih : Int → Option (Int ⊕ Int)) (s12_2 : Int) : Option (Int ⊕ Int) :=
    cond (decide (s12_2 < ((a5.length : Nat) : Int))) (
      optcase (findM s12_2 a1) (
        chk (in64 (s12_2 + 1)) <|
        ih (s12_2 + 1)) fun e3 =>
        cond (e3.1) (
          (order_sorter_reads_2 s12_2 a0 a1 a2 a3 a4 a5 a6).bind fun r5 =>
          cond (r5) (
            some (.inr s12_2)) (
            chk (in64 (s12_2 + 1)) <|
            ih (s12_2 + 1))) (
          chk (in64 (s12_2 + 1)) <|
          ih (s12_2 + 1))) (
      some (.inl s12_2))
def order_sorter_first_5_l2 (a0 : Nat) (a1 : List (Int × Bool × Nat)) (a2 : Nat) (a3 : List (Int × Bool × Nat)) (a4 : List T_api_Op) (a5 : List T_api_Op) (a6 : List T_api_Op) : Nat → Int → Option (Int ⊕ Int)
  | 0 => fun _ => none
  | N + 1 => order_sorter_first_5_l2_f a0 a1 a2 a3 a4 a5 a6 N (order_sorter_first_5_l2 a0 a1 a2 a3 a4 a5 a6 N)
theorem order_sorter_first_5_l2_p0 {a0 : Nat} {a1 : List (Int × Bool × Nat)} {a2 : Nat} {a3 : List (Int × Bool × Nat)} {a4 : List T_api_Op} {a5 : List T_api_Op} {a6 : List T_api_Op} {s12_2 : Int} (c1 : (decide (s12_2 < ((a5.length : Nat) : Int))) = true) (c2 : findM s12_2 a1 = none) (c3 : in64 (s12_2 + 1)) : Step order_sorter_first_5_f2 (order_sorter_first_5_l2_h a0 a1 a2 a3 a4 a5 a6 s12_2) (.normal) (S5 1 28 [220, 230, 250, 100050, 100180] [(0, .p 250 [] 0), (1, .fn (.func 23) [.p 250 [] 0] []), (11, vi ((a5.length : Nat) : Int)), (12, vi (s12_2 + 1))] [(220, m0 a0 a1), (230, m0 a2 a3), (250, .cell false (.ag [.v 100050 a5.length, v0 a4, .m 220, .m 230, .v 100180 a6.length])), (100050, w0 a5), (100180, w0 a6)]) :=
  ⟨{ an := [(4005, .found none)], nv := [(2000, vb true), (6000, vi (s12_2 + 1))] }, [EB (decide (s12_2 < ((a5.length : Nat) : Int))) true, mapFind (.i .i64 s12_2) (encM (PV.i .i64) (fun x => AV.pv (.b x)) a1) = some none, EW (s12_2 + 1)], by kernel_rfl, (Ac (nv_b c1) (Ac (findM_none (fv := (fun x => AV.pv (.b x))) key_i64 c2) (Ac (nv_wrap c3) An)))⟩
theorem order_sorter_first_5_l2_p1 {a0 : Nat} {a1 : List (Int × Bool × Nat)} {a2 : Nat} {a3 : List (Int × Bool × Nat)} {a4 : List T_api_Op} {a5 : List T_api_Op} {a6 : List T_api_Op} {s12_2 : Int} {e3 : Bool × Nat} {r5 : Bool} (c1 : (decide (s12_2 < ((a5.length : Nat) : Int))) = true) (c2 : findM s12_2 a1 = some e3) (c4 : e3.1 = true) (c6 : order_sorter_reads_2 s12_2 a0 a1 a2 a3 a4 a5 a6 = some r5) (c7 : r5 = true) : Step order_sorter_first_5_f2 (order_sorter_first_5_l2_h a0 a1 a2 a3 a4 a5 a6 s12_2) (.ret) (S5 1 28 [220, 230, 250, 100050, 100180] [(4, vi s12_2), (5, vb true)] [(220, m0 a0 a1), (230, m0 a2 a3), (250, .cell false (.ag [.v 100050 a5.length, v0 a4, .m 220, .m 230, .v 100180 a6.length])), (100050, w0 a5), (100180, w0 a6)]) :=
  ⟨{ an := [(4005, .found (some (vb e3.1, e3.2))), (4009, .call (.ret (vb r5)) [(220, m0 a0 a1), (230, m0 a2 a3), (250, .cell false (.ag [.v 100050 a5.length, v0 a4, .m 220, .m 230, .v 100180 a6.length])), (100050, w0 a5), (100180, w0 a6)])], nv := [(2000, vb true), (4005, vb true), (4009, vb true)] }, [EB (decide (s12_2 < ((a5.length : Nat) : Int))) true, mapFind (.i .i64 s12_2) (encM (PV.i .i64) (fun x => AV.pv (.b x)) a1) = some (some (vb e3.1, e3.2)), EB e3.1 true, Vd Try.prog 1 (.fn (.func 23) [.p 250 [] 0] []) [vi s12_2] [(220, m0 a0 a1), (230, m0 a2 a3), (250, .cell false (.ag [.v 100050 a5.length, v0 a4, .m 220, .m 230, .v 100180 a6.length])), (100050, w0 a5), (100180, w0 a6)] (vb r5) [(220, m0 a0 a1), (230, m0 a2 a3), (250, .cell false (.ag [.v 100050 a5.length, v0 a4, .m 220, .m 230, .v 100180 a6.length])), (100050, w0 a5), (100180, w0 a6)], EB r5 true], by kernel_rfl, (Ac (nv_b c1) (Ac (findM_some (fv := (fun x => AV.pv (.b x))) key_i64 c2) (Ac (nv_b c4) (Ac (order_sorter_reads_2_valid c6 _) (Ac (nv_b c7) An)))))⟩
theorem order_sorter_first_5_l2_p2 {a0 : Nat} {a1 : List (Int × Bool × Nat)} {a2 : Nat} {a3 : List (Int × Bool × Nat)} {a4 : List T_api_Op} {a5 : List T_api_Op} {a6 : List T_api_Op} {s12_2 : Int} {e3 : Bool × Nat} {r5 : Bool} (c1 : (decide (s12_2 < ((a5.length : Nat) : Int))) = true) (c2 : findM s12_2 a1 = some e3) (c4 : e3.1 = true) (c6 : order_sorter_reads_2 s12_2 a0 a1 a2 a3 a4 a5 a6 = some r5) (c7 : r5 = false) (c8 : in64 (s12_2 + 1)) : Step order_sorter_first_5_f2 (order_sorter_first_5_l2_h a0 a1 a2 a3 a4 a5 a6 s12_2) (.normal) (S5 1 28 [220, 230, 250, 100050, 100180] [(0, .p 250 [] 0), (1, .fn (.func 23) [.p 250 [] 0] []), (11, vi ((a5.length : Nat) : Int)), (12, vi (s12_2 + 1))] [(220, m0 a0 a1), (230, m0 a2 a3), (250, .cell false (.ag [.v 100050 a5.length, v0 a4, .m 220, .m 230, .v 100180 a6.length])), (100050, w0 a5), (100180, w0 a6)]) :=
  ⟨{ an := [(4005, .found (some (vb e3.1, e3.2))), (4009, .call (.ret (vb r5)) [(220, m0 a0 a1), (230, m0 a2 a3), (250, .cell false (.ag [.v 100050 a5.length, v0 a4, .m 220, .m 230, .v 100180 a6.length])), (100050, w0 a5), (100180, w0 a6)])], nv := [(2000, vb true), (4005, vb true), (4009, vb false), (6000, vi (s12_2 + 1))] }, [EB (decide (s12_2 < ((a5.length : Nat) : Int))) true, mapFind (.i .i64 s12_2) (encM (PV.i .i64) (fun x => AV.pv (.b x)) a1) = some (some (vb e3.1, e3.2)), EB e3.1 true, Vd Try.prog 1 (.fn (.func 23) [.p 250 [] 0] []) [vi s12_2] [(220, m0 a0 a1), (230, m0 a2 a3), (250, .cell false (.ag [.v 100050 a5.length, v0 a4, .m 220, .m 230, .v 100180 a6.length])), (100050, w0 a5), (100180, w0 a6)] (vb r5) [(220, m0 a0 a1), (230, m0 a2 a3), (250, .cell false (.ag [.v 100050 a5.length, v0 a4, .m 220, .m 230, .v 100180 a6.length])), (100050, w0 a5), (100180, w0 a6)], EB r5 false, EW (s12_2 + 1)], by kernel_rfl, (Ac (nv_b c1) (Ac (findM_some (fv := (fun x => AV.pv (.b x))) key_i64 c2) (Ac (nv_b c4) (Ac (order_sorter_reads_2_valid c6 _) (Ac (nv_b c7) (Ac (nv_wrap c8) An))))))⟩
theorem order_sorter_first_5_l2_p3 {a0 : Nat} {a1 : List (Int × Bool × Nat)} {a2 : Nat} {a3 : List (Int × Bool × Nat)} {a4 : List T_api_Op} {a5 : List T_api_Op} {a6 : List T_api_Op} {s12_2 : Int} {e3 : Bool × Nat} (c1 : (decide (s12_2 < ((a5.length : Nat) : Int))) = true) (c2 : findM s12_2 a1 = some e3) (c4 : e3.1 = false) (c5 : in64 (s12_2 + 1)) : Step order_sorter_first_5_f2 (order_sorter_first_5_l2_h a0 a1 a2 a3 a4 a5 a6 s12_2) (.normal) (S5 1 28 [220, 230, 250, 100050, 100180] [(0, .p 250 [] 0), (1, .fn (.func 23) [.p 250 [] 0] []), (11, vi ((a5.length : Nat) : Int)), (12, vi (s12_2 + 1))] [(220, m0 a0 a1), (230, m0 a2 a3), (250, .cell false (.ag [.v 100050 a5.length, v0 a4, .m 220, .m 230, .v 100180 a6.length])), (100050, w0 a5), (100180, w0 a6)]) :=
  ⟨{ an := [(4005, .found (some (vb e3.1, e3.2)))], nv := [(2000, vb true), (4005, vb false), (6000, vi (s12_2 + 1))] }, [EB (decide (s12_2 < ((a5.length : Nat) : Int))) true, mapFind (.i .i64 s12_2) (encM (PV.i .i64) (fun x => AV.pv (.b x)) a1) = some (some (vb e3.1, e3.2)), EB e3.1 false, EW (s12_2 + 1)], by kernel_rfl, (Ac (nv_b c1) (Ac (findM_some (fv := (fun x => AV.pv (.b x))) key_i64 c2) (Ac (nv_b c4) (Ac (nv_wrap c5) An))))⟩
theorem order_sorter_first_5_l2_p4 {a0 : Nat} {a1 : List (Int × Bool × Nat)} {a2 : Nat} {a3 : List (Int × Bool × Nat)} {a4 : List T_api_Op} {a5 : List T_api_Op} {a6 : List T_api_Op} {s12_2 : Int} (c1 : (decide (s12_2 < ((a5.length : Nat) : Int))) = false) : Step order_sorter_first_5_f2 (order_sorter_first_5_l2_h a0 a1 a2 a3 a4 a5 a6 s12_2) (.exit 0) (S5 1 28 [220, 230, 250, 100050, 100180] [(0, .p 250 [] 0), (1, .fn (.func 23) [.p 250 [] 0] []), (11, vi ((a5.length : Nat) : Int)), (12, vi s12_2), (13, vb false)] [(220, m0 a0 a1), (230, m0 a2 a3), (250, .cell false (.ag [.v 100050 a5.length, v0 a4, .m 220, .m 230, .v 100180 a6.length])), (100050, w0 a5), (100180, w0 a6)]) :=
  ⟨{ nv := [(2000, vb false)] }, [EB (decide (s12_2 < ((a5.length : Nat) : Int))) false], by kernel_rfl, (Ac (nv_b c1) An)⟩
theorem order_sorter_first_5_l2_ok {a0 : Nat} {a1 : List (Int × Bool × Nat)} {a2 : Nat} {a3 : List (Int × Bool × Nat)} {a4 : List T_api_Op} {a5 : List T_api_Op} {a6 : List T_api_Op} : ∀ {N : Nat} {s12_2 : Int} {z : Int ⊕ Int}, order_sorter_first_5_l2 a0 a1 a2 a3 a4 a5 a6 N s12_2 = some z → LoopP order_sorter_first_5_f2 (order_sorter_first_5_l2_h a0 a1 a2 a3 a4 a5 a6 s12_2) (order_sorter_first_5_l2_e z) (order_sorter_first_5_l2_s a0 a1 a2 a3 a4 a5 a6 z) := by
  intro N
  induction N with
  | zero => intro s12_2 z h; simp [order_sorter_first_5_l2] at h
  | succ N ih =>
    intro s12_2 z h
    change order_sorter_first_5_l2_f a0 a1 a2 a3 a4 a5 a6 N (order_sorter_first_5_l2 a0 a1 a2 a3 a4 a5 a6 N) s12_2 = some z at h
    unfold order_sorter_first_5_l2_f at h
    rcases cond_some h with ⟨c1, h⟩ | ⟨c1, h⟩
    · rcases optcase_some h with ⟨c2, h⟩ | ⟨e3, c2, h⟩
      · obtain ⟨c3, h⟩ := chk_some h
        exact Step.next (order_sorter_first_5_l2_p0 c1 c2 c3) (ih h)
      · rcases cond_some h with ⟨c4, h⟩ | ⟨c4, h⟩
        · obtain ⟨r5, c6, h⟩ := bind_some h
          rcases cond_some h with ⟨c7, h⟩ | ⟨c7, h⟩
          · obtain rfl := Option.some.inj h
            exact Step.ret (order_sorter_first_5_l2_p1 c1 c2 c4 c6 c7)
          · obtain ⟨c8, h⟩ := chk_some h
            exact Step.next (order_sorter_first_5_l2_p2 c1 c2 c4 c6 c7 c8) (ih h)
        · obtain ⟨c5, h⟩ := chk_some h
          exact Step.next (order_sorter_first_5_l2_p3 c1 c2 c4 c5) (ih h)
    · obtain rfl := Option.some.inj h
      exact Step.exit (order_sorter_first_5_l2_p4 c1)
def order_sorter_first_5 (N : Nat) (a0 : Nat) (a1 : List (Int × Bool × Nat)) (a2 : Nat) (a3 : List (Int × Bool × Nat)) (a4 : List T_api_Op) (a5 : List T_api_Op) (a6 : List T_api_Op) : Option (Int × Bool) :=
  (order_sorter_first_5_l2 a0 a1 a2 a3 a4 a5 a6 N 0).bind fun z1 => match z1 with
  | .inl z2 =>
    some (0, false)
  | .inr z2 =>
    some (z2, true)
theorem order_sorter_first_5_p0 {N : Nat} {a0 : Nat} {a1 : List (Int × Bool × Nat)} {a2 : Nat} {a3 : List (Int × Bool × Nat)} {a4 : List T_api_Op} {a5 : List T_api_Op} {a6 : List T_api_Op} {z2 : Int} (c3 : order_sorter_first_5_l2 a0 a1 a2 a3 a4 a5 a6 N 0 = some (.inl z2)) (l : Nat) : Vd Try.prog l (.fn (.func 20) [] []) [.p 250 [] 0, .fn (.func 23) [.p 250 [] 0] []] [(220, m0 a0 a1), (230, m0 a2 a3), (250, .cell false (.ag [.v 100050 a5.length, v0 a4, .m 220, .m 230, .v 100180 a6.length])), (100050, w0 a5), (100180, w0 a6)] (.tup [vi 0, vb false]) [(220, m0 a0 a1), (230, m0 a2 a3), (250, .cell false (.ag [.v 100050 a5.length, v0 a4, .m 220, .m 230, .v 100180 a6.length])), (100050, w0 a5), (100180, w0 a6)] :=
  Try_vf20 (hn := order_sorter_first_5_hn) (lvl := 0) (O := { lo := [(2, .exit 0, S5 1 28 [220, 230, 250, 100050, 100180] [(0, .p 250 [] 0), (1, .fn (.func 23) [.p 250 [] 0] []), (11, vi ((a5.length : Nat) : Int)), (12, vi z2), (13, vb false)] [(220, m0 a0 a1), (230, m0 a2 a3), (250, .cell false (.ag [.v 100050 a5.length, v0 a4, .m 220, .m 230, .v 100180 a6.length])), (100050, w0 a5), (100180, w0 a6)])] }) (ps := [LoopP order_sorter_first_5_f2 (S5 1 28 [220, 230, 250, 100050, 100180] [(0, .p 250 [] 0), (1, .fn (.func 23) [.p 250 [] 0] []), (11, vi ((a5.length : Nat) : Int)), (12, vi 0)] [(220, m0 a0 a1), (230, m0 a2 a3), (250, .cell false (.ag [.v 100050 a5.length, v0 a4, .m 220, .m 230, .v 100180 a6.length])), (100050, w0 a5), (100180, w0 a6)]) (.exit 0) (S5 1 28 [220, 230, 250, 100050, 100180] [(0, .p 250 [] 0), (1, .fn (.func 23) [.p 250 [] 0] []), (11, vi ((a5.length : Nat) : Int)), (12, vi z2), (13, vb false)] [(220, m0 a0 a1), (230, m0 a2 a3), (250, .cell false (.ag [.v 100050 a5.length, v0 a4, .m 220, .m 230, .v 100180 a6.length])), (100050, w0 a5), (100180, w0 a6)])]) (by kernel_rfl) (Ac (order_sorter_first_5_l2_ok c3) An) l
theorem order_sorter_first_5_p1 {N : Nat} {a0 : Nat} {a1 : List (Int × Bool × Nat)} {a2 : Nat} {a3 : List (Int × Bool × Nat)} {a4 : List T_api_Op} {a5 : List T_api_Op} {a6 : List T_api_Op} {z2 : Int} (c3 : order_sorter_first_5_l2 a0 a1 a2 a3 a4 a5 a6 N 0 = some (.inr z2)) (l : Nat) : Vd Try.prog l (.fn (.func 20) [] []) [.p 250 [] 0, .fn (.func 23) [.p 250 [] 0] []] [(220, m0 a0 a1), (230, m0 a2 a3), (250, .cell false (.ag [.v 100050 a5.length, v0 a4, .m 220, .m 230, .v 100180 a6.length])), (100050, w0 a5), (100180, w0 a6)] (.tup [vi z2, vb true]) [(220, m0 a0 a1), (230, m0 a2 a3), (250, .cell false (.ag [.v 100050 a5.length, v0 a4, .m 220, .m 230, .v 100180 a6.length])), (100050, w0 a5), (100180, w0 a6)] :=
  Try_vf20 (hn := order_sorter_first_5_hn) (lvl := 0) (O := { lo := [(2, .ret, S5 1 28 [220, 230, 250, 100050, 100180] [(4, vi z2), (5, vb true)] [(220, m0 a0 a1), (230, m0 a2 a3), (250, .cell false (.ag [.v 100050 a5.length, v0 a4, .m 220, .m 230, .v 100180 a6.length])), (100050, w0 a5), (100180, w0 a6)])] }) (ps := [LoopP order_sorter_first_5_f2 (S5 1 28 [220, 230, 250, 100050, 100180] [(0, .p 250 [] 0), (1, .fn (.func 23) [.p 250 [] 0] []), (11, vi ((a5.length : Nat) : Int)), (12, vi 0)] [(220, m0 a0 a1), (230, m0 a2 a3), (250, .cell false (.ag [.v 100050 a5.length, v0 a4, .m 220, .m 230, .v 100180 a6.length])), (100050, w0 a5), (100180, w0 a6)]) (.ret) (S5 1 28 [220, 230, 250, 100050, 100180] [(4, vi z2), (5, vb true)] [(220, m0 a0 a1), (230, m0 a2 a3), (250, .cell false (.ag [.v 100050 a5.length, v0 a4, .m 220, .m 230, .v 100180 a6.length])), (100050, w0 a5), (100180, w0 a6)])]) (by kernel_rfl) (Ac (order_sorter_first_5_l2_ok c3) An) l
theorem order_sorter_first_5_valid {N : Nat} {a0 : Nat} {a1 : List (Int × Bool × Nat)} {a2 : Nat} {a3 : List (Int × Bool × Nat)} {a4 : List T_api_Op} {a5 : List T_api_Op} {a6 : List T_api_Op} {z : Int × Bool} (h : order_sorter_first_5 N a0 a1 a2 a3 a4 a5 a6 = some z) (l : Nat) : Vd Try.prog l (.fn (.func 20) [] []) [.p 250 [] 0, .fn (.func 23) [.p 250 [] 0] []] [(220, m0 a0 a1), (230, m0 a2 a3), (250, .cell false (.ag [.v 100050 a5.length, v0 a4, .m 220, .m 230, .v 100180 a6.length])), (100050, w0 a5), (100180, w0 a6)] (.tup [vi z.1, vb z.2]) [(220, m0 a0 a1), (230, m0 a2 a3), (250, .cell false (.ag [.v 100050 a5.length, v0 a4, .m 220, .m 230, .v 100180 a6.length])), (100050, w0 a5), (100180, w0 a6)] := by
  unfold order_sorter_first_5 at h
  obtain ⟨z1, c3, h⟩ := bind_some h
  rcases z1 with z2 | z2 <;> dsimp only at h
  · obtain rfl := Option.some.inj h
    exact order_sorter_first_5_p0 c3 l
  · obtain rfl := Option.some.inj h
    exact order_sorter_first_5_p1 c3 l
def order_sorter_first_6_hn : Hint where
  live := fun _ r => match r with
    | 0 => [0, 1]
    | 1 => [0, 1, 11, 12]
    | 2 => [0, 1, 11, 12, 13]
    | 3 => [0, 1, 6, 11, 12]
    | 4 => [0, 1, 6, 11, 12, 25]
    | 5 => [4, 5]
    | 6 => [0, 1, 11, 12]
    | 7 => [4, 5]
    | _ => []
  esc := fun _ => false
  raw := fun k => false
  fresh := fun _ d => false
  vecs := fun _ d => false
noncomputable def order_sorter_first_6_f2 := codeO Try.prog order_sorter_first_6_hn (Valid Try.prog) 20 Try_c20_2
def order_sorter_first_6_l2_e : Int ⊕ Int → Ex
  | .inl _ => .exit 0
  | .inr _ => .ret
def order_sorter_first_6_l2_s (a0 : Nat) (a1 : List (Int × Bool × Nat)) (a2 : Nat) (a3 : List (Int × Bool × Nat)) (a4 : List T_api_Op) (a5 : List T_api_Op) (a6 : List T_api_Op) : Int ⊕ Int → St
  | .inl z => S5 1 28 [220, 230, 250, 100050, 100180] [(0, .p 250 [] 0), (1, .fn (.func 24) [] []), (11, vi ((a5.length : Nat) : Int)), (12, vi z), (13, vb false)] [(220, m0 a0 a1), (230, m0 a2 a3), (250, .cell false (.ag [.v 100050 a5.length, v0 a4, .m 220, .m 230, .v 100180 a6.length])), (100050, w0 a5), (100180, w0 a6)]
  | .inr z => S5 1 28 [220, 230, 250, 100050, 100180] [(4, vi z), (5, vb true)] [(220, m0 a0 a1), (230, m0 a2 a3), (250, .cell false (.ag [.v 100050 a5.length, v0 a4, .m 220, .m 230, .v 100180 a6.length])), (100050, w0 a5), (100180, w0 a6)]
def order_sorter_first_6_l2_h (a0 : Nat) (a1 : List (Int × Bool × Nat)) (a2 : Nat) (a3 : List (Int × Bool × Nat)) (a4 : List T_api_Op) (a5 : List T_api_Op) (a6 : List T_api_Op) (s12_2 : Int) : St := S5 1 28 [220, 230, 250, 100050, 100180] [(0, .p 250 [] 0), (1, .fn (.func 24) [] []), (11, vi ((a5.length : Nat) : Int)), (12, vi s12_2)] [(220, m0 a0 a1), (230, m0 a2 a3), (250, .cell false (.ag [.v 100050 a5.length, v0 a4, .m 220, .m 230, .v 100180 a6.length])), (100050, w0 a5), (100180, w0 a6)]
def order_sorter_first_6_l2_f (a0 : Nat) (a1 : List (Int × Bool × Nat)) (a2 : Nat) (a3 : List (Int × Bool × Nat)) (a4 : List T_api_Op) (a5 : List T_api_Op) (a6 : List T_api_Op) (N : Nat) (ih : Int → Option (Int ⊕ Int)) (s12_2 : Int) : Option (Int ⊕ Int) :=
    cond (decide (s12_2 < ((a5.length : Nat) : Int))) (
      optcase (findM s12_2 a1) (
        chk (in64 (s12_2 + 1)) <|
        ih (s12_2 + 1)) fun e3 =>
        cond (e3.1) (
          (order_Sort_1 s12_2).bind fun r5 =>
          some (.inr s12_2)) (
          chk (in64 (s12_2 + 1)) <|
          ih (s12_2 + 1))) (
      some (.inl s12_2))
def order_sorter_first_6_l2 (a0 : Nat) (a1 : List (Int × Bool × Nat)) (a2 : Nat) (a3 : List (Int × Bool × Nat)) (a4 : List T_api_Op) (a5 : List T_api_Op) (a6 : List T_api_Op) : Nat → Int → Option (Int ⊕ Int)
  | 0 => fun _ => none
  | N + 1 => order_sorter_first_6_l2_f a0 a1 a2 a3 a4 a5 a6 N (order_sorter_first_6_l2 a0 a1 a2 a3 a4 a5 a6 N)
theorem order_sorter_first_6_l2_p0 {a0 : Nat} {a1 : List (Int × Bool × Nat)} {a2 : Nat} {a3 : List (Int × Bool × Nat)} {a4 : List T_api_Op} {a5 : List T_api_Op} {a6 : List T_api_Op} {s12_2 : Int} (c1 : (decide (s12_2 < ((a5.length : Nat) : Int))) = true) (c2 : findM s12_2 a1 = none) (c3 : in64 (s12_2 + 1)) : Step order_sorter_first_6_f2 (order_sorter_first_6_l2_h a0 a1 a2 a3 a4 a5 a6 s12_2) (.normal) (S5 1 28 [220, 230, 250, 100050, 100180] [(0, .p 250 [] 0), (1, .fn (.func 24) [] []), (11, vi ((a5.length : Nat) : Int)), (12, vi (s12_2 + 1))] [(220, m0 a0 a1), (230, m0 a2 a3), (250, .cell false (.ag [.v 100050 a5.length, v0 a4, .m 220, .m 230, .v 100180 a6.length])), (100050, w0 a5), (100180, w0 a6)]) :=
  ⟨{ an := [(4005, .found none)], nv := [(2000, vb true), (6000, vi (s12_2 + 1))] }, [EB (decide (s12_2 < ((a5.length : Nat) : Int))) true, mapFind (.i .i64 s12_2) (encM (PV.i .i64) (fun x => AV.pv (.b x)) a1) = some none, EW (s12_2 + 1)], by kernel_rfl, (Ac (nv_b c1) (Ac (findM_none (fv := (fun x => AV.pv (.b x))) key_i64 c2) (Ac (nv_wrap c3) An)))⟩
theorem order_sorter_first_6_l2_p1 {a0 : Nat} {a1 : List (Int × Bool × Nat)} {a2 : Nat} {a3 : List (Int × Bool × Nat)} {a4 : List T_api_Op} {a5 : List T_api_Op} {a6 : List T_api_Op} {s12_2 : Int} {e3 : Bool × Nat} {r5 : Unit} (c1 : (decide (s12_2 < ((a5.length : Nat) : Int))) = true) (c2 : findM s12_2 a1 = some e3) (c4 : e3.1 = true) (c6 : order_Sort_1 s12_2 = some r5) : Step order_sorter_first_6_f2 (order_sorter_first_6_l2_h a0 a1 a2 a3 a4 a5 a6 s12_2) (.ret) (S5 1 28 [220, 230, 250, 100050, 100180] [(4, vi s12_2), (5, vb true)] [(220, m0 a0 a1), (230, m0 a2 a3), (250, .cell false (.ag [.v 100050 a5.length, v0 a4, .m 220, .m 230, .v 100180 a6.length])), (100050, w0 a5), (100180, w0 a6)]) :=
  ⟨{ an := [(4005, .found (some (vb e3.1, e3.2))), (4009, .call (.ret (vb true)) [])], nv := [(2000, vb true), (4005, vb true)] }, [EB (decide (s12_2 < ((a5.length : Nat) : Int))) true, mapFind (.i .i64 s12_2) (encM (PV.i .i64) (fun x => AV.pv (.b x)) a1) = some (some (vb e3.1, e3.2)), EB e3.1 true, Vd Try.prog 1 (.fn (.func 24) [] []) [vi s12_2] [] (vb true) []], by kernel_rfl, (Ac (nv_b c1) (Ac (findM_some (fv := (fun x => AV.pv (.b x))) key_i64 c2) (Ac (nv_b c4) (Ac (order_Sort_1_valid c6 _) An))))⟩
theorem order_sorter_first_6_l2_p2 {a0 : Nat} {a1 : List (Int × Bool × Nat)} {a2 : Nat} {a3 : List (Int × Bool × Nat)} {a4 : List T_api_Op} {a5 : List T_api_Op} {a6 : List T_api_Op} {s12_2 : Int} {e3 : Bool × Nat} (c1 : (decide (s12_2 < ((a5.length : Nat) : Int))) = true) (c2 : findM s12_2 a1 = some e3) (c4 : e3.1 = false) (c5 : in64 (s12_2 + 1)) : Step order_sorter_first_6_f2 (order_sorter_first_6_l2_h a0 a1 a2 a3 a4 a5 a6 s12_2) (.normal) (S5 1 28 [220, 230, 250, 100050, 100180] [(0, .p 250 [] 0), (1, .fn (.func 24) [] []), (11, vi ((a5.length : Nat) : Int)), (12, vi (s12_2 + 1))] [(220, m0 a0 a1), (230, m0 a2 a3), (250, .cell false (.ag [.v 100050 a5.length, v0 a4, .m 220, .m 230, .v 100180 a6.length])), (100050, w0 a5), (100180, w0 a6)]) :=
  ⟨{ an := [(4005, .found (some (vb e3.1, e3.2)))], nv := [(2000, vb true), (4005, vb false), (6000, vi (s12_2 + 1))] }, [EB (decide (s12_2 < ((a5.length : Nat) : Int))) true, mapFind (.i .i64 s12_2) (encM (PV.i .i64) (fun x => AV.pv (.b x)) a1) = some (some (vb e3.1, e3.2)), EB e3.1 false, EW (s12_2 + 1)], by kernel_rfl, (Ac (nv_b c1) (Ac (findM_some (fv := (fun x => AV.pv (.b x))) key_i64 c2) (Ac (nv_b c4) (Ac (nv_wrap c5) An))))⟩
theorem order_sorter_first_6_l2_p3 {a0 : Nat} {a1 : List (Int × Bool × Nat)} {a2 : Nat} {a3 : List (Int × Bool × Nat)} {a4 : List T_api_Op} {a5 : List T_api_Op} {a6 : List T_api_Op} {s12_2 : Int} (c1 : (decide (s12_2 < ((a5.length : Nat) : Int))) = false) : Step order_sorter_first_6_f2 (order_sorter_first_6_l2_h a0 a1 a2 a3 a4 a5 a6 s12_2) (.exit 0) (S5 1 28 [220, 230, 250, 100050, 100180] [(0, .p 250 [] 0), (1, .fn (.func 24) [] []), (11, vi ((a5.length : Nat) : Int)), (12, vi s12_2), (13, vb false)] [(220, m0 a0 a1), (230, m0 a2 a3), (250, .cell false (.ag [.v 100050 a5.length, v0 a4, .m 220, .m 230, .v 100180 a6.length])), (100050, w0 a5), (100180, w0 a6)]) :=
  ⟨{ nv := [(2000, vb false)] }, [EB (decide (s12_2 < ((a5.length : Nat) : Int))) false], by kernel_rfl, (Ac (nv_b c1) An)⟩
theorem order_sorter_first_6_l2_ok {a0 : Nat} {a1 : List (Int × Bool × Nat)} {a2 : Nat} {a3 : List (Int × Bool × Nat)} {a4 : List T_api_Op} {a5 : List T_api_Op} {a6 : List T_api_Op} : ∀ {N : Nat} {s12_2 : Int} {z : Int ⊕ Int}, order_sorter_first_6_l2 a0 a1 a2 a3 a4 a5 a6 N s12_2 = some z → LoopP order_sorter_first_6_f2 (order_sorter_first_6_l2_h a0 a1 a2 a3 a4 a5 a6 s12_2) (order_sorter_first_6_l2_e z) (order_sorter_first_6_l2_s a0 a1 a2 a3 a4 a5 a6 z) := by
  intro N
  induction N with
  | zero => intro s12_2 z h; simp [order_sorter_first_6_l2] at h
  | succ N ih =>
    intro s12_2 z h
    change order_sorter_first_6_l2_f a0 a1 a2 a3 a4 a5 a6 N (order_sorter_first_6_l2 a0 a1 a2 a3 a4 a5 a6 N) s12_2 = some z at h
    unfold order_sorter_first_6_l2_f at h
    rcases cond_some h with ⟨c1, h⟩ | ⟨c1, h⟩
    · rcases optcase_some h with ⟨c2, h⟩ | ⟨e3, c2, h⟩
      · obtain ⟨c3, h⟩ := chk_some h
        exact Step.next (order_sorter_first_6_l2_p0 c1 c2 c3) (ih h)
      · rcases cond_some h with ⟨c4, h⟩ | ⟨c4, h⟩
        · obtain ⟨r5, c6, h⟩ := bind_some h
          obtain rfl := Option.some.inj h
          exact Step.ret (order_sorter_first_6_l2_p1 c1 c2 c4 c6)
        · obtain ⟨c5, h⟩ := chk_some h
          exact Step.next (order_sorter_first_6_l2_p2 c1 c2 c4 c5) (ih h)
    · obtain rfl := Option.some.inj h
      exact Step.exit (order_sorter_first_6_l2_p3 c1)
def order_sorter_first_6 (N : Nat) (a0 : Nat) (a1 : List (Int × Bool × Nat)) (a2 : Nat) (a3 : List (Int × Bool × Nat)) (a4 : List T_api_Op) (a5 : List T_api_Op) (a6 : List T_api_Op) : Option (Int × Bool) :=
  (order_sorter_first_6_l2 a0 a1 a2 a3 a4 a5 a6 N 0).bind fun z1 => match z1 with
  | .inl z2 =>
    some (0, false)
  | .inr z2 =>
    some (z2, true)
theorem order_sorter_first_6_p0 {N : Nat} {a0 : Nat} {a1 : List (Int × Bool × Nat)} {a2 : Nat} {a3 : List (Int × Bool × Nat)} {a4 : List T_api_Op} {a5 : List T_api_Op} {a6 : List T_api_Op} {z2 : Int} (c3 : order_sorter_first_6_l2 a0 a1 a2 a3 a4 a5 a6 N 0 = some (.inl z2)) (l : Nat) : Vd Try.prog l (.fn (.func 20) [] []) [.p 250 [] 0, .fn (.func 24) [] []] [(220, m0 a0 a1), (230, m0 a2 a3), (250, .cell false (.ag [.v 100050 a5.length, v0 a4, .m 220, .m 230, .v 100180 a6.length])), (100050, w0 a5), (100180, w0 a6)] (.tup [vi 0, vb false]) [(220, m0 a0 a1), (230, m0 a2 a3), (250, .cell false (.ag [.v 100050 a5.length, v0 a4, .m 220, .m 230, .v 100180 a6.length])), (100050, w0 a5), (100180, w0 a6)] :=
  Try_vf20 (hn := order_sorter_first_6_hn) (lvl := 0) (O := { lo := [(2, .exit 0, S5 1 28 [220, 230, 250, 100050, 100180] [(0, .p 250 [] 0), (1, .fn (.func 24) [] []), (11, vi ((a5.length : Nat) : Int)), (12, vi z2), (13, vb false)] [(220, m0 a0 a1), (230, m0 a2 a3), (250, .cell false (.ag [.v 100050 a5.length, v0 a4, .m 220, .m 230, .v 100180 a6.length])), (100050, w0 a5), (100180, w0 a6)])] }) (ps := [LoopP order_sorter_first_6_f2 (S5 1 28 [220, 230, 250, 100050, 100180] [(0, .p 250 [] 0), (1, .fn (.func 24) [] []), (11, vi ((a5.length : Nat) : Int)), (12, vi 0)] [(220, m0 a0 a1), (230, m0 a2 a3), (250, .cell false (.ag [.v 100050 a5.length, v0 a4, .m 220, .m 230, .v 100180 a6.length])), (100050, w0 a5), (100180, w0 a6)]) (.exit 0) (S5 1 28 [220, 230, 250, 100050, 100180] [(0, .p 250 [] 0), (1, .fn (.func 24) [] []), (11, vi ((a5.length : Nat) : Int)), (12, vi z2), (13, vb false)] [(220, m0 a0 a1), (230, m0 a2 a3), (250, .cell false (.ag [.v 100050 a5.length, v0 a4, .m 220, .m 230, .v 100180 a6.length])), (100050, w0 a5), (100180, w0 a6)])]) (by kernel_rfl) (Ac (order_sorter_first_6_l2_ok c3) An) l
theorem order_sorter_first_6_p1 {N : Nat} {a0 : Nat} {a1 : List (Int × Bool × Nat)} {a2 : Nat} {a3 : List (Int × Bool × Nat)} {a4 : List T_api_Op} {a5 : List T_api_Op} {a6 : List T_api_Op} {z2 : Int} (c3 : order_sorter_first_6_l2 a0 a1 a2 a3 a4 a5 a6 N 0 = some (.inr z2)) (l : Nat) : Vd Try.prog l (.fn (.func 20) [] []) [.p 250 [] 0, .fn (.func 24) [] []] [(220, m0 a0 a1), (230, m0 a2 a3), (250, .cell false (.ag [.v 100050 a5.length, v0 a4, .m 220, .m 230, .v 100180 a6.length])), (100050, w0 a5), (100180, w0 a6)] (.tup [vi z2, vb true]) [(220, m0 a0 a1), (230, m0 a2 a3), (250, .cell false (.ag [.v 100050 a5.length, v0 a4, .m 220, .m 230, .v 100180 a6.length])), (100050, w0 a5), (100180, w0 a6)] :=
  Try_vf20 (hn := order_sorter_first_6_hn) (lvl := 0) (O := { lo := [(2, .ret, S5 1 28 [220, 230, 250, 100050, 100180] [(4, vi z2), (5, vb true)] [(220, m0 a0 a1), (230, m0 a2 a3), (250, .cell false (.ag [.v 100050 a5.length, v0 a4, .m 220, .m 230, .v 100180 a6.length])), (100050, w0 a5), (100180, w0 a6)])] }) (ps := [LoopP order_sorter_first_6_f2 (S5 1 28 [220, 230, 250, 100050, 100180] [(0, .p 250 [] 0), (1, .fn (.func 24) [] []), (11, vi ((a5.length : Nat) : Int)), (12, vi 0)] [(220, m0 a0 a1), (230, m0 a2 a3), (250, .cell false (.ag [.v 100050 a5.length, v0 a4, .m 220, .m 230, .v 100180 a6.length])), (100050, w0 a5), (100180, w0 a6)]) (.ret) (S5 1 28 [220, 230, 250, 100050, 100180] [(4, vi z2), (5, vb true)] [(220, m0 a0 a1), (230, m0 a2 a3), (250, .cell false (.ag [.v 100050 a5.length, v0 a4, .m 220, .m 230, .v 100180 a6.length])), (100050, w0 a5), (100180, w0 a6)])]) (by kernel_rfl) (Ac (order_sorter_first_6_l2_ok c3) An) l
theorem order_sorter_first_6_valid {N : Nat} {a0 : Nat} {a1 : List (Int × Bool × Nat)} {a2 : Nat} {a3 : List (Int × Bool × Nat)} {a4 : List T_api_Op} {a5 : List T_api_Op} {a6 : List T_api_Op} {z : Int × Bool} (h : order_sorter_first_6 N a0 a1 a2 a3 a4 a5 a6 = some z) (l : Nat) : Vd Try.prog l (.fn (.func 20) [] []) [.p 250 [] 0, .fn (.func 24) [] []] [(220, m0 a0 a1), (230, m0 a2 a3), (250, .cell false (.ag [.v 100050 a5.length, v0 a4, .m 220, .m 230, .v 100180 a6.length])), (100050, w0 a5), (100180, w0 a6)] (.tup [vi z.1, vb z.2]) [(220, m0 a0 a1), (230, m0 a2 a3), (250, .cell false (.ag [.v 100050 a5.length, v0 a4, .m 220, .m 230, .v 100180 a6.length])), (100050, w0 a5), (100180, w0 a6)] := by
  unfold order_sorter_first_6 at h
  obtain ⟨z1, c3, h⟩ := bind_some h
  rcases z1 with z2 | z2 <;> dsimp only at h
  · obtain rfl := Option.some.inj h
    exact order_sorter_first_6_p0 c3 l
  · obtain rfl := Option.some.inj h
    exact order_sorter_first_6_p1 c3 l
def order_Sort_hn : Hint where
  live := fun _ r => match r with
    | 0 => [0, 1]
    | 1 => [0, 1, 18]
    | 2 => [4]
    | 3 => [0, 5]
    | 4 => [5, 27, 28]
    | 5 => [5, 27, 28, 29]
    | 6 => [5, 6, 27, 28]
    | 7 => [5, 27, 28]
    | 8 => [5, 27, 28]
    | 9 => [5, 7, 8]
    | 10 => [5, 7, 44]
    | 11 => [5]
    | 12 => [5, 7, 8]
    | 13 => [5, 7, 55]
    | 14 => [5]
    | 15 => [5, 7, 8]
    | 16 => [5, 7, 82]
    | 17 => [5]
    | 18 => [4]
    | _ => []
  esc := fun _ => false
  raw := fun k => false
  fresh := fun _ d => Nat.beq d 20 || Nat.beq d 47 || Nat.beq d 85
  vecs := fun _ d => false
noncomputable def order_Sort_f5 := codeO Try.prog order_Sort_hn (Valid Try.prog) 12 Try_c12_5
def order_Sort_l5_e (_ : Int × Nat × List (Int × Bool × Nat)) : Ex := .exit 0
def order_Sort_l5_s (a0 : List T_api_Op) (a1 : List T_api_Op) (z : Int × Nat × List (Int × Bool × Nat)) : St := S5 0 90 [] [(5, .p 250 [] 0), (27, vi ((a0.length : Nat) : Int)), (28, vi z.1), (29, vb false)] [(220, m0 z.2.1 z.2.2), (230, m0 0 []), (250, .cell false (.ag [.v 100050 a0.length, v0 a1, .m 220, .m 230, .nils])), (100050, w0 a0)]
def order_Sort_l5_h (a0 : List T_api_Op) (a1 : List T_api_Op) (s28_5 : Int) (o220_5 : Nat) (o220_5_2 : List (Int × Bool × Nat)) : St := S5 0 90 [] [(5, .p 250 [] 0), (27, vi ((a0.length : Nat) : Int)), (28, vi s28_5)] [(220, m0 o220_5 o220_5_2), (230, m0 0 []), (250, .cell false (.ag [.v 100050 a0.length, v0 a1, .m 220, .m 230, .nils])), (100050, w0 a0)]
def order_Sort_l5_f (a0 : List T_api_Op) (a1 : List T_api_Op) (N : Nat) (ih : Int → Nat → (List (Int × Bool × Nat)) → Option (Int × Nat × List (Int × Bool × Nat))) (s28_5 : Int) (o220_5 : Nat) (o220_5_2 : List (Int × Bool × Nat)) : Option (Int × Nat × List (Int × Bool × Nat)) :=
    cond (decide (s28_5 < ((a0.length : Nat) : Int))) (
      chk (in64 (s28_5 + 1)) <|
      ih (s28_5 + 1) ((putM s28_5 true o220_5 o220_5_2).1) ((putM s28_5 true o220_5 o220_5_2).2)) (
      some (s28_5, o220_5, o220_5_2))
def order_Sort_l5 (a0 : List T_api_Op) (a1 : List T_api_Op) : Nat → Int → Nat → (List (Int × Bool × Nat)) → Option (Int × Nat × List (Int × Bool × Nat))
  | 0 => fun _ _ _ => none
  | N + 1 => order_Sort_l5_f a0 a1 N (order_Sort_l5 a0 a1 N)
theorem order_Sort_l5_p0 {a0 : List T_api_Op} {a1 : List T_api_Op} {s28_5 : Int} {o220_5 : Nat} {o220_5_2 : List (Int × Bool × Nat)} (c1 : (decide (s28_5 < ((a0.length : Nat) : Int))) = true) (c2 : in64 (s28_5 + 1)) : Step order_Sort_f5 (order_Sort_l5_h a0 a1 s28_5 o220_5 o220_5_2) (.normal) (S5 0 90 [] [(5, .p 250 [] 0), (27, vi ((a0.length : Nat) : Int)), (28, vi (s28_5 + 1))] [(220, m0 ((putM s28_5 true o220_5 o220_5_2).1) ((putM s28_5 true o220_5 o220_5_2).2)), (230, m0 0 []), (250, .cell false (.ag [.v 100050 a0.length, v0 a1, .m 220, .m 230, .nils])), (100050, w0 a0)]) :=
  ⟨{ an := [(7005, .ents ((putM s28_5 true o220_5 o220_5_2).1) (encM (PV.i .i64) (fun x => AV.pv (.b x)) ((putM s28_5 true o220_5 o220_5_2).2)))], nv := [(5000, vb true), (8000, vi (s28_5 + 1))] }, [EB (decide (s28_5 < ((a0.length : Nat) : Int))) true, mapPut (.i .i64 s28_5) (vb true) o220_5 (encM (PV.i .i64) (fun x => AV.pv (.b x)) o220_5_2) = some (((putM s28_5 true o220_5 o220_5_2).1), encM (PV.i .i64) (fun x => AV.pv (.b x)) ((putM s28_5 true o220_5 o220_5_2).2)), EW (s28_5 + 1)], by kernel_rfl, (Ac (nv_b c1) (Ac (putM_ok (fv := (fun x => AV.pv (.b x))) key_i64 _ _ _ _) (Ac (nv_wrap c2) An)))⟩
theorem order_Sort_l5_p1 {a0 : List T_api_Op} {a1 : List T_api_Op} {s28_5 : Int} {o220_5 : Nat} {o220_5_2 : List (Int × Bool × Nat)} (c1 : (decide (s28_5 < ((a0.length : Nat) : Int))) = false) : Step order_Sort_f5 (order_Sort_l5_h a0 a1 s28_5 o220_5 o220_5_2) (.exit 0) (S5 0 90 [] [(5, .p 250 [] 0), (27, vi ((a0.length : Nat) : Int)), (28, vi s28_5), (29, vb false)] [(220, m0 o220_5 o220_5_2), (230, m0 0 []), (250, .cell false (.ag [.v 100050 a0.length, v0 a1, .m 220, .m 230, .nils])), (100050, w0 a0)]) :=
  ⟨{ nv := [(5000, vb false)] }, [EB (decide (s28_5 < ((a0.length : Nat) : Int))) false], by kernel_rfl, (Ac (nv_b c1) An)⟩
theorem order_Sort_l5_ok {a0 : List T_api_Op} {a1 : List T_api_Op} : ∀ {N : Nat} {s28_5 : Int} {o220_5 : Nat} {o220_5_2 : List (Int × Bool × Nat)} {z : Int × Nat × List (Int × Bool × Nat)}, order_Sort_l5 a0 a1 N s28_5 o220_5 o220_5_2 = some z → LoopP order_Sort_f5 (order_Sort_l5_h a0 a1 s28_5 o220_5 o220_5_2) (order_Sort_l5_e z) (order_Sort_l5_s a0 a1 z) := by
  intro N
  induction N with
  | zero => intro s28_5 o220_5 o220_5_2 z h; simp [order_Sort_l5] at h
  | succ N ih =>
    intro s28_5 o220_5 o220_5_2 z h
    change order_Sort_l5_f a0 a1 N (order_Sort_l5 a0 a1 N) s28_5 o220_5 o220_5_2 = some z at h
    unfold order_Sort_l5_f at h
    rcases cond_some h with ⟨c1, h⟩ | ⟨c1, h⟩
    · obtain ⟨c2, h⟩ := chk_some h
      exact Step.next (order_Sort_l5_p0 c1 c2) (ih h)
    · obtain rfl := Option.some.inj h
      exact Step.exit (order_Sort_l5_p1 c1)
noncomputable def order_Sort_f9 := codeO Try.prog order_Sort_hn (Valid Try.prog) 12 Try_c12_9
def order_Sort_l9_e : (Int × Nat × List (Int × Bool × Nat) × List T_api_Op) ⊕ (Int × List (Int × Bool × Nat) × Nat × List (Int × Bool × Nat) × List T_api_Op × List T_api_Op) → Ex
  | .inl _ => .exit 2
  | .inr _ => .exit 2
def order_Sort_l9_s (a0 : List T_api_Op) (a1 : List T_api_Op) (z5 : Int × Nat × List (Int × Bool × Nat)) : (Int × Nat × List (Int × Bool × Nat) × List T_api_Op) ⊕ (Int × List (Int × Bool × Nat) × Nat × List (Int × Bool × Nat) × List T_api_Op × List T_api_Op) → St
  | .inl z => S5 0 90 [] [(5, .p 250 [] 0), (7, vi z.1), (82, vb true)] [(220, m0 z5.2.1 z5.2.2), (230, m0 z.2.1 z.2.2.1), (250, .cell false (.ag [.v 100050 z.2.2.2.length, v0 a1, .m 220, .m 230, .nils])), (100050, w0 z.2.2.2)]
  | .inr z => S5 0 90 [] [(5, .p 250 [] 0), (7, vi z.1), (82, vb true)] [(220, m0 z5.2.1 z.2.1), (230, m0 z.2.2.1 z.2.2.2.1), (250, .cell false (.ag [.v 100050 z.2.2.2.2.1.length, v0 a1, .m 220, .m 230, .v 100180 z.2.2.2.2.2.length])), (100050, w0 z.2.2.2.2.1), (100180, w0 z.2.2.2.2.2)]
def order_Sort_l9_s1_h (a0 : List T_api_Op) (a1 : List T_api_Op) (z5 : Int × Nat × List (Int × Bool × Nat)) (o220_9 : List (Int × Bool × Nat)) (o230_9 : Nat) (o230_9_2 : List (Int × Bool × Nat)) (o100050_9 : List T_api_Op) (o100180_9 : List T_api_Op) : St := S5 0 90 [] [(5, .p 250 [] 0)] [(220, m0 z5.2.1 o220_9), (230, m0 o230_9 o230_9_2), (250, .cell false (.ag [.v 100050 o100050_9.length, v0 a1, .m 220, .m 230, .v 100180 o100180_9.length])), (100050, w0 o100050_9), (100180, w0 o100180_9)]
def order_Sort_l9_s1_f (a0 : List T_api_Op) (a1 : List T_api_Op) (z5 : Int × Nat × List (Int × Bool × Nat)) (N : Nat) (ih : (List (Int × Bool × Nat)) → Nat → (List (Int × Bool × Nat)) → List T_api_Op → List T_api_Op → Option ((Int × Nat × List (Int × Bool × Nat) × List T_api_Op) ⊕ (Int × List (Int × Bool × Nat) × Nat × List (Int × Bool × Nat) × List T_api_Op × List T_api_Op))) (o220_9 : List (Int × Bool × Nat)) (o230_9 : Nat) (o230_9_2 : List (Int × Bool × Nat)) (o100050_9 : List T_api_Op) (o100180_9 : List T_api_Op) : Option ((Int × Nat × List (Int × Bool × Nat) × List T_api_Op) ⊕ (Int × List (Int × Bool × Nat) × Nat × List (Int × Bool × Nat) × List T_api_Op × List T_api_Op)) :=
    (order_sorter_first_4 N z5.2.1 o220_9 o230_9 o230_9_2 a1 o100050_9 o100180_9).bind fun r1 =>
    cond (r1.2) (
      (order_sorter_next_2 r1.1 z5.2.1 o220_9 o230_9 o230_9_2 a1 o100050_9 o100180_9).bind fun r4 =>
      ih (delM r1.1 o220_9) o230_9 o230_9_2 o100050_9 r4) (
      (order_sorter_first_5 N z5.2.1 o220_9 o230_9 o230_9_2 a1 o100050_9 o100180_9).bind fun r4 =>
      cond (r4.2) (
        (getI a1 r4.1).bind fun e7 =>
        chk (0 ≤ r4.1 ∧ r4.1 < ((o100050_9.length : Nat) : Int)) <|
        optcase (findM r4.1 o230_9_2) (
          (atM ((o230_9 : Nat) : Int) true ((putM r4.1 false o230_9 o230_9_2).2)).bind fun m11 =>
          ih o220_9 ((putM r4.1 false o230_9 o230_9_2).1) m11 (o100050_9.set r4.1.toNat e7) o100180_9) fun e11 =>
          (atM ((e11.2 : Nat) : Int) true ((putM r4.1 e11.1 o230_9 o230_9_2).2)).bind fun m12 =>
          ih o220_9 ((putM r4.1 e11.1 o230_9 o230_9_2).1) m12 (o100050_9.set r4.1.toNat e7) o100180_9) (
        (order_sorter_first_6 N z5.2.1 o220_9 o230_9 o230_9_2 a1 o100050_9 o100180_9).bind fun r7 =>
        cond (r7.2) (
          (order_sorter_next_2 r7.1 z5.2.1 o220_9 o230_9 o230_9_2 a1 o100050_9 o100180_9).bind fun r10 =>
          ih (delM r7.1 o220_9) o230_9 o230_9_2 o100050_9 r10) (
          some (.inr ((r7.1, o220_9, o230_9, o230_9_2, o100050_9, o100180_9))))))
def order_Sort_l9_s1 (a0 : List T_api_Op) (a1 : List T_api_Op) (z5 : Int × Nat × List (Int × Bool × Nat)) : Nat → (List (Int × Bool × Nat)) → Nat → (List (Int × Bool × Nat)) → List T_api_Op → List T_api_Op → Option ((Int × Nat × List (Int × Bool × Nat) × List T_api_Op) ⊕ (Int × List (Int × Bool × Nat) × Nat × List (Int × Bool × Nat) × List T_api_Op × List T_api_Op))
  | 0 => fun _ _ _ _ _ => none
  | N + 1 => order_Sort_l9_s1_f a0 a1 z5 N (order_Sort_l9_s1 a0 a1 z5 N)
theorem order_Sort_l9_s1_p0 {N : Nat} {a0 : List T_api_Op} {a1 : List T_api_Op} {z5 : Int × Nat × List (Int × Bool × Nat)} {o220_9 : List (Int × Bool × Nat)} {o230_9 : Nat} {o230_9_2 : List (Int × Bool × Nat)} {o100050_9 : List T_api_Op} {o100180_9 : List T_api_Op} {r1 : Int × Bool} {r4 : List T_api_Op} (c2 : order_sorter_first_4 N z5.2.1 o220_9 o230_9 o230_9_2 a1 o100050_9 o100180_9 = some r1) (c3 : r1.2 = true) (c5 : order_sorter_next_2 r1.1 z5.2.1 o220_9 o230_9 o230_9_2 a1 o100050_9 o100180_9 = some r4) : Step order_Sort_f9 (order_Sort_l9_s1_h a0 a1 z5 o220_9 o230_9 o230_9_2 o100050_9 o100180_9) (.normal) (S5 0 90 [] [(5, .p 250 [] 0)] [(220, m0 z5.2.1 (delM r1.1 o220_9)), (230, m0 o230_9 o230_9_2), (250, .cell false (.ag [.v 100050 o100050_9.length, v0 a1, .m 220, .m 230, .v 100180 r4.length])), (100050, w0 o100050_9), (100180, w0 r4)]) :=
  ⟨{ an := [(9003, .call (.ret (.tup [vi r1.1, vb r1.2])) [(220, m0 z5.2.1 o220_9), (230, m0 o230_9 o230_9_2), (250, .cell false (.ag [.v 100050 o100050_9.length, v0 a1, .m 220, .m 230, .v 100180 o100180_9.length])), (100050, w0 o100050_9), (100180, w0 o100180_9)]), (11002, .call (.ret (.tup [])) [(220, m0 z5.2.1 (delM r1.1 o220_9)), (230, m0 o230_9 o230_9_2), (250, .cell false (.ag [.v 100050 o100050_9.length, v0 a1, .m 220, .m 230, .v 100180 r4.length])), (100050, w0 o100050_9), (100180, w0 r4)])], nv := [(9006, vb true)] }, [Vd Try.prog 0 (.fn (.func 20) [] []) [.p 250 [] 0, .fn (.func 21) [.p 250 [] 0] []] [(220, m0 z5.2.1 o220_9), (230, m0 o230_9 o230_9_2), (250, .cell false (.ag [.v 100050 o100050_9.length, v0 a1, .m 220, .m 230, .v 100180 o100180_9.length])), (100050, w0 o100050_9), (100180, w0 o100180_9)] (.tup [vi r1.1, vb r1.2]) [(220, m0 z5.2.1 o220_9), (230, m0 o230_9 o230_9_2), (250, .cell false (.ag [.v 100050 o100050_9.length, v0 a1, .m 220, .m 230, .v 100180 o100180_9.length])), (100050, w0 o100050_9), (100180, w0 o100180_9)], EB r1.2 true, Vd Try.prog 0 (.fn (.func 22) [] []) [.p 250 [] 0, vi r1.1] [(220, m0 z5.2.1 o220_9), (230, m0 o230_9 o230_9_2), (250, .cell false (.ag [.v 100050 o100050_9.length, v0 a1, .m 220, .m 230, .v 100180 o100180_9.length])), (100050, w0 o100050_9), (100180, w0 o100180_9)] (.tup []) [(220, m0 z5.2.1 (delM r1.1 o220_9)), (230, m0 o230_9 o230_9_2), (250, .cell false (.ag [.v 100050 o100050_9.length, v0 a1, .m 220, .m 230, .v 100180 r4.length])), (100050, w0 o100050_9), (100180, w0 r4)]], by kernel_rfl, (Ac (order_sorter_first_4_valid c2 _) (Ac (nv_b c3) (Ac (order_sorter_next_2_valid c5 _) An)))⟩
theorem order_Sort_l9_s1_p1 {N : Nat} {a0 : List T_api_Op} {a1 : List T_api_Op} {z5 : Int × Nat × List (Int × Bool × Nat)} {o220_9 : List (Int × Bool × Nat)} {o230_9 : Nat} {o230_9_2 : List (Int × Bool × Nat)} {o100050_9 : List T_api_Op} {o100180_9 : List T_api_Op} {r1 : Int × Bool} {r4 : Int × Bool} {e7 : T_api_Op} {m11 : List (Int × Bool × Nat)} (c2 : order_sorter_first_4 N z5.2.1 o220_9 o230_9 o230_9_2 a1 o100050_9 o100180_9 = some r1) (c3 : r1.2 = false) (c5 : order_sorter_first_5 N z5.2.1 o220_9 o230_9 o230_9_2 a1 o100050_9 o100180_9 = some r4) (c6 : r4.2 = true) (c8 : getI a1 r4.1 = some e7) (c9 : 0 ≤ r4.1 ∧ r4.1 < ((o100050_9.length : Nat) : Int)) (c10 : findM r4.1 o230_9_2 = none) (c12 : atM ((o230_9 : Nat) : Int) true ((putM r4.1 false o230_9 o230_9_2).2) = some m11) : Step order_Sort_f9 (order_Sort_l9_s1_h a0 a1 z5 o220_9 o230_9 o230_9_2 o100050_9 o100180_9) (.normal) (S5 0 90 [] [(5, .p 250 [] 0)] [(220, m0 z5.2.1 o220_9), (230, m0 ((putM r4.1 false o230_9 o230_9_2).1) m11), (250, .cell false (.ag [.v 100050 o100050_9.length, v0 a1, .m 220, .m 230, .v 100180 o100180_9.length])), (100050, w0 (o100050_9.set r4.1.toNat e7)), (100180, w0 o100180_9)]) :=
  ⟨{ an := [(9003, .call (.ret (.tup [vi r1.1, vb r1.2])) [(220, m0 z5.2.1 o220_9), (230, m0 o230_9 o230_9_2), (250, .cell false (.ag [.v 100050 o100050_9.length, v0 a1, .m 220, .m 230, .v 100180 o100180_9.length])), (100050, w0 o100050_9), (100180, w0 o100180_9)]), (12003, .call (.ret (.tup [vi r4.1, vb r4.2])) [(220, m0 z5.2.1 o220_9), (230, m0 o230_9 o230_9_2), (250, .cell false (.ag [.v 100050 o100050_9.length, v0 a1, .m 220, .m 230, .v 100180 o100180_9.length])), (100050, w0 o100050_9), (100180, w0 o100180_9)]), (14015, .pv (p1 e7)), (14019, .entry none ((putM r4.1 false o230_9 o230_9_2).1) (encM (PV.i .i64) (fun x => AV.pv (.b x)) ((putM r4.1 false o230_9 o230_9_2).2))), (14021, .ents 0 (encM (PV.i .i64) (fun x => AV.pv (.b x)) m11))], nv := [(9006, vb false), (12006, vb true)], no := [(14018, 100050, w0 (o100050_9.set r4.1.toNat e7))] }, [Vd Try.prog 0 (.fn (.func 20) [] []) [.p 250 [] 0, .fn (.func 21) [.p 250 [] 0] []] [(220, m0 z5.2.1 o220_9), (230, m0 o230_9 o230_9_2), (250, .cell false (.ag [.v 100050 o100050_9.length, v0 a1, .m 220, .m 230, .v 100180 o100180_9.length])), (100050, w0 o100050_9), (100180, w0 o100180_9)] (.tup [vi r1.1, vb r1.2]) [(220, m0 z5.2.1 o220_9), (230, m0 o230_9 o230_9_2), (250, .cell false (.ag [.v 100050 o100050_9.length, v0 a1, .m 220, .m 230, .v 100180 o100180_9.length])), (100050, w0 o100050_9), (100180, w0 o100180_9)], EB r1.2 false, Vd Try.prog 0 (.fn (.func 20) [] []) [.p 250 [] 0, .fn (.func 23) [.p 250 [] 0] []] [(220, m0 z5.2.1 o220_9), (230, m0 o230_9 o230_9_2), (250, .cell false (.ag [.v 100050 o100050_9.length, v0 a1, .m 220, .m 230, .v 100180 o100180_9.length])), (100050, w0 o100050_9), (100180, w0 o100180_9)] (.tup [vi r4.1, vb r4.2]) [(220, m0 z5.2.1 o220_9), (230, m0 o230_9 o230_9_2), (250, .cell false (.ag [.v 100050 o100050_9.length, v0 a1, .m 220, .m 230, .v 100180 o100180_9.length])), (100050, w0 o100050_9), (100180, w0 o100180_9)], EB r4.2 true, EG (p0 a1) r4.1 (p1 e7), 0 ≤ r4.1 ∧ r4.1 < ((o100050_9.length : Nat) : Int), (p0 o100050_9).len = o100050_9.length, r4.1.toNat < o100050_9.length, r4.1.toNat * 71 = r4.1.toNat * 71, AObj.vec false 71 (.l 71 ((o100050_9.map T_api_Op.enc).set r4.1.toNat (p1 e7))) = w0 (o100050_9.set r4.1.toNat e7), mapFind (.i .i64 r4.1) (encM (PV.i .i64) (fun x => AV.pv (.b x)) o230_9_2) = some none, mapPut (.i .i64 r4.1) (vb false) o230_9 (encM (PV.i .i64) (fun x => AV.pv (.b x)) o230_9_2) = some (((putM r4.1 false o230_9 o230_9_2).1), encM (PV.i .i64) (fun x => AV.pv (.b x)) ((putM r4.1 false o230_9 o230_9_2).2)), mapAt ((o230_9 : Nat) : Int) (vb true) (encM (PV.i .i64) (fun x => AV.pv (.b x)) ((putM r4.1 false o230_9 o230_9_2).2)) = some (encM (PV.i .i64) (fun x => AV.pv (.b x)) m11)], by kernel_rfl, (Ac (order_sorter_first_4_valid c2 _) (Ac (nv_b c3) (Ac (order_sorter_first_5_valid c5 _) (Ac (nv_b c6) (Ac (getI_ok c8 71 T_api_Op.enc) (Ac c9 (Ac (len_ok _ _ _) (Ac (idx_below c9) (Ac rfl (Ac (ob_set _ _ _ _ _ _) (Ac (findM_none (fv := (fun x => AV.pv (.b x))) key_i64 c10) (Ac (putM_ok (fv := (fun x => AV.pv (.b x))) key_i64 _ _ _ _) (Ac (atM_ok (fk := (PV.i .i64)) (fv := (fun x => AV.pv (.b x))) c12) An)))))))))))))⟩
theorem order_Sort_l9_s1_p2 {N : Nat} {a0 : List T_api_Op} {a1 : List T_api_Op} {z5 : Int × Nat × List (Int × Bool × Nat)} {o220_9 : List (Int × Bool × Nat)} {o230_9 : Nat} {o230_9_2 : List (Int × Bool × Nat)} {o100050_9 : List T_api_Op} {o100180_9 : List T_api_Op} {r1 : Int × Bool} {r4 : Int × Bool} {e7 : T_api_Op} {e11 : Bool × Nat} {m12 : List (Int × Bool × Nat)} (c2 : order_sorter_first_4 N z5.2.1 o220_9 o230_9 o230_9_2 a1 o100050_9 o100180_9 = some r1) (c3 : r1.2 = false) (c5 : order_sorter_first_5 N z5.2.1 o220_9 o230_9 o230_9_2 a1 o100050_9 o100180_9 = some r4) (c6 : r4.2 = true) (c8 : getI a1 r4.1 = some e7) (c9 : 0 ≤ r4.1 ∧ r4.1 < ((o100050_9.length : Nat) : Int)) (c10 : findM r4.1 o230_9_2 = some e11) (c13 : atM ((e11.2 : Nat) : Int) true ((putM r4.1 e11.1 o230_9 o230_9_2).2) = some m12) : Step order_Sort_f9 (order_Sort_l9_s1_h a0 a1 z5 o220_9 o230_9 o230_9_2 o100050_9 o100180_9) (.normal) (S5 0 90 [] [(5, .p 250 [] 0)] [(220, m0 z5.2.1 o220_9), (230, m0 ((putM r4.1 e11.1 o230_9 o230_9_2).1) m12), (250, .cell false (.ag [.v 100050 o100050_9.length, v0 a1, .m 220, .m 230, .v 100180 o100180_9.length])), (100050, w0 (o100050_9.set r4.1.toNat e7)), (100180, w0 o100180_9)]) :=
  ⟨{ an := [(9003, .call (.ret (.tup [vi r1.1, vb r1.2])) [(220, m0 z5.2.1 o220_9), (230, m0 o230_9 o230_9_2), (250, .cell false (.ag [.v 100050 o100050_9.length, v0 a1, .m 220, .m 230, .v 100180 o100180_9.length])), (100050, w0 o100050_9), (100180, w0 o100180_9)]), (12003, .call (.ret (.tup [vi r4.1, vb r4.2])) [(220, m0 z5.2.1 o220_9), (230, m0 o230_9 o230_9_2), (250, .cell false (.ag [.v 100050 o100050_9.length, v0 a1, .m 220, .m 230, .v 100180 o100180_9.length])), (100050, w0 o100050_9), (100180, w0 o100180_9)]), (14015, .pv (p1 e7)), (14019, .entry (some (vb e11.1, e11.2)) ((putM r4.1 e11.1 o230_9 o230_9_2).1) (encM (PV.i .i64) (fun x => AV.pv (.b x)) ((putM r4.1 e11.1 o230_9 o230_9_2).2))), (14021, .ents 0 (encM (PV.i .i64) (fun x => AV.pv (.b x)) m12))], nv := [(9006, vb false), (12006, vb true)], no := [(14018, 100050, w0 (o100050_9.set r4.1.toNat e7))] }, [Vd Try.prog 0 (.fn (.func 20) [] []) [.p 250 [] 0, .fn (.func 21) [.p 250 [] 0] []] [(220, m0 z5.2.1 o220_9), (230, m0 o230_9 o230_9_2), (250, .cell false (.ag [.v 100050 o100050_9.length, v0 a1, .m 220, .m 230, .v 100180 o100180_9.length])), (100050, w0 o100050_9), (100180, w0 o100180_9)] (.tup [vi r1.1, vb r1.2]) [(220, m0 z5.2.1 o220_9), (230, m0 o230_9 o230_9_2), (250, .cell false (.ag [.v 100050 o100050_9.length, v0 a1, .m 220, .m 230, .v 100180 o100180_9.length])), (100050, w0 o100050_9), (100180, w0 o100180_9)], EB r1.2 false, Vd Try.prog 0 (.fn (.func 20) [] []) [.p 250 [] 0, .fn (.func 23) [.p 250 [] 0] []] [(220, m0 z5.2.1 o220_9), (230, m0 o230_9 o230_9_2), (250, .cell false (.ag [.v 100050 o100050_9.length, v0 a1, .m 220, .m 230, .v 100180 o100180_9.length])), (100050, w0 o100050_9), (100180, w0 o100180_9)] (.tup [vi r4.1, vb r4.2]) [(220, m0 z5.2.1 o220_9), (230, m0 o230_9 o230_9_2), (250, .cell false (.ag [.v 100050 o100050_9.length, v0 a1, .m 220, .m 230, .v 100180 o100180_9.length])), (100050, w0 o100050_9), (100180, w0 o100180_9)], EB r4.2 true, EG (p0 a1) r4.1 (p1 e7), 0 ≤ r4.1 ∧ r4.1 < ((o100050_9.length : Nat) : Int), (p0 o100050_9).len = o100050_9.length, r4.1.toNat < o100050_9.length, r4.1.toNat * 71 = r4.1.toNat * 71, AObj.vec false 71 (.l 71 ((o100050_9.map T_api_Op.enc).set r4.1.toNat (p1 e7))) = w0 (o100050_9.set r4.1.toNat e7), mapFind (.i .i64 r4.1) (encM (PV.i .i64) (fun x => AV.pv (.b x)) o230_9_2) = some (some (vb e11.1, e11.2)), mapPut (.i .i64 r4.1) (vb e11.1) o230_9 (encM (PV.i .i64) (fun x => AV.pv (.b x)) o230_9_2) = some (((putM r4.1 e11.1 o230_9 o230_9_2).1), encM (PV.i .i64) (fun x => AV.pv (.b x)) ((putM r4.1 e11.1 o230_9 o230_9_2).2)), mapAt ((e11.2 : Nat) : Int) (vb true) (encM (PV.i .i64) (fun x => AV.pv (.b x)) ((putM r4.1 e11.1 o230_9 o230_9_2).2)) = some (encM (PV.i .i64) (fun x => AV.pv (.b x)) m12)], by kernel_rfl, (Ac (order_sorter_first_4_valid c2 _) (Ac (nv_b c3) (Ac (order_sorter_first_5_valid c5 _) (Ac (nv_b c6) (Ac (getI_ok c8 71 T_api_Op.enc) (Ac c9 (Ac (len_ok _ _ _) (Ac (idx_below c9) (Ac rfl (Ac (ob_set _ _ _ _ _ _) (Ac (findM_some (fv := (fun x => AV.pv (.b x))) key_i64 c10) (Ac (putM_ok (fv := (fun x => AV.pv (.b x))) key_i64 _ _ _ _) (Ac (atM_ok (fk := (PV.i .i64)) (fv := (fun x => AV.pv (.b x))) c13) An)))))))))))))⟩
theorem order_Sort_l9_s1_p3 {N : Nat} {a0 : List T_api_Op} {a1 : List T_api_Op} {z5 : Int × Nat × List (Int × Bool × Nat)} {o220_9 : List (Int × Bool × Nat)} {o230_9 : Nat} {o230_9_2 : List (Int × Bool × Nat)} {o100050_9 : List T_api_Op} {o100180_9 : List T_api_Op} {r1 : Int × Bool} {r4 : Int × Bool} {r7 : Int × Bool} {r10 : List T_api_Op} (c2 : order_sorter_first_4 N z5.2.1 o220_9 o230_9 o230_9_2 a1 o100050_9 o100180_9 = some r1) (c3 : r1.2 = false) (c5 : order_sorter_first_5 N z5.2.1 o220_9 o230_9 o230_9_2 a1 o100050_9 o100180_9 = some r4) (c6 : r4.2 = false) (c8 : order_sorter_first_6 N z5.2.1 o220_9 o230_9 o230_9_2 a1 o100050_9 o100180_9 = some r7) (c9 : r7.2 = true) (c11 : order_sorter_next_2 r7.1 z5.2.1 o220_9 o230_9 o230_9_2 a1 o100050_9 o100180_9 = some r10) : Step order_Sort_f9 (order_Sort_l9_s1_h a0 a1 z5 o220_9 o230_9 o230_9_2 o100050_9 o100180_9) (.normal) (S5 0 90 [] [(5, .p 250 [] 0)] [(220, m0 z5.2.1 (delM r7.1 o220_9)), (230, m0 o230_9 o230_9_2), (250, .cell false (.ag [.v 100050 o100050_9.length, v0 a1, .m 220, .m 230, .v 100180 r10.length])), (100050, w0 o100050_9), (100180, w0 r10)]) :=
  ⟨{ an := [(9003, .call (.ret (.tup [vi r1.1, vb r1.2])) [(220, m0 z5.2.1 o220_9), (230, m0 o230_9 o230_9_2), (250, .cell false (.ag [.v 100050 o100050_9.length, v0 a1, .m 220, .m 230, .v 100180 o100180_9.length])), (100050, w0 o100050_9), (100180, w0 o100180_9)]), (12003, .call (.ret (.tup [vi r4.1, vb r4.2])) [(220, m0 z5.2.1 o220_9), (230, m0 o230_9 o230_9_2), (250, .cell false (.ag [.v 100050 o100050_9.length, v0 a1, .m 220, .m 230, .v 100180 o100180_9.length])), (100050, w0 o100050_9), (100180, w0 o100180_9)]), (15001, .call (.ret (.tup [vi r7.1, vb r7.2])) [(220, m0 z5.2.1 o220_9), (230, m0 o230_9 o230_9_2), (250, .cell false (.ag [.v 100050 o100050_9.length, v0 a1, .m 220, .m 230, .v 100180 o100180_9.length])), (100050, w0 o100050_9), (100180, w0 o100180_9)]), (17002, .call (.ret (.tup [])) [(220, m0 z5.2.1 (delM r7.1 o220_9)), (230, m0 o230_9 o230_9_2), (250, .cell false (.ag [.v 100050 o100050_9.length, v0 a1, .m 220, .m 230, .v 100180 r10.length])), (100050, w0 o100050_9), (100180, w0 r10)])], nv := [(9006, vb false), (12006, vb false), (15004, vb true)] }, [Vd Try.prog 0 (.fn (.func 20) [] []) [.p 250 [] 0, .fn (.func 21) [.p 250 [] 0] []] [(220, m0 z5.2.1 o220_9), (230, m0 o230_9 o230_9_2), (250, .cell false (.ag [.v 100050 o100050_9.length, v0 a1, .m 220, .m 230, .v 100180 o100180_9.length])), (100050, w0 o100050_9), (100180, w0 o100180_9)] (.tup [vi r1.1, vb r1.2]) [(220, m0 z5.2.1 o220_9), (230, m0 o230_9 o230_9_2), (250, .cell false (.ag [.v 100050 o100050_9.length, v0 a1, .m 220, .m 230, .v 100180 o100180_9.length])), (100050, w0 o100050_9), (100180, w0 o100180_9)], EB r1.2 false, Vd Try.prog 0 (.fn (.func 20) [] []) [.p 250 [] 0, .fn (.func 23) [.p 250 [] 0] []] [(220, m0 z5.2.1 o220_9), (230, m0 o230_9 o230_9_2), (250, .cell false (.ag [.v 100050 o100050_9.length, v0 a1, .m 220, .m 230, .v 100180 o100180_9.length])), (100050, w0 o100050_9), (100180, w0 o100180_9)] (.tup [vi r4.1, vb r4.2]) [(220, m0 z5.2.1 o220_9), (230, m0 o230_9 o230_9_2), (250, .cell false (.ag [.v 100050 o100050_9.length, v0 a1, .m 220, .m 230, .v 100180 o100180_9.length])), (100050, w0 o100050_9), (100180, w0 o100180_9)], EB r4.2 false, Vd Try.prog 0 (.fn (.func 20) [] []) [.p 250 [] 0, .fn (.func 24) [] []] [(220, m0 z5.2.1 o220_9), (230, m0 o230_9 o230_9_2), (250, .cell false (.ag [.v 100050 o100050_9.length, v0 a1, .m 220, .m 230, .v 100180 o100180_9.length])), (100050, w0 o100050_9), (100180, w0 o100180_9)] (.tup [vi r7.1, vb r7.2]) [(220, m0 z5.2.1 o220_9), (230, m0 o230_9 o230_9_2), (250, .cell false (.ag [.v 100050 o100050_9.length, v0 a1, .m 220, .m 230, .v 100180 o100180_9.length])), (100050, w0 o100050_9), (100180, w0 o100180_9)], EB r7.2 true, Vd Try.prog 0 (.fn (.func 22) [] []) [.p 250 [] 0, vi r7.1] [(220, m0 z5.2.1 o220_9), (230, m0 o230_9 o230_9_2), (250, .cell false (.ag [.v 100050 o100050_9.length, v0 a1, .m 220, .m 230, .v 100180 o100180_9.length])), (100050, w0 o100050_9), (100180, w0 o100180_9)] (.tup []) [(220, m0 z5.2.1 (delM r7.1 o220_9)), (230, m0 o230_9 o230_9_2), (250, .cell false (.ag [.v 100050 o100050_9.length, v0 a1, .m 220, .m 230, .v 100180 r10.length])), (100050, w0 o100050_9), (100180, w0 r10)]], by kernel_rfl, (Ac (order_sorter_first_4_valid c2 _) (Ac (nv_b c3) (Ac (order_sorter_first_5_valid c5 _) (Ac (nv_b c6) (Ac (order_sorter_first_6_valid c8 _) (Ac (nv_b c9) (Ac (order_sorter_next_2_valid c11 _) An)))))))⟩
theorem order_Sort_l9_s1_p4 {N : Nat} {a0 : List T_api_Op} {a1 : List T_api_Op} {z5 : Int × Nat × List (Int × Bool × Nat)} {o220_9 : List (Int × Bool × Nat)} {o230_9 : Nat} {o230_9_2 : List (Int × Bool × Nat)} {o100050_9 : List T_api_Op} {o100180_9 : List T_api_Op} {r1 : Int × Bool} {r4 : Int × Bool} {r7 : Int × Bool} (c2 : order_sorter_first_4 N z5.2.1 o220_9 o230_9 o230_9_2 a1 o100050_9 o100180_9 = some r1) (c3 : r1.2 = false) (c5 : order_sorter_first_5 N z5.2.1 o220_9 o230_9 o230_9_2 a1 o100050_9 o100180_9 = some r4) (c6 : r4.2 = false) (c8 : order_sorter_first_6 N z5.2.1 o220_9 o230_9 o230_9_2 a1 o100050_9 o100180_9 = some r7) (c9 : r7.2 = false) : Step order_Sort_f9 (order_Sort_l9_s1_h a0 a1 z5 o220_9 o230_9 o230_9_2 o100050_9 o100180_9) (.exit 2) (S5 0 90 [] [(5, .p 250 [] 0), (7, vi r7.1), (82, vb true)] [(220, m0 z5.2.1 o220_9), (230, m0 o230_9 o230_9_2), (250, .cell false (.ag [.v 100050 o100050_9.length, v0 a1, .m 220, .m 230, .v 100180 o100180_9.length])), (100050, w0 o100050_9), (100180, w0 o100180_9)]) :=
  ⟨{ an := [(9003, .call (.ret (.tup [vi r1.1, vb r1.2])) [(220, m0 z5.2.1 o220_9), (230, m0 o230_9 o230_9_2), (250, .cell false (.ag [.v 100050 o100050_9.length, v0 a1, .m 220, .m 230, .v 100180 o100180_9.length])), (100050, w0 o100050_9), (100180, w0 o100180_9)]), (12003, .call (.ret (.tup [vi r4.1, vb r4.2])) [(220, m0 z5.2.1 o220_9), (230, m0 o230_9 o230_9_2), (250, .cell false (.ag [.v 100050 o100050_9.length, v0 a1, .m 220, .m 230, .v 100180 o100180_9.length])), (100050, w0 o100050_9), (100180, w0 o100180_9)]), (15001, .call (.ret (.tup [vi r7.1, vb r7.2])) [(220, m0 z5.2.1 o220_9), (230, m0 o230_9 o230_9_2), (250, .cell false (.ag [.v 100050 o100050_9.length, v0 a1, .m 220, .m 230, .v 100180 o100180_9.length])), (100050, w0 o100050_9), (100180, w0 o100180_9)])], nv := [(9006, vb false), (12006, vb false), (15004, vb false)] }, [Vd Try.prog 0 (.fn (.func 20) [] []) [.p 250 [] 0, .fn (.func 21) [.p 250 [] 0] []] [(220, m0 z5.2.1 o220_9), (230, m0 o230_9 o230_9_2), (250, .cell false (.ag [.v 100050 o100050_9.length, v0 a1, .m 220, .m 230, .v 100180 o100180_9.length])), (100050, w0 o100050_9), (100180, w0 o100180_9)] (.tup [vi r1.1, vb r1.2]) [(220, m0 z5.2.1 o220_9), (230, m0 o230_9 o230_9_2), (250, .cell false (.ag [.v 100050 o100050_9.length, v0 a1, .m 220, .m 230, .v 100180 o100180_9.length])), (100050, w0 o100050_9), (100180, w0 o100180_9)], EB r1.2 false, Vd Try.prog 0 (.fn (.func 20) [] []) [.p 250 [] 0, .fn (.func 23) [.p 250 [] 0] []] [(220, m0 z5.2.1 o220_9), (230, m0 o230_9 o230_9_2), (250, .cell false (.ag [.v 100050 o100050_9.length, v0 a1, .m 220, .m 230, .v 100180 o100180_9.length])), (100050, w0 o100050_9), (100180, w0 o100180_9)] (.tup [vi r4.1, vb r4.2]) [(220, m0 z5.2.1 o220_9), (230, m0 o230_9 o230_9_2), (250, .cell false (.ag [.v 100050 o100050_9.length, v0 a1, .m 220, .m 230, .v 100180 o100180_9.length])), (100050, w0 o100050_9), (100180, w0 o100180_9)], EB r4.2 false, Vd Try.prog 0 (.fn (.func 20) [] []) [.p 250 [] 0, .fn (.func 24) [] []] [(220, m0 z5.2.1 o220_9), (230, m0 o230_9 o230_9_2), (250, .cell false (.ag [.v 100050 o100050_9.length, v0 a1, .m 220, .m 230, .v 100180 o100180_9.length])), (100050, w0 o100050_9), (100180, w0 o100180_9)] (.tup [vi r7.1, vb r7.2]) [(220, m0 z5.2.1 o220_9), (230, m0 o230_9 o230_9_2), (250, .cell false (.ag [.v 100050 o100050_9.length, v0 a1, .m 220, .m 230, .v 100180 o100180_9.length])), (100050, w0 o100050_9), (100180, w0 o100180_9)], EB r7.2 false], by kernel_rfl, (Ac (order_sorter_first_4_valid c2 _) (Ac (nv_b c3) (Ac (order_sorter_first_5_valid c5 _) (Ac (nv_b c6) (Ac (order_sorter_first_6_valid c8 _) (Ac (nv_b c9) An))))))⟩
theorem order_Sort_l9_s1_ok {a0 : List T_api_Op} {a1 : List T_api_Op} {z5 : Int × Nat × List (Int × Bool × Nat)} : ∀ {N : Nat} {o220_9 : List (Int × Bool × Nat)} {o230_9 : Nat} {o230_9_2 : List (Int × Bool × Nat)} {o100050_9 : List T_api_Op} {o100180_9 : List T_api_Op} {z : (Int × Nat × List (Int × Bool × Nat) × List T_api_Op) ⊕ (Int × List (Int × Bool × Nat) × Nat × List (Int × Bool × Nat) × List T_api_Op × List T_api_Op)}, order_Sort_l9_s1 a0 a1 z5 N o220_9 o230_9 o230_9_2 o100050_9 o100180_9 = some z → LoopP order_Sort_f9 (order_Sort_l9_s1_h a0 a1 z5 o220_9 o230_9 o230_9_2 o100050_9 o100180_9) (order_Sort_l9_e z) (order_Sort_l9_s a0 a1 z5 z) := by
  intro N
  induction N with
  | zero => intro o220_9 o230_9 o230_9_2 o100050_9 o100180_9 z h; simp [order_Sort_l9_s1] at h
  | succ N ih =>
    intro o220_9 o230_9 o230_9_2 o100050_9 o100180_9 z h
    change order_Sort_l9_s1_f a0 a1 z5 N (order_Sort_l9_s1 a0 a1 z5 N) o220_9 o230_9 o230_9_2 o100050_9 o100180_9 = some z at h
    unfold order_Sort_l9_s1_f at h
    obtain ⟨r1, c2, h⟩ := bind_some h
    rcases cond_some h with ⟨c3, h⟩ | ⟨c3, h⟩
    · obtain ⟨r4, c5, h⟩ := bind_some h
      exact Step.next (order_Sort_l9_s1_p0 c2 c3 c5) (ih h)
    · obtain ⟨r4, c5, h⟩ := bind_some h
      rcases cond_some h with ⟨c6, h⟩ | ⟨c6, h⟩
      · obtain ⟨e7, c8, h⟩ := bind_some h
        obtain ⟨c9, h⟩ := chk_some h
        rcases optcase_some h with ⟨c10, h⟩ | ⟨e11, c10, h⟩
        · obtain ⟨m11, c12, h⟩ := bind_some h
          have q := ih h
          simp only [order_Sort_l9_s1_h, List.length_set, List.length_replicate] at q
          exact Step.next (order_Sort_l9_s1_p1 c2 c3 c5 c6 c8 c9 c10 c12) q
        · obtain ⟨m12, c13, h⟩ := bind_some h
          have q := ih h
          simp only [order_Sort_l9_s1_h, List.length_set, List.length_replicate] at q
          exact Step.next (order_Sort_l9_s1_p2 c2 c3 c5 c6 c8 c9 c10 c13) q
      · obtain ⟨r7, c8, h⟩ := bind_some h
        rcases cond_some h with ⟨c9, h⟩ | ⟨c9, h⟩
        · obtain ⟨r10, c11, h⟩ := bind_some h
          exact Step.next (order_Sort_l9_s1_p3 c2 c3 c5 c6 c8 c9 c11) (ih h)
        · obtain rfl := Option.some.inj h
          exact Step.exit (order_Sort_l9_s1_p4 c2 c3 c5 c6 c8 c9)
def order_Sort_l9_s2_h (a0 : List T_api_Op) (a1 : List T_api_Op) (z5 : Int × Nat × List (Int × Bool × Nat)) (o230_9 : Nat) (o230_9_2 : List (Int × Bool × Nat)) (o100050_9 : List T_api_Op) : St := S5 0 90 [] [(5, .p 250 [] 0)] [(220, m0 z5.2.1 z5.2.2), (230, m0 o230_9 o230_9_2), (250, .cell false (.ag [.v 100050 o100050_9.length, v0 a1, .m 220, .m 230, .nils])), (100050, w0 o100050_9)]
def order_Sort_l9_s2_f (a0 : List T_api_Op) (a1 : List T_api_Op) (z5 : Int × Nat × List (Int × Bool × Nat)) (N : Nat) (ih : Nat → (List (Int × Bool × Nat)) → List T_api_Op → Option ((Int × Nat × List (Int × Bool × Nat) × List T_api_Op) ⊕ (Int × List (Int × Bool × Nat) × Nat × List (Int × Bool × Nat) × List T_api_Op × List T_api_Op))) (o230_9 : Nat) (o230_9_2 : List (Int × Bool × Nat)) (o100050_9 : List T_api_Op) : Option ((Int × Nat × List (Int × Bool × Nat) × List T_api_Op) ⊕ (Int × List (Int × Bool × Nat) × Nat × List (Int × Bool × Nat) × List T_api_Op × List T_api_Op)) :=
    (order_sorter_first N z5.2.1 z5.2.2 o230_9 o230_9_2 a1 o100050_9).bind fun r1 =>
    cond (r1.2) (
      (order_sorter_next r1.1 z5.2.1 z5.2.2 o230_9 o230_9_2 a1 o100050_9).bind fun r4 =>
      order_Sort_l9_s1 a0 a1 z5 N (delM r1.1 z5.2.2) o230_9 o230_9_2 o100050_9 r4) (
      (order_sorter_first_2 N z5.2.1 z5.2.2 o230_9 o230_9_2 a1 o100050_9).bind fun r4 =>
      cond (r4.2) (
        (getI a1 r4.1).bind fun e7 =>
        chk (0 ≤ r4.1 ∧ r4.1 < ((o100050_9.length : Nat) : Int)) <|
        optcase (findM r4.1 o230_9_2) (
          (atM ((o230_9 : Nat) : Int) true ((putM r4.1 false o230_9 o230_9_2).2)).bind fun m11 =>
          ih ((putM r4.1 false o230_9 o230_9_2).1) m11 (o100050_9.set r4.1.toNat e7)) fun e11 =>
          (atM ((e11.2 : Nat) : Int) true ((putM r4.1 e11.1 o230_9 o230_9_2).2)).bind fun m12 =>
          ih ((putM r4.1 e11.1 o230_9 o230_9_2).1) m12 (o100050_9.set r4.1.toNat e7)) (
        (order_sorter_first_3 N z5.2.1 z5.2.2 o230_9 o230_9_2 a1 o100050_9).bind fun r7 =>
        cond (r7.2) (
          (order_sorter_next r7.1 z5.2.1 z5.2.2 o230_9 o230_9_2 a1 o100050_9).bind fun r10 =>
          order_Sort_l9_s1 a0 a1 z5 N (delM r7.1 z5.2.2) o230_9 o230_9_2 o100050_9 r10) (
          some (.inl ((r7.1, o230_9, o230_9_2, o100050_9))))))
def order_Sort_l9_s2 (a0 : List T_api_Op) (a1 : List T_api_Op) (z5 : Int × Nat × List (Int × Bool × Nat)) : Nat → Nat → (List (Int × Bool × Nat)) → List T_api_Op → Option ((Int × Nat × List (Int × Bool × Nat) × List T_api_Op) ⊕ (Int × List (Int × Bool × Nat) × Nat × List (Int × Bool × Nat) × List T_api_Op × List T_api_Op))
  | 0 => fun _ _ _ => none
  | N + 1 => order_Sort_l9_s2_f a0 a1 z5 N (order_Sort_l9_s2 a0 a1 z5 N)
theorem order_Sort_l9_s2_p0 {N : Nat} {a0 : List T_api_Op} {a1 : List T_api_Op} {z5 : Int × Nat × List (Int × Bool × Nat)} {o230_9 : Nat} {o230_9_2 : List (Int × Bool × Nat)} {o100050_9 : List T_api_Op} {r1 : Int × Bool} {r4 : List T_api_Op} (c2 : order_sorter_first N z5.2.1 z5.2.2 o230_9 o230_9_2 a1 o100050_9 = some r1) (c3 : r1.2 = true) (c5 : order_sorter_next r1.1 z5.2.1 z5.2.2 o230_9 o230_9_2 a1 o100050_9 = some r4) : Step order_Sort_f9 (order_Sort_l9_s2_h a0 a1 z5 o230_9 o230_9_2 o100050_9) (.normal) (S5 0 90 [] [(5, .p 250 [] 0)] [(220, m0 z5.2.1 (delM r1.1 z5.2.2)), (230, m0 o230_9 o230_9_2), (250, .cell false (.ag [.v 100050 o100050_9.length, v0 a1, .m 220, .m 230, .v 100180 r4.length])), (100050, w0 o100050_9), (100180, w0 r4)]) :=
  ⟨{ an := [(9003, .call (.ret (.tup [vi r1.1, vb r1.2])) [(220, m0 z5.2.1 z5.2.2), (230, m0 o230_9 o230_9_2), (250, .cell false (.ag [.v 100050 o100050_9.length, v0 a1, .m 220, .m 230, .nils])), (100050, w0 o100050_9)]), (11002, .call (.ret (.tup [])) [(220, m0 z5.2.1 (delM r1.1 z5.2.2)), (230, m0 o230_9 o230_9_2), (250, .cell false (.ag [.v 100050 o100050_9.length, v0 a1, .m 220, .m 230, .v 100180 r4.length])), (100050, w0 o100050_9), (100180, w0 r4)])], nv := [(9006, vb true)] }, [Vd Try.prog 0 (.fn (.func 20) [] []) [.p 250 [] 0, .fn (.func 21) [.p 250 [] 0] []] [(220, m0 z5.2.1 z5.2.2), (230, m0 o230_9 o230_9_2), (250, .cell false (.ag [.v 100050 o100050_9.length, v0 a1, .m 220, .m 230, .nils])), (100050, w0 o100050_9)] (.tup [vi r1.1, vb r1.2]) [(220, m0 z5.2.1 z5.2.2), (230, m0 o230_9 o230_9_2), (250, .cell false (.ag [.v 100050 o100050_9.length, v0 a1, .m 220, .m 230, .nils])), (100050, w0 o100050_9)], EB r1.2 true, Vd Try.prog 0 (.fn (.func 22) [] []) [.p 250 [] 0, vi r1.1] [(220, m0 z5.2.1 z5.2.2), (230, m0 o230_9 o230_9_2), (250, .cell false (.ag [.v 100050 o100050_9.length, v0 a1, .m 220, .m 230, .nils])), (100050, w0 o100050_9)] (.tup []) [(220, m0 z5.2.1 (delM r1.1 z5.2.2)), (230, m0 o230_9 o230_9_2), (250, .cell false (.ag [.v 100050 o100050_9.length, v0 a1, .m 220, .m 230, .v 100180 r4.length])), (100050, w0 o100050_9), (100180, w0 r4)]], by kernel_rfl, (Ac (order_sorter_first_valid c2 _) (Ac (nv_b c3) (Ac (order_sorter_next_valid c5 _) An)))⟩
theorem order_Sort_l9_s2_p1 {N : Nat} {a0 : List T_api_Op} {a1 : List T_api_Op} {z5 : Int × Nat × List (Int × Bool × Nat)} {o230_9 : Nat} {o230_9_2 : List (Int × Bool × Nat)} {o100050_9 : List T_api_Op} {r1 : Int × Bool} {r4 : Int × Bool} {e7 : T_api_Op} {m11 : List (Int × Bool × Nat)} (c2 : order_sorter_first N z5.2.1 z5.2.2 o230_9 o230_9_2 a1 o100050_9 = some r1) (c3 : r1.2 = false) (c5 : order_sorter_first_2 N z5.2.1 z5.2.2 o230_9 o230_9_2 a1 o100050_9 = some r4) (c6 : r4.2 = true) (c8 : getI a1 r4.1 = some e7) (c9 : 0 ≤ r4.1 ∧ r4.1 < ((o100050_9.length : Nat) : Int)) (c10 : findM r4.1 o230_9_2 = none) (c12 : atM ((o230_9 : Nat) : Int) true ((putM r4.1 false o230_9 o230_9_2).2) = some m11) : Step order_Sort_f9 (order_Sort_l9_s2_h a0 a1 z5 o230_9 o230_9_2 o100050_9) (.normal) (S5 0 90 [] [(5, .p 250 [] 0)] [(220, m0 z5.2.1 z5.2.2), (230, m0 ((putM r4.1 false o230_9 o230_9_2).1) m11), (250, .cell false (.ag [.v 100050 o100050_9.length, v0 a1, .m 220, .m 230, .nils])), (100050, w0 (o100050_9.set r4.1.toNat e7))]) :=
  ⟨{ an := [(9003, .call (.ret (.tup [vi r1.1, vb r1.2])) [(220, m0 z5.2.1 z5.2.2), (230, m0 o230_9 o230_9_2), (250, .cell false (.ag [.v 100050 o100050_9.length, v0 a1, .m 220, .m 230, .nils])), (100050, w0 o100050_9)]), (12003, .call (.ret (.tup [vi r4.1, vb r4.2])) [(220, m0 z5.2.1 z5.2.2), (230, m0 o230_9 o230_9_2), (250, .cell false (.ag [.v 100050 o100050_9.length, v0 a1, .m 220, .m 230, .nils])), (100050, w0 o100050_9)]), (14015, .pv (p1 e7)), (14019, .entry none ((putM r4.1 false o230_9 o230_9_2).1) (encM (PV.i .i64) (fun x => AV.pv (.b x)) ((putM r4.1 false o230_9 o230_9_2).2))), (14021, .ents 0 (encM (PV.i .i64) (fun x => AV.pv (.b x)) m11))], nv := [(9006, vb false), (12006, vb true)], no := [(14018, 100050, w0 (o100050_9.set r4.1.toNat e7))] }, [Vd Try.prog 0 (.fn (.func 20) [] []) [.p 250 [] 0, .fn (.func 21) [.p 250 [] 0] []] [(220, m0 z5.2.1 z5.2.2), (230, m0 o230_9 o230_9_2), (250, .cell false (.ag [.v 100050 o100050_9.length, v0 a1, .m 220, .m 230, .nils])), (100050, w0 o100050_9)] (.tup [vi r1.1, vb r1.2]) [(220, m0 z5.2.1 z5.2.2), (230, m0 o230_9 o230_9_2), (250, .cell false (.ag [.v 100050 o100050_9.length, v0 a1, .m 220, .m 230, .nils])), (100050, w0 o100050_9)], EB r1.2 false, Vd Try.prog 0 (.fn (.func 20) [] []) [.p 250 [] 0, .fn (.func 23) [.p 250 [] 0] []] [(220, m0 z5.2.1 z5.2.2), (230, m0 o230_9 o230_9_2), (250, .cell false (.ag [.v 100050 o100050_9.length, v0 a1, .m 220, .m 230, .nils])), (100050, w0 o100050_9)] (.tup [vi r4.1, vb r4.2]) [(220, m0 z5.2.1 z5.2.2), (230, m0 o230_9 o230_9_2), (250, .cell false (.ag [.v 100050 o100050_9.length, v0 a1, .m 220, .m 230, .nils])), (100050, w0 o100050_9)], EB r4.2 true, EG (p0 a1) r4.1 (p1 e7), 0 ≤ r4.1 ∧ r4.1 < ((o100050_9.length : Nat) : Int), (p0 o100050_9).len = o100050_9.length, r4.1.toNat < o100050_9.length, r4.1.toNat * 71 = r4.1.toNat * 71, AObj.vec false 71 (.l 71 ((o100050_9.map T_api_Op.enc).set r4.1.toNat (p1 e7))) = w0 (o100050_9.set r4.1.toNat e7), mapFind (.i .i64 r4.1) (encM (PV.i .i64) (fun x => AV.pv (.b x)) o230_9_2) = some none, mapPut (.i .i64 r4.1) (vb false) o230_9 (encM (PV.i .i64) (fun x => AV.pv (.b x)) o230_9_2) = some (((putM r4.1 false o230_9 o230_9_2).1), encM (PV.i .i64) (fun x => AV.pv (.b x)) ((putM r4.1 false o230_9 o230_9_2).2)), mapAt ((o230_9 : Nat) : Int) (vb true) (encM (PV.i .i64) (fun x => AV.pv (.b x)) ((putM r4.1 false o230_9 o230_9_2).2)) = some (encM (PV.i .i64) (fun x => AV.pv (.b x)) m11)], by kernel_rfl, (Ac (order_sorter_first_valid c2 _) (Ac (nv_b c3) (Ac (order_sorter_first_2_valid c5 _) (Ac (nv_b c6) (Ac (getI_ok c8 71 T_api_Op.enc) (Ac c9 (Ac (len_ok _ _ _) (Ac (idx_below c9) (Ac rfl (Ac (ob_set _ _ _ _ _ _) (Ac (findM_none (fv := (fun x => AV.pv (.b x))) key_i64 c10) (Ac (putM_ok (fv := (fun x => AV.pv (.b x))) key_i64 _ _ _ _) (Ac (atM_ok (fk := (PV.i .i64)) (fv := (fun x => AV.pv (.b x))) c12) An)))))))))))))⟩
theorem order_Sort_l9_s2_p2 {N : Nat} {a0 : List T_api_Op} {a1 : List T_api_Op} {z5 : Int × Nat × List (Int × Bool × Nat)} {o230_9 : Nat} {o230_9_2 : List (Int × Bool × Nat)} {o100050_9 : List T_api_Op} {r1 : Int × Bool} {r4 : Int × Bool} {e7 : T_api_Op} {e11 : Bool × Nat} {m12 : List (Int × Bool × Nat)} (c2 : order_sorter_first N z5.2.1 z5.2.2 o230_9 o230_9_2 a1 o100050_9 = some r1) (c3 : r1.2 = false) (c5 : order_sorter_first_2 N z5.2.1 z5.2.2 o230_9 o230_9_2 a1 o100050_9 = some r4) (c6 : r4.2 = true) (c8 : getI a1 r4.1 = some e7) (c9 : 0 ≤ r4.1 ∧ r4.1 < ((o100050_9.length : Nat) : Int)) (c10 : findM r4.1 o230_9_2 = some e11) (c13 : atM ((e11.2 : Nat) : Int) true ((putM r4.1 e11.1 o230_9 o230_9_2).2) = some m12) : Step order_Sort_f9 (order_Sort_l9_s2_h a0 a1 z5 o230_9 o230_9_2 o100050_9) (.normal) (S5 0 90 [] [(5, .p 250 [] 0)] [(220, m0 z5.2.1 z5.2.2), (230, m0 ((putM r4.1 e11.1 o230_9 o230_9_2).1) m12), (250, .cell false (.ag [.v 100050 o100050_9.length, v0 a1, .m 220, .m 230, .nils])), (100050, w0 (o100050_9.set r4.1.toNat e7))]) :=
  ⟨{ an := [(9003, .call (.ret (.tup [vi r1.1, vb r1.2])) [(220, m0 z5.2.1 z5.2.2), (230, m0 o230_9 o230_9_2), (250, .cell false (.ag [.v 100050 o100050_9.length, v0 a1, .m 220, .m 230, .nils])), (100050, w0 o100050_9)]), (12003, .call (.ret (.tup [vi r4.1, vb r4.2])) [(220, m0 z5.2.1 z5.2.2), (230, m0 o230_9 o230_9_2), (250, .cell false (.ag [.v 100050 o100050_9.length, v0 a1, .m 220, .m 230, .nils])), (100050, w0 o100050_9)]), (14015, .pv (p1 e7)), (14019, .entry (some (vb e11.1, e11.2)) ((putM r4.1 e11.1 o230_9 o230_9_2).1) (encM (PV.i .i64) (fun x => AV.pv (.b x)) ((putM r4.1 e11.1 o230_9 o230_9_2).2))), (14021, .ents 0 (encM (PV.i .i64) (fun x => AV.pv (.b x)) m12))], nv := [(9006, vb false), (12006, vb true)], no := [(14018, 100050, w0 (o100050_9.set r4.1.toNat e7))] }, [Vd Try.prog 0 (.fn (.func 20) [] []) [.p 250 [] 0, .fn (.func 21) [.p 250 [] 0] []] [(220, m0 z5.2.1 z5.2.2), (230, m0 o230_9 o230_9_2), (250, .cell false (.ag [.v 100050 o100050_9.length, v0 a1, .m 220, .m 230, .nils])), (100050, w0 o100050_9)] (.tup [vi r1.1, vb r1.2]) [(220, m0 z5.2.1 z5.2.2), (230, m0 o230_9 o230_9_2), (250, .cell false (.ag [.v 100050 o100050_9.length, v0 a1, .m 220, .m 230, .nils])), (100050, w0 o100050_9)], EB r1.2 false, Vd Try.prog 0 (.fn (.func 20) [] []) [.p 250 [] 0, .fn (.func 23) [.p 250 [] 0] []] [(220, m0 z5.2.1 z5.2.2), (230, m0 o230_9 o230_9_2), (250, .cell false (.ag [.v 100050 o100050_9.length, v0 a1, .m 220, .m 230, .nils])), (100050, w0 o100050_9)] (.tup [vi r4.1, vb r4.2]) [(220, m0 z5.2.1 z5.2.2), (230, m0 o230_9 o230_9_2), (250, .cell false (.ag [.v 100050 o100050_9.length, v0 a1, .m 220, .m 230, .nils])), (100050, w0 o100050_9)], EB r4.2 true, EG (p0 a1) r4.1 (p1 e7), 0 ≤ r4.1 ∧ r4.1 < ((o100050_9.length : Nat) : Int), (p0 o100050_9).len = o100050_9.length, r4.1.toNat < o100050_9.length, r4.1.toNat * 71 = r4.1.toNat * 71, AObj.vec false 71 (.l 71 ((o100050_9.map T_api_Op.enc).set r4.1.toNat (p1 e7))) = w0 (o100050_9.set r4.1.toNat e7), mapFind (.i .i64 r4.1) (encM (PV.i .i64) (fun x => AV.pv (.b x)) o230_9_2) = some (some (vb e11.1, e11.2)), mapPut (.i .i64 r4.1) (vb e11.1) o230_9 (encM (PV.i .i64) (fun x => AV.pv (.b x)) o230_9_2) = some (((putM r4.1 e11.1 o230_9 o230_9_2).1), encM (PV.i .i64) (fun x => AV.pv (.b x)) ((putM r4.1 e11.1 o230_9 o230_9_2).2)), mapAt ((e11.2 : Nat) : Int) (vb true) (encM (PV.i .i64) (fun x => AV.pv (.b x)) ((putM r4.1 e11.1 o230_9 o230_9_2).2)) = some (encM (PV.i .i64) (fun x => AV.pv (.b x)) m12)], by kernel_rfl, (Ac (order_sorter_first_valid c2 _) (Ac (nv_b c3) (Ac (order_sorter_first_2_valid c5 _) (Ac (nv_b c6) (Ac (getI_ok c8 71 T_api_Op.enc) (Ac c9 (Ac (len_ok _ _ _) (Ac (idx_below c9) (Ac rfl (Ac (ob_set _ _ _ _ _ _) (Ac (findM_some (fv := (fun x => AV.pv (.b x))) key_i64 c10) (Ac (putM_ok (fv := (fun x => AV.pv (.b x))) key_i64 _ _ _ _) (Ac (atM_ok (fk := (PV.i .i64)) (fv := (fun x => AV.pv (.b x))) c13) An)))))))))))))⟩
theorem order_Sort_l9_s2_p3 {N : Nat} {a0 : List T_api_Op} {a1 : List T_api_Op} {z5 : Int × Nat × List (Int × Bool × Nat)} {o230_9 : Nat} {o230_9_2 : List (Int × Bool × Nat)} {o100050_9 : List T_api_Op} {r1 : Int × Bool} {r4 : Int × Bool} {r7 : Int × Bool} {r10 : List T_api_Op} (c2 : order_sorter_first N z5.2.1 z5.2.2 o230_9 o230_9_2 a1 o100050_9 = some r1) (c3 : r1.2 = false) (c5 : order_sorter_first_2 N z5.2.1 z5.2.2 o230_9 o230_9_2 a1 o100050_9 = some r4) (c6 : r4.2 = false) (c8 : order_sorter_first_3 N z5.2.1 z5.2.2 o230_9 o230_9_2 a1 o100050_9 = some r7) (c9 : r7.2 = true) (c11 : order_sorter_next r7.1 z5.2.1 z5.2.2 o230_9 o230_9_2 a1 o100050_9 = some r10) : Step order_Sort_f9 (order_Sort_l9_s2_h a0 a1 z5 o230_9 o230_9_2 o100050_9) (.normal) (S5 0 90 [] [(5, .p 250 [] 0)] [(220, m0 z5.2.1 (delM r7.1 z5.2.2)), (230, m0 o230_9 o230_9_2), (250, .cell false (.ag [.v 100050 o100050_9.length, v0 a1, .m 220, .m 230, .v 100180 r10.length])), (100050, w0 o100050_9), (100180, w0 r10)]) :=
  ⟨{ an := [(9003, .call (.ret (.tup [vi r1.1, vb r1.2])) [(220, m0 z5.2.1 z5.2.2), (230, m0 o230_9 o230_9_2), (250, .cell false (.ag [.v 100050 o100050_9.length, v0 a1, .m 220, .m 230, .nils])), (100050, w0 o100050_9)]), (12003, .call (.ret (.tup [vi r4.1, vb r4.2])) [(220, m0 z5.2.1 z5.2.2), (230, m0 o230_9 o230_9_2), (250, .cell false (.ag [.v 100050 o100050_9.length, v0 a1, .m 220, .m 230, .nils])), (100050, w0 o100050_9)]), (15001, .call (.ret (.tup [vi r7.1, vb r7.2])) [(220, m0 z5.2.1 z5.2.2), (230, m0 o230_9 o230_9_2), (250, .cell false (.ag [.v 100050 o100050_9.length, v0 a1, .m 220, .m 230, .nils])), (100050, w0 o100050_9)]), (17002, .call (.ret (.tup [])) [(220, m0 z5.2.1 (delM r7.1 z5.2.2)), (230, m0 o230_9 o230_9_2), (250, .cell false (.ag [.v 100050 o100050_9.length, v0 a1, .m 220, .m 230, .v 100180 r10.length])), (100050, w0 o100050_9), (100180, w0 r10)])], nv := [(9006, vb false), (12006, vb false), (15004, vb true)] }, [Vd Try.prog 0 (.fn (.func 20) [] []) [.p 250 [] 0, .fn (.func 21) [.p 250 [] 0] []] [(220, m0 z5.2.1 z5.2.2), (230, m0 o230_9 o230_9_2), (250, .cell false (.ag [.v 100050 o100050_9.length, v0 a1, .m 220, .m 230, .nils])), (100050, w0 o100050_9)] (.tup [vi r1.1, vb r1.2]) [(220, m0 z5.2.1 z5.2.2), (230, m0 o230_9 o230_9_2), (250, .cell false (.ag [.v 100050 o100050_9.length, v0 a1, .m 220, .m 230, .nils])), (100050, w0 o100050_9)], EB r1.2 false, Vd Try.prog 0 (.fn (.func 20) [] []) [.p 250 [] 0, .fn (.func 23) [.p 250 [] 0] []] [(220, m0 z5.2.1 z5.2.2), (230, m0 o230_9 o230_9_2), (250, .cell false (.ag [.v 100050 o100050_9.length, v0 a1, .m 220, .m 230, .nils])), (100050, w0 o100050_9)] (.tup [vi r4.1, vb r4.2]) [(220, m0 z5.2.1 z5.2.2), (230, m0 o230_9 o230_9_2), (250, .cell false (.ag [.v 100050 o100050_9.length, v0 a1, .m 220, .m 230, .nils])), (100050, w0 o100050_9)], EB r4.2 false, Vd Try.prog 0 (.fn (.func 20) [] []) [.p 250 [] 0, .fn (.func 24) [] []] [(220, m0 z5.2.1 z5.2.2), (230, m0 o230_9 o230_9_2), (250, .cell false (.ag [.v 100050 o100050_9.length, v0 a1, .m 220, .m 230, .nils])), (100050, w0 o100050_9)] (.tup [vi r7.1, vb r7.2]) [(220, m0 z5.2.1 z5.2.2), (230, m0 o230_9 o230_9_2), (250, .cell false (.ag [.v 100050 o100050_9.length, v0 a1, .m 220, .m 230, .nils])), (100050, w0 o100050_9)], EB r7.2 true, Vd Try.prog 0 (.fn (.func 22) [] []) [.p 250 [] 0, vi r7.1] [(220, m0 z5.2.1 z5.2.2), (230, m0 o230_9 o230_9_2), (250, .cell false (.ag [.v 100050 o100050_9.length, v0 a1, .m 220, .m 230, .nils])), (100050, w0 o100050_9)] (.tup []) [(220, m0 z5.2.1 (delM r7.1 z5.2.2)), (230, m0 o230_9 o230_9_2), (250, .cell false (.ag [.v 100050 o100050_9.length, v0 a1, .m 220, .m 230, .v 100180 r10.length])), (100050, w0 o100050_9), (100180, w0 r10)]], by kernel_rfl, (Ac (order_sorter_first_valid c2 _) (Ac (nv_b c3) (Ac (order_sorter_first_2_valid c5 _) (Ac (nv_b c6) (Ac (order_sorter_first_3_valid c8 _) (Ac (nv_b c9) (Ac (order_sorter_next_valid c11 _) An)))))))⟩
theorem order_Sort_l9_s2_p4 {N : Nat} {a0 : List T_api_Op} {a1 : List T_api_Op} {z5 : Int × Nat × List (Int × Bool × Nat)} {o230_9 : Nat} {o230_9_2 : List (Int × Bool × Nat)} {o100050_9 : List T_api_Op} {r1 : Int × Bool} {r4 : Int × Bool} {r7 : Int × Bool} (c2 : order_sorter_first N z5.2.1 z5.2.2 o230_9 o230_9_2 a1 o100050_9 = some r1) (c3 : r1.2 = false) (c5 : order_sorter_first_2 N z5.2.1 z5.2.2 o230_9 o230_9_2 a1 o100050_9 = some r4) (c6 : r4.2 = false) (c8 : order_sorter_first_3 N z5.2.1 z5.2.2 o230_9 o230_9_2 a1 o100050_9 = some r7) (c9 : r7.2 = false) : Step order_Sort_f9 (order_Sort_l9_s2_h a0 a1 z5 o230_9 o230_9_2 o100050_9) (.exit 2) (S5 0 90 [] [(5, .p 250 [] 0), (7, vi r7.1), (82, vb true)] [(220, m0 z5.2.1 z5.2.2), (230, m0 o230_9 o230_9_2), (250, .cell false (.ag [.v 100050 o100050_9.length, v0 a1, .m 220, .m 230, .nils])), (100050, w0 o100050_9)]) :=
  ⟨{ an := [(9003, .call (.ret (.tup [vi r1.1, vb r1.2])) [(220, m0 z5.2.1 z5.2.2), (230, m0 o230_9 o230_9_2), (250, .cell false (.ag [.v 100050 o100050_9.length, v0 a1, .m 220, .m 230, .nils])), (100050, w0 o100050_9)]), (12003, .call (.ret (.tup [vi r4.1, vb r4.2])) [(220, m0 z5.2.1 z5.2.2), (230, m0 o230_9 o230_9_2), (250, .cell false (.ag [.v 100050 o100050_9.length, v0 a1, .m 220, .m 230, .nils])), (100050, w0 o100050_9)]), (15001, .call (.ret (.tup [vi r7.1, vb r7.2])) [(220, m0 z5.2.1 z5.2.2), (230, m0 o230_9 o230_9_2), (250, .cell false (.ag [.v 100050 o100050_9.length, v0 a1, .m 220, .m 230, .nils])), (100050, w0 o100050_9)])], nv := [(9006, vb false), (12006, vb false), (15004, vb false)] }, [Vd Try.prog 0 (.fn (.func 20) [] []) [.p 250 [] 0, .fn (.func 21) [.p 250 [] 0] []] [(220, m0 z5.2.1 z5.2.2), (230, m0 o230_9 o230_9_2), (250, .cell false (.ag [.v 100050 o100050_9.length, v0 a1, .m 220, .m 230, .nils])), (100050, w0 o100050_9)] (.tup [vi r1.1, vb r1.2]) [(220, m0 z5.2.1 z5.2.2), (230, m0 o230_9 o230_9_2), (250, .cell false (.ag [.v 100050 o100050_9.length, v0 a1, .m 220, .m 230, .nils])), (100050, w0 o100050_9)], EB r1.2 false, Vd Try.prog 0 (.fn (.func 20) [] []) [.p 250 [] 0, .fn (.func 23) [.p 250 [] 0] []] [(220, m0 z5.2.1 z5.2.2), (230, m0 o230_9 o230_9_2), (250, .cell false (.ag [.v 100050 o100050_9.length, v0 a1, .m 220, .m 230, .nils])), (100050, w0 o100050_9)] (.tup [vi r4.1, vb r4.2]) [(220, m0 z5.2.1 z5.2.2), (230, m0 o230_9 o230_9_2), (250, .cell false (.ag [.v 100050 o100050_9.length, v0 a1, .m 220, .m 230, .nils])), (100050, w0 o100050_9)], EB r4.2 false, Vd Try.prog 0 (.fn (.func 20) [] []) [.p 250 [] 0, .fn (.func 24) [] []] [(220, m0 z5.2.1 z5.2.2), (230, m0 o230_9 o230_9_2), (250, .cell false (.ag [.v 100050 o100050_9.length, v0 a1, .m 220, .m 230, .nils])), (100050, w0 o100050_9)] (.tup [vi r7.1, vb r7.2]) [(220, m0 z5.2.1 z5.2.2), (230, m0 o230_9 o230_9_2), (250, .cell false (.ag [.v 100050 o100050_9.length, v0 a1, .m 220, .m 230, .nils])), (100050, w0 o100050_9)], EB r7.2 false], by kernel_rfl, (Ac (order_sorter_first_valid c2 _) (Ac (nv_b c3) (Ac (order_sorter_first_2_valid c5 _) (Ac (nv_b c6) (Ac (order_sorter_first_3_valid c8 _) (Ac (nv_b c9) An))))))⟩
theorem order_Sort_l9_s2_ok {a0 : List T_api_Op} {a1 : List T_api_Op} {z5 : Int × Nat × List (Int × Bool × Nat)} : ∀ {N : Nat} {o230_9 : Nat} {o230_9_2 : List (Int × Bool × Nat)} {o100050_9 : List T_api_Op} {z : (Int × Nat × List (Int × Bool × Nat) × List T_api_Op) ⊕ (Int × List (Int × Bool × Nat) × Nat × List (Int × Bool × Nat) × List T_api_Op × List T_api_Op)}, order_Sort_l9_s2 a0 a1 z5 N o230_9 o230_9_2 o100050_9 = some z → LoopP order_Sort_f9 (order_Sort_l9_s2_h a0 a1 z5 o230_9 o230_9_2 o100050_9) (order_Sort_l9_e z) (order_Sort_l9_s a0 a1 z5 z) := by
  intro N
  induction N with
  | zero => intro o230_9 o230_9_2 o100050_9 z h; simp [order_Sort_l9_s2] at h
  | succ N ih =>
    intro o230_9 o230_9_2 o100050_9 z h
    change order_Sort_l9_s2_f a0 a1 z5 N (order_Sort_l9_s2 a0 a1 z5 N) o230_9 o230_9_2 o100050_9 = some z at h
    unfold order_Sort_l9_s2_f at h
    obtain ⟨r1, c2, h⟩ := bind_some h
    rcases cond_some h with ⟨c3, h⟩ | ⟨c3, h⟩
    · obtain ⟨r4, c5, h⟩ := bind_some h
      exact Step.next (order_Sort_l9_s2_p0 c2 c3 c5) (order_Sort_l9_s1_ok h)
    · obtain ⟨r4, c5, h⟩ := bind_some h
      rcases cond_some h with ⟨c6, h⟩ | ⟨c6, h⟩
      · obtain ⟨e7, c8, h⟩ := bind_some h
        obtain ⟨c9, h⟩ := chk_some h
        rcases optcase_some h with ⟨c10, h⟩ | ⟨e11, c10, h⟩
        · obtain ⟨m11, c12, h⟩ := bind_some h
          have q := ih h
          simp only [order_Sort_l9_s2_h, List.length_set, List.length_replicate] at q
          exact Step.next (order_Sort_l9_s2_p1 c2 c3 c5 c6 c8 c9 c10 c12) q
        · obtain ⟨m12, c13, h⟩ := bind_some h
          have q := ih h
          simp only [order_Sort_l9_s2_h, List.length_set, List.length_replicate] at q
          exact Step.next (order_Sort_l9_s2_p2 c2 c3 c5 c6 c8 c9 c10 c13) q
      · obtain ⟨r7, c8, h⟩ := bind_some h
        rcases cond_some h with ⟨c9, h⟩ | ⟨c9, h⟩
        · obtain ⟨r10, c11, h⟩ := bind_some h
          exact Step.next (order_Sort_l9_s2_p3 c2 c3 c5 c6 c8 c9 c11) (order_Sort_l9_s1_ok h)
        · obtain rfl := Option.some.inj h
          exact Step.exit (order_Sort_l9_s2_p4 c2 c3 c5 c6 c8 c9)
def order_Sort_l9_h (a0 : List T_api_Op) (a1 : List T_api_Op) (z5 : Int × Nat × List (Int × Bool × Nat))  : St := S5 0 90 [] [(5, .p 250 [] 0), (27, vi ((a0.length : Nat) : Int)), (28, vi z5.1), (29, vb false)] [(220, m0 z5.2.1 z5.2.2), (230, m0 0 []), (250, .cell false (.ag [.v 100050 a0.length, v0 a1, .m 220, .m 230, .nils])), (100050, w0 a0)]
def order_Sort_l9_f (a0 : List T_api_Op) (a1 : List T_api_Op) (z5 : Int × Nat × List (Int × Bool × Nat)) (N : Nat) (ih : Option ((Int × Nat × List (Int × Bool × Nat) × List T_api_Op) ⊕ (Int × List (Int × Bool × Nat) × Nat × List (Int × Bool × Nat) × List T_api_Op × List T_api_Op)))  : Option ((Int × Nat × List (Int × Bool × Nat) × List T_api_Op) ⊕ (Int × List (Int × Bool × Nat) × Nat × List (Int × Bool × Nat) × List T_api_Op × List T_api_Op)) :=
    (order_sorter_first N z5.2.1 z5.2.2 0 [] a1 a0).bind fun r1 =>
    cond (r1.2) (
      (order_sorter_next r1.1 z5.2.1 z5.2.2 0 [] a1 a0).bind fun r4 =>
      order_Sort_l9_s1 a0 a1 z5 N (delM r1.1 z5.2.2) 0 [] a0 r4) (
      (order_sorter_first_2 N z5.2.1 z5.2.2 0 [] a1 a0).bind fun r4 =>
      cond (r4.2) (
        (getI a1 r4.1).bind fun e7 =>
        chk (0 ≤ r4.1 ∧ r4.1 < ((a0.length : Nat) : Int)) <|
        (atM (0 : Int) true ((putM r4.1 false 0 []).2)).bind fun m10 =>
        order_Sort_l9_s2 a0 a1 z5 N ((putM r4.1 false 0 []).1) m10 (a0.set r4.1.toNat e7)) (
        (order_sorter_first_3 N z5.2.1 z5.2.2 0 [] a1 a0).bind fun r7 =>
        cond (r7.2) (
          (order_sorter_next r7.1 z5.2.1 z5.2.2 0 [] a1 a0).bind fun r10 =>
          order_Sort_l9_s1 a0 a1 z5 N (delM r7.1 z5.2.2) 0 [] a0 r10) (
          some (.inl ((r7.1, 0, [], a0))))))
def order_Sort_l9 (a0 : List T_api_Op) (a1 : List T_api_Op) (z5 : Int × Nat × List (Int × Bool × Nat)) : Nat → Option ((Int × Nat × List (Int × Bool × Nat) × List T_api_Op) ⊕ (Int × List (Int × Bool × Nat) × Nat × List (Int × Bool × Nat) × List T_api_Op × List T_api_Op))
  | 0 => none
  | N + 1 => order_Sort_l9_f a0 a1 z5 N (order_Sort_l9 a0 a1 z5 N)
theorem order_Sort_l9_p0 {N : Nat} {a0 : List T_api_Op} {a1 : List T_api_Op} {z5 : Int × Nat × List (Int × Bool × Nat)} {r1 : Int × Bool} {r4 : List T_api_Op} (c2 : order_sorter_first N z5.2.1 z5.2.2 0 [] a1 a0 = some r1) (c3 : r1.2 = true) (c5 : order_sorter_next r1.1 z5.2.1 z5.2.2 0 [] a1 a0 = some r4) : Step order_Sort_f9 (order_Sort_l9_h a0 a1 z5 ) (.normal) (S5 0 90 [] [(5, .p 250 [] 0)] [(220, m0 z5.2.1 (delM r1.1 z5.2.2)), (230, m0 0 []), (250, .cell false (.ag [.v 100050 a0.length, v0 a1, .m 220, .m 230, .v 100180 r4.length])), (100050, w0 a0), (100180, w0 r4)]) :=
  ⟨{ an := [(9003, .call (.ret (.tup [vi r1.1, vb r1.2])) [(220, m0 z5.2.1 z5.2.2), (230, m0 0 []), (250, .cell false (.ag [.v 100050 a0.length, v0 a1, .m 220, .m 230, .nils])), (100050, w0 a0)]), (11002, .call (.ret (.tup [])) [(220, m0 z5.2.1 (delM r1.1 z5.2.2)), (230, m0 0 []), (250, .cell false (.ag [.v 100050 a0.length, v0 a1, .m 220, .m 230, .v 100180 r4.length])), (100050, w0 a0), (100180, w0 r4)])], nv := [(9006, vb true)] }, [Vd Try.prog 0 (.fn (.func 20) [] []) [.p 250 [] 0, .fn (.func 21) [.p 250 [] 0] []] [(220, m0 z5.2.1 z5.2.2), (230, m0 0 []), (250, .cell false (.ag [.v 100050 a0.length, v0 a1, .m 220, .m 230, .nils])), (100050, w0 a0)] (.tup [vi r1.1, vb r1.2]) [(220, m0 z5.2.1 z5.2.2), (230, m0 0 []), (250, .cell false (.ag [.v 100050 a0.length, v0 a1, .m 220, .m 230, .nils])), (100050, w0 a0)], EB r1.2 true, Vd Try.prog 0 (.fn (.func 22) [] []) [.p 250 [] 0, vi r1.1] [(220, m0 z5.2.1 z5.2.2), (230, m0 0 []), (250, .cell false (.ag [.v 100050 a0.length, v0 a1, .m 220, .m 230, .nils])), (100050, w0 a0)] (.tup []) [(220, m0 z5.2.1 (delM r1.1 z5.2.2)), (230, m0 0 []), (250, .cell false (.ag [.v 100050 a0.length, v0 a1, .m 220, .m 230, .v 100180 r4.length])), (100050, w0 a0), (100180, w0 r4)]], by kernel_rfl, (Ac (order_sorter_first_valid c2 _) (Ac (nv_b c3) (Ac (order_sorter_next_valid c5 _) An)))⟩
theorem order_Sort_l9_p1 {N : Nat} {a0 : List T_api_Op} {a1 : List T_api_Op} {z5 : Int × Nat × List (Int × Bool × Nat)} {r1 : Int × Bool} {r4 : Int × Bool} {e7 : T_api_Op} {m10 : List (Int × Bool × Nat)} (c2 : order_sorter_first N z5.2.1 z5.2.2 0 [] a1 a0 = some r1) (c3 : r1.2 = false) (c5 : order_sorter_first_2 N z5.2.1 z5.2.2 0 [] a1 a0 = some r4) (c6 : r4.2 = true) (c8 : getI a1 r4.1 = some e7) (c9 : 0 ≤ r4.1 ∧ r4.1 < ((a0.length : Nat) : Int)) (c11 : atM (0 : Int) true ((putM r4.1 false 0 []).2) = some m10) : Step order_Sort_f9 (order_Sort_l9_h a0 a1 z5 ) (.normal) (S5 0 90 [] [(5, .p 250 [] 0)] [(220, m0 z5.2.1 z5.2.2), (230, m0 ((putM r4.1 false 0 []).1) m10), (250, .cell false (.ag [.v 100050 a0.length, v0 a1, .m 220, .m 230, .nils])), (100050, w0 (a0.set r4.1.toNat e7))]) :=
  ⟨{ an := [(9003, .call (.ret (.tup [vi r1.1, vb r1.2])) [(220, m0 z5.2.1 z5.2.2), (230, m0 0 []), (250, .cell false (.ag [.v 100050 a0.length, v0 a1, .m 220, .m 230, .nils])), (100050, w0 a0)]), (12003, .call (.ret (.tup [vi r4.1, vb r4.2])) [(220, m0 z5.2.1 z5.2.2), (230, m0 0 []), (250, .cell false (.ag [.v 100050 a0.length, v0 a1, .m 220, .m 230, .nils])), (100050, w0 a0)]), (14015, .pv (p1 e7)), (14019, .entry none ((putM r4.1 false 0 []).1) (encM (PV.i .i64) (fun x => AV.pv (.b x)) ((putM r4.1 false 0 []).2))), (14021, .ents 0 (encM (PV.i .i64) (fun x => AV.pv (.b x)) m10))], nv := [(9006, vb false), (12006, vb true)], no := [(14018, 100050, w0 (a0.set r4.1.toNat e7))] }, [Vd Try.prog 0 (.fn (.func 20) [] []) [.p 250 [] 0, .fn (.func 21) [.p 250 [] 0] []] [(220, m0 z5.2.1 z5.2.2), (230, m0 0 []), (250, .cell false (.ag [.v 100050 a0.length, v0 a1, .m 220, .m 230, .nils])), (100050, w0 a0)] (.tup [vi r1.1, vb r1.2]) [(220, m0 z5.2.1 z5.2.2), (230, m0 0 []), (250, .cell false (.ag [.v 100050 a0.length, v0 a1, .m 220, .m 230, .nils])), (100050, w0 a0)], EB r1.2 false, Vd Try.prog 0 (.fn (.func 20) [] []) [.p 250 [] 0, .fn (.func 23) [.p 250 [] 0] []] [(220, m0 z5.2.1 z5.2.2), (230, m0 0 []), (250, .cell false (.ag [.v 100050 a0.length, v0 a1, .m 220, .m 230, .nils])), (100050, w0 a0)] (.tup [vi r4.1, vb r4.2]) [(220, m0 z5.2.1 z5.2.2), (230, m0 0 []), (250, .cell false (.ag [.v 100050 a0.length, v0 a1, .m 220, .m 230, .nils])), (100050, w0 a0)], EB r4.2 true, EG (p0 a1) r4.1 (p1 e7), 0 ≤ r4.1 ∧ r4.1 < ((a0.length : Nat) : Int), (p0 a0).len = a0.length, r4.1.toNat < a0.length, r4.1.toNat * 71 = r4.1.toNat * 71, AObj.vec false 71 (.l 71 ((a0.map T_api_Op.enc).set r4.1.toNat (p1 e7))) = w0 (a0.set r4.1.toNat e7), mapFind (.i .i64 r4.1) (encM (PV.i .i64) (fun x => AV.pv (.b x)) []) = some none, mapPut (.i .i64 r4.1) (vb false) 0 (encM (PV.i .i64) (fun x => AV.pv (.b x)) []) = some (((putM r4.1 false 0 []).1), encM (PV.i .i64) (fun x => AV.pv (.b x)) ((putM r4.1 false 0 []).2)), mapAt (0 : Int) (vb true) (encM (PV.i .i64) (fun x => AV.pv (.b x)) ((putM r4.1 false 0 []).2)) = some (encM (PV.i .i64) (fun x => AV.pv (.b x)) m10)], by kernel_rfl, (Ac (order_sorter_first_valid c2 _) (Ac (nv_b c3) (Ac (order_sorter_first_2_valid c5 _) (Ac (nv_b c6) (Ac (getI_ok c8 71 T_api_Op.enc) (Ac c9 (Ac (len_ok _ _ _) (Ac (idx_below c9) (Ac rfl (Ac (ob_set _ _ _ _ _ _) (Ac (findM_none (fv := (fun x => AV.pv (.b x))) key_i64 (rfl : findM r4.1 ([] : List (Int × Bool × Nat)) = none)) (Ac (putM_ok (fv := (fun x => AV.pv (.b x))) key_i64 _ _ _ _) (Ac (atM_ok (fk := (PV.i .i64)) (fv := (fun x => AV.pv (.b x))) c11) An)))))))))))))⟩
theorem order_Sort_l9_p2 {N : Nat} {a0 : List T_api_Op} {a1 : List T_api_Op} {z5 : Int × Nat × List (Int × Bool × Nat)} {r1 : Int × Bool} {r4 : Int × Bool} {r7 : Int × Bool} {r10 : List T_api_Op} (c2 : order_sorter_first N z5.2.1 z5.2.2 0 [] a1 a0 = some r1) (c3 : r1.2 = false) (c5 : order_sorter_first_2 N z5.2.1 z5.2.2 0 [] a1 a0 = some r4) (c6 : r4.2 = false) (c8 : order_sorter_first_3 N z5.2.1 z5.2.2 0 [] a1 a0 = some r7) (c9 : r7.2 = true) (c11 : order_sorter_next r7.1 z5.2.1 z5.2.2 0 [] a1 a0 = some r10) : Step order_Sort_f9 (order_Sort_l9_h a0 a1 z5 ) (.normal) (S5 0 90 [] [(5, .p 250 [] 0)] [(220, m0 z5.2.1 (delM r7.1 z5.2.2)), (230, m0 0 []), (250, .cell false (.ag [.v 100050 a0.length, v0 a1, .m 220, .m 230, .v 100180 r10.length])), (100050, w0 a0), (100180, w0 r10)]) :=
  ⟨{ an := [(9003, .call (.ret (.tup [vi r1.1, vb r1.2])) [(220, m0 z5.2.1 z5.2.2), (230, m0 0 []), (250, .cell false (.ag [.v 100050 a0.length, v0 a1, .m 220, .m 230, .nils])), (100050, w0 a0)]), (12003, .call (.ret (.tup [vi r4.1, vb r4.2])) [(220, m0 z5.2.1 z5.2.2), (230, m0 0 []), (250, .cell false (.ag [.v 100050 a0.length, v0 a1, .m 220, .m 230, .nils])), (100050, w0 a0)]), (15001, .call (.ret (.tup [vi r7.1, vb r7.2])) [(220, m0 z5.2.1 z5.2.2), (230, m0 0 []), (250, .cell false (.ag [.v 100050 a0.length, v0 a1, .m 220, .m 230, .nils])), (100050, w0 a0)]), (17002, .call (.ret (.tup [])) [(220, m0 z5.2.1 (delM r7.1 z5.2.2)), (230, m0 0 []), (250, .cell false (.ag [.v 100050 a0.length, v0 a1, .m 220, .m 230, .v 100180 r10.length])), (100050, w0 a0), (100180, w0 r10)])], nv := [(9006, vb false), (12006, vb false), (15004, vb true)] }, [Vd Try.prog 0 (.fn (.func 20) [] []) [.p 250 [] 0, .fn (.func 21) [.p 250 [] 0] []] [(220, m0 z5.2.1 z5.2.2), (230, m0 0 []), (250, .cell false (.ag [.v 100050 a0.length, v0 a1, .m 220, .m 230, .nils])), (100050, w0 a0)] (.tup [vi r1.1, vb r1.2]) [(220, m0 z5.2.1 z5.2.2), (230, m0 0 []), (250, .cell false (.ag [.v 100050 a0.length, v0 a1, .m 220, .m 230, .nils])), (100050, w0 a0)], EB r1.2 false, Vd Try.prog 0 (.fn (.func 20) [] []) [.p 250 [] 0, .fn (.func 23) [.p 250 [] 0] []] [(220, m0 z5.2.1 z5.2.2), (230, m0 0 []), (250, .cell false (.ag [.v 100050 a0.length, v0 a1, .m 220, .m 230, .nils])), (100050, w0 a0)] (.tup [vi r4.1, vb r4.2]) [(220, m0 z5.2.1 z5.2.2), (230, m0 0 []), (250, .cell false (.ag [.v 100050 a0.length, v0 a1, .m 220, .m 230, .nils])), (100050, w0 a0)], EB r4.2 false, Vd Try.prog 0 (.fn (.func 20) [] []) [.p 250 [] 0, .fn (.func 24) [] []] [(220, m0 z5.2.1 z5.2.2), (230, m0 0 []), (250, .cell false (.ag [.v 100050 a0.length, v0 a1, .m 220, .m 230, .nils])), (100050, w0 a0)] (.tup [vi r7.1, vb r7.2]) [(220, m0 z5.2.1 z5.2.2), (230, m0 0 []), (250, .cell false (.ag [.v 100050 a0.length, v0 a1, .m 220, .m 230, .nils])), (100050, w0 a0)], EB r7.2 true, Vd Try.prog 0 (.fn (.func 22) [] []) [.p 250 [] 0, vi r7.1] [(220, m0 z5.2.1 z5.2.2), (230, m0 0 []), (250, .cell false (.ag [.v 100050 a0.length, v0 a1, .m 220, .m 230, .nils])), (100050, w0 a0)] (.tup []) [(220, m0 z5.2.1 (delM r7.1 z5.2.2)), (230, m0 0 []), (250, .cell false (.ag [.v 100050 a0.length, v0 a1, .m 220, .m 230, .v 100180 r10.length])), (100050, w0 a0), (100180, w0 r10)]], by kernel_rfl, (Ac (order_sorter_first_valid c2 _) (Ac (nv_b c3) (Ac (order_sorter_first_2_valid c5 _) (Ac (nv_b c6) (Ac (order_sorter_first_3_valid c8 _) (Ac (nv_b c9) (Ac (order_sorter_next_valid c11 _) An)))))))⟩
theorem order_Sort_l9_p3 {N : Nat} {a0 : List T_api_Op} {a1 : List T_api_Op} {z5 : Int × Nat × List (Int × Bool × Nat)} {r1 : Int × Bool} {r4 : Int × Bool} {r7 : Int × Bool} (c2 : order_sorter_first N z5.2.1 z5.2.2 0 [] a1 a0 = some r1) (c3 : r1.2 = false) (c5 : order_sorter_first_2 N z5.2.1 z5.2.2 0 [] a1 a0 = some r4) (c6 : r4.2 = false) (c8 : order_sorter_first_3 N z5.2.1 z5.2.2 0 [] a1 a0 = some r7) (c9 : r7.2 = false) : Step order_Sort_f9 (order_Sort_l9_h a0 a1 z5 ) (.exit 2) (S5 0 90 [] [(5, .p 250 [] 0), (7, vi r7.1), (82, vb true)] [(220, m0 z5.2.1 z5.2.2), (230, m0 0 []), (250, .cell false (.ag [.v 100050 a0.length, v0 a1, .m 220, .m 230, .nils])), (100050, w0 a0)]) :=
  ⟨{ an := [(9003, .call (.ret (.tup [vi r1.1, vb r1.2])) [(220, m0 z5.2.1 z5.2.2), (230, m0 0 []), (250, .cell false (.ag [.v 100050 a0.length, v0 a1, .m 220, .m 230, .nils])), (100050, w0 a0)]), (12003, .call (.ret (.tup [vi r4.1, vb r4.2])) [(220, m0 z5.2.1 z5.2.2), (230, m0 0 []), (250, .cell false (.ag [.v 100050 a0.length, v0 a1, .m 220, .m 230, .nils])), (100050, w0 a0)]), (15001, .call (.ret (.tup [vi r7.1, vb r7.2])) [(220, m0 z5.2.1 z5.2.2), (230, m0 0 []), (250, .cell false (.ag [.v 100050 a0.length, v0 a1, .m 220, .m 230, .nils])), (100050, w0 a0)])], nv := [(9006, vb false), (12006, vb false), (15004, vb false)] }, [Vd Try.prog 0 (.fn (.func 20) [] []) [.p 250 [] 0, .fn (.func 21) [.p 250 [] 0] []] [(220, m0 z5.2.1 z5.2.2), (230, m0 0 []), (250, .cell false (.ag [.v 100050 a0.length, v0 a1, .m 220, .m 230, .nils])), (100050, w0 a0)] (.tup [vi r1.1, vb r1.2]) [(220, m0 z5.2.1 z5.2.2), (230, m0 0 []), (250, .cell false (.ag [.v 100050 a0.length, v0 a1, .m 220, .m 230, .nils])), (100050, w0 a0)], EB r1.2 false, Vd Try.prog 0 (.fn (.func 20) [] []) [.p 250 [] 0, .fn (.func 23) [.p 250 [] 0] []] [(220, m0 z5.2.1 z5.2.2), (230, m0 0 []), (250, .cell false (.ag [.v 100050 a0.length, v0 a1, .m 220, .m 230, .nils])), (100050, w0 a0)] (.tup [vi r4.1, vb r4.2]) [(220, m0 z5.2.1 z5.2.2), (230, m0 0 []), (250, .cell false (.ag [.v 100050 a0.length, v0 a1, .m 220, .m 230, .nils])), (100050, w0 a0)], EB r4.2 false, Vd Try.prog 0 (.fn (.func 20) [] []) [.p 250 [] 0, .fn (.func 24) [] []] [(220, m0 z5.2.1 z5.2.2), (230, m0 0 []), (250, .cell false (.ag [.v 100050 a0.length, v0 a1, .m 220, .m 230, .nils])), (100050, w0 a0)] (.tup [vi r7.1, vb r7.2]) [(220, m0 z5.2.1 z5.2.2), (230, m0 0 []), (250, .cell false (.ag [.v 100050 a0.length, v0 a1, .m 220, .m 230, .nils])), (100050, w0 a0)], EB r7.2 false], by kernel_rfl, (Ac (order_sorter_first_valid c2 _) (Ac (nv_b c3) (Ac (order_sorter_first_2_valid c5 _) (Ac (nv_b c6) (Ac (order_sorter_first_3_valid c8 _) (Ac (nv_b c9) An))))))⟩
theorem order_Sort_l9_ok {a0 : List T_api_Op} {a1 : List T_api_Op} {z5 : Int × Nat × List (Int × Bool × Nat)} : ∀ {N : Nat}  {z : (Int × Nat × List (Int × Bool × Nat) × List T_api_Op) ⊕ (Int × List (Int × Bool × Nat) × Nat × List (Int × Bool × Nat) × List T_api_Op × List T_api_Op)}, order_Sort_l9 a0 a1 z5 N  = some z → LoopP order_Sort_f9 (order_Sort_l9_h a0 a1 z5 ) (order_Sort_l9_e z) (order_Sort_l9_s a0 a1 z5 z) := by
  intro N
  induction N with
  | zero => intro  z h; simp [order_Sort_l9] at h
  | succ N ih =>
    intro  z h
    change order_Sort_l9_f a0 a1 z5 N (order_Sort_l9 a0 a1 z5 N)  = some z at h
    unfold order_Sort_l9_f at h
    obtain ⟨r1, c2, h⟩ := bind_some h
    rcases cond_some h with ⟨c3, h⟩ | ⟨c3, h⟩
    · obtain ⟨r4, c5, h⟩ := bind_some h
      exact Step.next (order_Sort_l9_p0 c2 c3 c5) (order_Sort_l9_s1_ok h)
    · obtain ⟨r4, c5, h⟩ := bind_some h
      rcases cond_some h with ⟨c6, h⟩ | ⟨c6, h⟩
      · obtain ⟨e7, c8, h⟩ := bind_some h
        obtain ⟨c9, h⟩ := chk_some h
        obtain ⟨m10, c11, h⟩ := bind_some h
        have q := order_Sort_l9_s2_ok h
        simp only [order_Sort_l9_s2_h, List.length_set, List.length_replicate] at q
        exact Step.next (order_Sort_l9_p1 c2 c3 c5 c6 c8 c9 c11) q
      · obtain ⟨r7, c8, h⟩ := bind_some h
        rcases cond_some h with ⟨c9, h⟩ | ⟨c9, h⟩
        · obtain ⟨r10, c11, h⟩ := bind_some h
          exact Step.next (order_Sort_l9_p2 c2 c3 c5 c6 c8 c9 c11) (order_Sort_l9_s1_ok h)
        · obtain rfl := Option.some.inj h
          exact Step.exit (order_Sort_l9_p3 c2 c3 c5 c6 c8 c9)
def order_Sort (N : Nat) (a0 : List T_api_Op) (a1 : List T_api_Op) : Option (List T_api_Op) :=
  cond (!decide (((a0.length : Nat) : Int) = ((a1.length : Nat) : Int))) (
    some []) (
    cond (decide (120 < ((a0.length : Nat) : Int))) (
      some []) (
      (slices_Clone_Op a0).bind fun r3 =>
      (order_Sort_l5 a0 a1 N 0 0 []).bind fun z5 =>
      (order_Sort_l9 a0 a1 z5 N).bind fun z7 => match z7 with
      | .inl z8 =>
        some []
      | .inr z8 =>
        some z8.2.2.2.2.2))
theorem order_Sort_p0 {a0 : List T_api_Op} {a1 : List T_api_Op} (c1 : (!decide (((a0.length : Nat) : Int) = ((a1.length : Nat) : Int))) = true) (l : Nat) : Vd Try.prog l (.fn (.func 12) [] []) [v0 a0, v0 a1] [] (v0 []) [] :=
  Try_vf12 (hn := order_Sort_hn) (lvl := 0) (O := { nv := [(1001, vi ((a0.length : Nat) : Int)), (1003, vi ((a1.length : Nat) : Int)), (1004, vb true)] }) (ps := [vi (((a0).map T_api_Op.enc).length : Nat) = vi ((a0.length : Nat) : Int), vi (((a1).map T_api_Op.enc).length : Nat) = vi ((a1.length : Nat) : Int), EB (!decide (((a0.length : Nat) : Int) = ((a1.length : Nat) : Int))) true]) (by kernel_rfl) (Ac (nv_len _ _) (Ac (nv_len _ _) (Ac (nv_b c1) An))) l
theorem order_Sort_p1 {a0 : List T_api_Op} {a1 : List T_api_Op} (c1 : (!decide (((a0.length : Nat) : Int) = ((a1.length : Nat) : Int))) = false) (c2 : (decide (120 < ((a0.length : Nat) : Int))) = true) (l : Nat) : Vd Try.prog l (.fn (.func 12) [] []) [v0 a0, v0 a1] [] (v0 []) [] :=
  Try_vf12 (hn := order_Sort_hn) (lvl := 0) (O := { nv := [(1001, vi ((a0.length : Nat) : Int)), (1003, vi ((a1.length : Nat) : Int)), (1004, vb false), (1007, vi ((a0.length : Nat) : Int)), (1008, vb true)] }) (ps := [vi (((a0).map T_api_Op.enc).length : Nat) = vi ((a0.length : Nat) : Int), vi (((a1).map T_api_Op.enc).length : Nat) = vi ((a1.length : Nat) : Int), EB (!decide (((a0.length : Nat) : Int) = ((a1.length : Nat) : Int))) false, vi (((a0).map T_api_Op.enc).length : Nat) = vi ((a0.length : Nat) : Int), EB (decide (120 < ((a0.length : Nat) : Int))) true]) (by kernel_rfl) (Ac (nv_len _ _) (Ac (nv_len _ _) (Ac (nv_b c1) (Ac (nv_len _ _) (Ac (nv_b c2) An))))) l
theorem order_Sort_p2 {N : Nat} {a0 : List T_api_Op} {a1 : List T_api_Op} {r3 : Unit} {z5 : Int × Nat × List (Int × Bool × Nat)} {z8 : Int × Nat × List (Int × Bool × Nat) × List T_api_Op} (c1 : (!decide (((a0.length : Nat) : Int) = ((a1.length : Nat) : Int))) = false) (c2 : (decide (120 < ((a0.length : Nat) : Int))) = false) (c4 : slices_Clone_Op a0 = some r3) (c6 : order_Sort_l5 a0 a1 N 0 0 [] = some z5) (c9 : order_Sort_l9 a0 a1 z5 N = some (.inl z8)) (l : Nat) : Vd Try.prog l (.fn (.func 12) [] []) [v0 a0, v0 a1] [] (v0 []) [] :=
  Try_vf12 (hn := order_Sort_hn) (lvl := 0) (O := { an := [(3001, .call (.ret (.v 100050 a0.length)) [(100050, w0 a0)])], nv := [(1001, vi ((a0.length : Nat) : Int)), (1003, vi ((a1.length : Nat) : Int)), (1004, vb false), (1007, vi ((a0.length : Nat) : Int)), (1008, vb false), (4001, vi ((a0.length : Nat) : Int))], lo := [(5, .exit 0, S5 0 90 [] [(5, .p 250 [] 0), (27, vi ((a0.length : Nat) : Int)), (28, vi z5.1), (29, vb false)] [(220, m0 z5.2.1 z5.2.2), (230, m0 0 []), (250, .cell false (.ag [.v 100050 a0.length, v0 a1, .m 220, .m 230, .nils])), (100050, w0 a0)]), (9, .exit 2, S5 0 90 [] [(5, .p 250 [] 0), (7, vi z8.1), (82, vb true)] [(220, m0 z5.2.1 z5.2.2), (230, m0 z8.2.1 z8.2.2.1), (250, .cell false (.ag [.v 100050 z8.2.2.2.length, v0 a1, .m 220, .m 230, .nils])), (100050, w0 z8.2.2.2)])] }) (ps := [vi (((a0).map T_api_Op.enc).length : Nat) = vi ((a0.length : Nat) : Int), vi (((a1).map T_api_Op.enc).length : Nat) = vi ((a1.length : Nat) : Int), EB (!decide (((a0.length : Nat) : Int) = ((a1.length : Nat) : Int))) false, vi (((a0).map T_api_Op.enc).length : Nat) = vi ((a0.length : Nat) : Int), EB (decide (120 < ((a0.length : Nat) : Int))) false, Vd Try.prog 0 (.fn (.func 19) [] []) [v0 a0] [] (.v 100050 a0.length) [(100050, w0 a0)], vi (((a0).map T_api_Op.enc).length : Nat) = vi ((a0.length : Nat) : Int), LoopP order_Sort_f5 (S5 0 90 [] [(5, .p 250 [] 0), (27, vi ((a0.length : Nat) : Int)), (28, vi 0)] [(220, m0 0 []), (230, m0 0 []), (250, .cell false (.ag [.v 100050 a0.length, v0 a1, .m 220, .m 230, .nils])), (100050, w0 a0)]) (.exit 0) (S5 0 90 [] [(5, .p 250 [] 0), (27, vi ((a0.length : Nat) : Int)), (28, vi z5.1), (29, vb false)] [(220, m0 z5.2.1 z5.2.2), (230, m0 0 []), (250, .cell false (.ag [.v 100050 a0.length, v0 a1, .m 220, .m 230, .nils])), (100050, w0 a0)]), LoopP order_Sort_f9 (S5 0 90 [] [(5, .p 250 [] 0), (27, vi ((a0.length : Nat) : Int)), (28, vi z5.1), (29, vb false)] [(220, m0 z5.2.1 z5.2.2), (230, m0 0 []), (250, .cell false (.ag [.v 100050 a0.length, v0 a1, .m 220, .m 230, .nils])), (100050, w0 a0)]) (.exit 2) (S5 0 90 [] [(5, .p 250 [] 0), (7, vi z8.1), (82, vb true)] [(220, m0 z5.2.1 z5.2.2), (230, m0 z8.2.1 z8.2.2.1), (250, .cell false (.ag [.v 100050 z8.2.2.2.length, v0 a1, .m 220, .m 230, .nils])), (100050, w0 z8.2.2.2)])]) (by kernel_rfl) (Ac (nv_len _ _) (Ac (nv_len _ _) (Ac (nv_b c1) (Ac (nv_len _ _) (Ac (nv_b c2) (Ac (slices_Clone_Op_valid c4 _) (Ac (nv_len _ _) (Ac (order_Sort_l5_ok c6) (Ac (order_Sort_l9_ok c9) An))))))))) l
theorem order_Sort_p3 {N : Nat} {a0 : List T_api_Op} {a1 : List T_api_Op} {r3 : Unit} {z5 : Int × Nat × List (Int × Bool × Nat)} {z8 : Int × List (Int × Bool × Nat) × Nat × List (Int × Bool × Nat) × List T_api_Op × List T_api_Op} (c1 : (!decide (((a0.length : Nat) : Int) = ((a1.length : Nat) : Int))) = false) (c2 : (decide (120 < ((a0.length : Nat) : Int))) = false) (c4 : slices_Clone_Op a0 = some r3) (c6 : order_Sort_l5 a0 a1 N 0 0 [] = some z5) (c9 : order_Sort_l9 a0 a1 z5 N = some (.inr z8)) (l : Nat) : Vd Try.prog l (.fn (.func 12) [] []) [v0 a0, v0 a1] [] (v0 z8.2.2.2.2.2) [] :=
  Try_vf12 (hn := order_Sort_hn) (lvl := 0) (O := { an := [(3001, .call (.ret (.v 100050 a0.length)) [(100050, w0 a0)])], nv := [(1001, vi ((a0.length : Nat) : Int)), (1003, vi ((a1.length : Nat) : Int)), (1004, vb false), (1007, vi ((a0.length : Nat) : Int)), (1008, vb false), (4001, vi ((a0.length : Nat) : Int))], lo := [(5, .exit 0, S5 0 90 [] [(5, .p 250 [] 0), (27, vi ((a0.length : Nat) : Int)), (28, vi z5.1), (29, vb false)] [(220, m0 z5.2.1 z5.2.2), (230, m0 0 []), (250, .cell false (.ag [.v 100050 a0.length, v0 a1, .m 220, .m 230, .nils])), (100050, w0 a0)]), (9, .exit 2, S5 0 90 [] [(5, .p 250 [] 0), (7, vi z8.1), (82, vb true)] [(220, m0 z5.2.1 z8.2.1), (230, m0 z8.2.2.1 z8.2.2.2.1), (250, .cell false (.ag [.v 100050 z8.2.2.2.2.1.length, v0 a1, .m 220, .m 230, .v 100180 z8.2.2.2.2.2.length])), (100050, w0 z8.2.2.2.2.1), (100180, w0 z8.2.2.2.2.2)])] }) (ps := [vi (((a0).map T_api_Op.enc).length : Nat) = vi ((a0.length : Nat) : Int), vi (((a1).map T_api_Op.enc).length : Nat) = vi ((a1.length : Nat) : Int), EB (!decide (((a0.length : Nat) : Int) = ((a1.length : Nat) : Int))) false, vi (((a0).map T_api_Op.enc).length : Nat) = vi ((a0.length : Nat) : Int), EB (decide (120 < ((a0.length : Nat) : Int))) false, Vd Try.prog 0 (.fn (.func 19) [] []) [v0 a0] [] (.v 100050 a0.length) [(100050, w0 a0)], vi (((a0).map T_api_Op.enc).length : Nat) = vi ((a0.length : Nat) : Int), LoopP order_Sort_f5 (S5 0 90 [] [(5, .p 250 [] 0), (27, vi ((a0.length : Nat) : Int)), (28, vi 0)] [(220, m0 0 []), (230, m0 0 []), (250, .cell false (.ag [.v 100050 a0.length, v0 a1, .m 220, .m 230, .nils])), (100050, w0 a0)]) (.exit 0) (S5 0 90 [] [(5, .p 250 [] 0), (27, vi ((a0.length : Nat) : Int)), (28, vi z5.1), (29, vb false)] [(220, m0 z5.2.1 z5.2.2), (230, m0 0 []), (250, .cell false (.ag [.v 100050 a0.length, v0 a1, .m 220, .m 230, .nils])), (100050, w0 a0)]), LoopP order_Sort_f9 (S5 0 90 [] [(5, .p 250 [] 0), (27, vi ((a0.length : Nat) : Int)), (28, vi z5.1), (29, vb false)] [(220, m0 z5.2.1 z5.2.2), (230, m0 0 []), (250, .cell false (.ag [.v 100050 a0.length, v0 a1, .m 220, .m 230, .nils])), (100050, w0 a0)]) (.exit 2) (S5 0 90 [] [(5, .p 250 [] 0), (7, vi z8.1), (82, vb true)] [(220, m0 z5.2.1 z8.2.1), (230, m0 z8.2.2.1 z8.2.2.2.1), (250, .cell false (.ag [.v 100050 z8.2.2.2.2.1.length, v0 a1, .m 220, .m 230, .v 100180 z8.2.2.2.2.2.length])), (100050, w0 z8.2.2.2.2.1), (100180, w0 z8.2.2.2.2.2)]), (p0 z8.2.2.2.2.2).len = z8.2.2.2.2.2.length]) (by kernel_rfl) (Ac (nv_len _ _) (Ac (nv_len _ _) (Ac (nv_b c1) (Ac (nv_len _ _) (Ac (nv_b c2) (Ac (slices_Clone_Op_valid c4 _) (Ac (nv_len _ _) (Ac (order_Sort_l5_ok c6) (Ac (order_Sort_l9_ok c9) (Ac (len_ok _ _ _) An)))))))))) l
theorem order_Sort_valid {N : Nat} {a0 : List T_api_Op} {a1 : List T_api_Op} {z : List T_api_Op} (h : order_Sort N a0 a1 = some z) (l : Nat) : Vd Try.prog l (.fn (.func 12) [] []) [v0 a0, v0 a1] [] (v0 z) [] := by
  unfold order_Sort at h
  rcases cond_some h with ⟨c1, h⟩ | ⟨c1, h⟩
  · obtain rfl := Option.some.inj h
    exact order_Sort_p0 c1 l
  · rcases cond_some h with ⟨c2, h⟩ | ⟨c2, h⟩
    · obtain rfl := Option.some.inj h
      exact order_Sort_p1 c1 c2 l
    · obtain ⟨r3, c4, h⟩ := bind_some h
      obtain ⟨z5, c6, h⟩ := bind_some h
      obtain ⟨z7, c9, h⟩ := bind_some h
      rcases z7 with z8 | z8 <;> dsimp only at h
      · obtain rfl := Option.some.inj h
        exact order_Sort_p2 c1 c2 c4 c6 c9 l
      · obtain rfl := Option.some.inj h
        exact order_Sort_p3 c1 c2 c4 c6 c9 l
def slices_Clone_Op_2_hn : Hint where
  live := fun _ r => match r with
    | 0 => [0]
    | 1 => [0, 4]
    | 2 => [2]
    | 3 => [2]
    | _ => []
  esc := fun _ => true
  raw := fun k => false
  fresh := fun _ d => false
  vecs := fun _ d => Nat.beq d 5
def slices_Clone_Op_2  : Option (Unit) :=
  some ()
theorem slices_Clone_Op_2_p0  (l : Nat) : Vd Try.prog l (.fn (.func 19) [] []) [.es 0] [] (.v 100050 0) [(100050, w0 [])] :=
  Try_vf19 (hn := slices_Clone_Op_2_hn) (lvl := 0) (O := {}) (ps := [(p0 []).len = 0]) (by kernel_rfl) (Ac ((len_ok 71 T_api_Op.enc []).trans (by simp)) An) l
theorem slices_Clone_Op_2_valid  {z : Unit} (h : slices_Clone_Op_2  = some z) (l : Nat) : Vd Try.prog l (.fn (.func 19) [] []) [.es 0] [] (.v 100050 0) [(100050, w0 [])] := by
  unfold slices_Clone_Op_2 at h
  obtain rfl := Option.some.inj h
  exact slices_Clone_Op_2_p0  l
def order_Sort_2_hn : Hint where
  live := fun _ r => match r with
    | 0 => [0, 1]
    | 1 => [0, 1, 18]
    | 2 => [4]
    | 3 => [0, 5]
    | 4 => [5, 27, 28]
    | 5 => [5, 27, 28, 29]
    | 6 => [5, 6, 27, 28]
    | 7 => [5, 27, 28]
    | 8 => [5, 27, 28]
    | 9 => [5, 7, 8]
    | 10 => [5, 7, 44]
    | 11 => [5]
    | 12 => [5, 7, 8]
    | 13 => [5, 7, 55]
    | 14 => [5]
    | 15 => [5, 7, 8]
    | 16 => [5, 7, 82]
    | 17 => [5]
    | 18 => [4]
    | _ => []
  esc := fun _ => false
  raw := fun k => false
  fresh := fun _ d => Nat.beq d 20 || Nat.beq d 47 || Nat.beq d 85
  vecs := fun _ d => false
noncomputable def order_Sort_2_f5 := codeO Try.prog order_Sort_2_hn (Valid Try.prog) 12 Try_c12_5
def order_Sort_2_l5_e (_ : Unit) : Ex := .exit 0
def order_Sort_2_l5_s (a0 : List T_api_Op) (z : Unit) : St := S5 0 90 [] [(5, .p 250 [] 0), (27, vi 0), (28, vi 0), (29, vb false)] [(220, m0 0 []), (230, m0 0 []), (250, .cell false (.ag [.v 100050 0, v0 a0, .m 220, .m 230, .nils])), (100050, w0 [])]
def order_Sort_2_l5_h (a0 : List T_api_Op)  : St := S5 0 90 [] [(5, .p 250 [] 0), (27, vi 0), (28, vi 0)] [(220, m0 0 []), (230, m0 0 []), (250, .cell false (.ag [.v 100050 0, v0 a0, .m 220, .m 230, .nils])), (100050, w0 [])]
def order_Sort_2_l5_f (a0 : List T_api_Op) (N : Nat) (ih : Option (Unit))  : Option (Unit) :=
    some ()
def order_Sort_2_l5 (a0 : List T_api_Op) : Nat → Option (Unit)
  | 0 => none
  | N + 1 => order_Sort_2_l5_f a0 N (order_Sort_2_l5 a0 N)
theorem order_Sort_2_l5_p0 {a0 : List T_api_Op} : Step order_Sort_2_f5 (order_Sort_2_l5_h a0 ) (.exit 0) (S5 0 90 [] [(5, .p 250 [] 0), (27, vi 0), (28, vi 0), (29, vb false)] [(220, m0 0 []), (230, m0 0 []), (250, .cell false (.ag [.v 100050 0, v0 a0, .m 220, .m 230, .nils])), (100050, w0 [])]) :=
  ⟨{}, [], by kernel_rfl, An⟩
theorem order_Sort_2_l5_ok {a0 : List T_api_Op} : ∀ {N : Nat}  {z : Unit}, order_Sort_2_l5 a0 N  = some z → LoopP order_Sort_2_f5 (order_Sort_2_l5_h a0 ) (order_Sort_2_l5_e z) (order_Sort_2_l5_s a0 z) := by
  intro N
  induction N with
  | zero => intro  z h; simp [order_Sort_2_l5] at h
  | succ N ih =>
    intro  z h
    change order_Sort_2_l5_f a0 N (order_Sort_2_l5 a0 N)  = some z at h
    unfold order_Sort_2_l5_f at h
    obtain rfl := Option.some.inj h
    exact Step.exit (order_Sort_2_l5_p0)
noncomputable def order_Sort_2_f9 := codeO Try.prog order_Sort_2_hn (Valid Try.prog) 12 Try_c12_9
def order_Sort_2_l9_e : (Int × Nat × List (Int × Bool × Nat) × List T_api_Op) ⊕ (Int × List (Int × Bool × Nat) × Nat × List (Int × Bool × Nat) × List T_api_Op × List T_api_Op) → Ex
  | .inl _ => .exit 2
  | .inr _ => .exit 2
def order_Sort_2_l9_s (a0 : List T_api_Op) : (Int × Nat × List (Int × Bool × Nat) × List T_api_Op) ⊕ (Int × List (Int × Bool × Nat) × Nat × List (Int × Bool × Nat) × List T_api_Op × List T_api_Op) → St
  | .inl z => S5 0 90 [] [(5, .p 250 [] 0), (7, vi z.1), (82, vb true)] [(220, m0 0 []), (230, m0 z.2.1 z.2.2.1), (250, .cell false (.ag [.v 100050 z.2.2.2.length, v0 a0, .m 220, .m 230, .nils])), (100050, w0 z.2.2.2)]
  | .inr z => S5 0 90 [] [(5, .p 250 [] 0), (7, vi z.1), (82, vb true)] [(220, m0 0 z.2.1), (230, m0 z.2.2.1 z.2.2.2.1), (250, .cell false (.ag [.v 100050 z.2.2.2.2.1.length, v0 a0, .m 220, .m 230, .v 100180 z.2.2.2.2.2.length])), (100050, w0 z.2.2.2.2.1), (100180, w0 z.2.2.2.2.2)]
def order_Sort_2_l9_s1_h (a0 : List T_api_Op) (o220_9 : List (Int × Bool × Nat)) (o230_9 : Nat) (o230_9_2 : List (Int × Bool × Nat)) (o100050_9 : List T_api_Op) (o100180_9 : List T_api_Op) : St := S5 0 90 [] [(5, .p 250 [] 0)] [(220, m0 0 o220_9), (230, m0 o230_9 o230_9_2), (250, .cell false (.ag [.v 100050 o100050_9.length, v0 a0, .m 220, .m 230, .v 100180 o100180_9.length])), (100050, w0 o100050_9), (100180, w0 o100180_9)]
def order_Sort_2_l9_s1_f (a0 : List T_api_Op) (N : Nat) (ih : (List (Int × Bool × Nat)) → Nat → (List (Int × Bool × Nat)) → List T_api_Op → List T_api_Op → Option ((Int × Nat × List (Int × Bool × Nat) × List T_api_Op) ⊕ (Int × List (Int × Bool × Nat) × Nat × List (Int × Bool × Nat) × List T_api_Op × List T_api_Op))) (o220_9 : List (Int × Bool × Nat)) (o230_9 : Nat) (o230_9_2 : List (Int × Bool × Nat)) (o100050_9 : List T_api_Op) (o100180_9 : List T_api_Op) : Option ((Int × Nat × List (Int × Bool × Nat) × List T_api_Op) ⊕ (Int × List (Int × Bool × Nat) × Nat × List (Int × Bool × Nat) × List T_api_Op × List T_api_Op)) :=
    (order_sorter_first_4 N 0 o220_9 o230_9 o230_9_2 a0 o100050_9 o100180_9).bind fun r1 =>
    cond (r1.2) (
      (order_sorter_next_2 r1.1 0 o220_9 o230_9 o230_9_2 a0 o100050_9 o100180_9).bind fun r4 =>
      ih (delM r1.1 o220_9) o230_9 o230_9_2 o100050_9 r4) (
      (order_sorter_first_5 N 0 o220_9 o230_9 o230_9_2 a0 o100050_9 o100180_9).bind fun r4 =>
      cond (r4.2) (
        (getI a0 r4.1).bind fun e7 =>
        chk (0 ≤ r4.1 ∧ r4.1 < ((o100050_9.length : Nat) : Int)) <|
        optcase (findM r4.1 o230_9_2) (
          (atM ((o230_9 : Nat) : Int) true ((putM r4.1 false o230_9 o230_9_2).2)).bind fun m11 =>
          ih o220_9 ((putM r4.1 false o230_9 o230_9_2).1) m11 (o100050_9.set r4.1.toNat e7) o100180_9) fun e11 =>
          (atM ((e11.2 : Nat) : Int) true ((putM r4.1 e11.1 o230_9 o230_9_2).2)).bind fun m12 =>
          ih o220_9 ((putM r4.1 e11.1 o230_9 o230_9_2).1) m12 (o100050_9.set r4.1.toNat e7) o100180_9) (
        (order_sorter_first_6 N 0 o220_9 o230_9 o230_9_2 a0 o100050_9 o100180_9).bind fun r7 =>
        cond (r7.2) (
          (order_sorter_next_2 r7.1 0 o220_9 o230_9 o230_9_2 a0 o100050_9 o100180_9).bind fun r10 =>
          ih (delM r7.1 o220_9) o230_9 o230_9_2 o100050_9 r10) (
          some (.inr ((r7.1, o220_9, o230_9, o230_9_2, o100050_9, o100180_9))))))
def order_Sort_2_l9_s1 (a0 : List T_api_Op) : Nat → (List (Int × Bool × Nat)) → Nat → (List (Int × Bool × Nat)) → List T_api_Op → List T_api_Op → Option ((Int × Nat × List (Int × Bool × Nat) × List T_api_Op) ⊕ (Int × List (Int × Bool × Nat) × Nat × List (Int × Bool × Nat) × List T_api_Op × List T_api_Op))
  | 0 => fun _ _ _ _ _ => none
  | N + 1 => order_Sort_2_l9_s1_f a0 N (order_Sort_2_l9_s1 a0 N)
theorem order_Sort_2_l9_s1_p0 {N : Nat} {a0 : List T_api_Op} {o220_9 : List (Int × Bool × Nat)} {o230_9 : Nat} {o230_9_2 : List (Int × Bool × Nat)} {o100050_9 : List T_api_Op} {o100180_9 : List T_api_Op} {r1 : Int × Bool} {r4 : List T_api_Op} (c2 : order_sorter_first_4 N 0 o220_9 o230_9 o230_9_2 a0 o100050_9 o100180_9 = some r1) (c3 : r1.2 = true) (c5 : order_sorter_next_2 r1.1 0 o220_9 o230_9 o230_9_2 a0 o100050_9 o100180_9 = some r4) : Step order_Sort_2_f9 (order_Sort_2_l9_s1_h a0 o220_9 o230_9 o230_9_2 o100050_9 o100180_9) (.normal) (S5 0 90 [] [(5, .p 250 [] 0)] [(220, m0 0 (delM r1.1 o220_9)), (230, m0 o230_9 o230_9_2), (250, .cell false (.ag [.v 100050 o100050_9.length, v0 a0, .m 220, .m 230, .v 100180 r4.length])), (100050, w0 o100050_9), (100180, w0 r4)]) :=
  ⟨{ an := [(9003, .call (.ret (.tup [vi r1.1, vb r1.2])) [(220, m0 0 o220_9), (230, m0 o230_9 o230_9_2), (250, .cell false (.ag [.v 100050 o100050_9.length, v0 a0, .m 220, .m 230, .v 100180 o100180_9.length])), (100050, w0 o100050_9), (100180, w0 o100180_9)]), (11002, .call (.ret (.tup [])) [(220, m0 0 (delM r1.1 o220_9)), (230, m0 o230_9 o230_9_2), (250, .cell false (.ag [.v 100050 o100050_9.length, v0 a0, .m 220, .m 230, .v 100180 r4.length])), (100050, w0 o100050_9), (100180, w0 r4)])], nv := [(9006, vb true)] }, [Vd Try.prog 0 (.fn (.func 20) [] []) [.p 250 [] 0, .fn (.func 21) [.p 250 [] 0] []] [(220, m0 0 o220_9), (230, m0 o230_9 o230_9_2), (250, .cell false (.ag [.v 100050 o100050_9.length, v0 a0, .m 220, .m 230, .v 100180 o100180_9.length])), (100050, w0 o100050_9), (100180, w0 o100180_9)] (.tup [vi r1.1, vb r1.2]) [(220, m0 0 o220_9), (230, m0 o230_9 o230_9_2), (250, .cell false (.ag [.v 100050 o100050_9.length, v0 a0, .m 220, .m 230, .v 100180 o100180_9.length])), (100050, w0 o100050_9), (100180, w0 o100180_9)], EB r1.2 true, Vd Try.prog 0 (.fn (.func 22) [] []) [.p 250 [] 0, vi r1.1] [(220, m0 0 o220_9), (230, m0 o230_9 o230_9_2), (250, .cell false (.ag [.v 100050 o100050_9.length, v0 a0, .m 220, .m 230, .v 100180 o100180_9.length])), (100050, w0 o100050_9), (100180, w0 o100180_9)] (.tup []) [(220, m0 0 (delM r1.1 o220_9)), (230, m0 o230_9 o230_9_2), (250, .cell false (.ag [.v 100050 o100050_9.length, v0 a0, .m 220, .m 230, .v 100180 r4.length])), (100050, w0 o100050_9), (100180, w0 r4)]], by kernel_rfl, (Ac (order_sorter_first_4_valid c2 _) (Ac (nv_b c3) (Ac (order_sorter_next_2_valid c5 _) An)))⟩
theorem order_Sort_2_l9_s1_p1 {N : Nat} {a0 : List T_api_Op} {o220_9 : List (Int × Bool × Nat)} {o230_9 : Nat} {o230_9_2 : List (Int × Bool × Nat)} {o100050_9 : List T_api_Op} {o100180_9 : List T_api_Op} {r1 : Int × Bool} {r4 : Int × Bool} {e7 : T_api_Op} {m11 : List (Int × Bool × Nat)} (c2 : order_sorter_first_4 N 0 o220_9 o230_9 o230_9_2 a0 o100050_9 o100180_9 = some r1) (c3 : r1.2 = false) (c5 : order_sorter_first_5 N 0 o220_9 o230_9 o230_9_2 a0 o100050_9 o100180_9 = some r4) (c6 : r4.2 = true) (c8 : getI a0 r4.1 = some e7) (c9 : 0 ≤ r4.1 ∧ r4.1 < ((o100050_9.length : Nat) : Int)) (c10 : findM r4.1 o230_9_2 = none) (c12 : atM ((o230_9 : Nat) : Int) true ((putM r4.1 false o230_9 o230_9_2).2) = some m11) : Step order_Sort_2_f9 (order_Sort_2_l9_s1_h a0 o220_9 o230_9 o230_9_2 o100050_9 o100180_9) (.normal) (S5 0 90 [] [(5, .p 250 [] 0)] [(220, m0 0 o220_9), (230, m0 ((putM r4.1 false o230_9 o230_9_2).1) m11), (250, .cell false (.ag [.v 100050 o100050_9.length, v0 a0, .m 220, .m 230, .v 100180 o100180_9.length])), (100050, w0 (o100050_9.set r4.1.toNat e7)), (100180, w0 o100180_9)]) :=
  ⟨{ an := [(9003, .call (.ret (.tup [vi r1.1, vb r1.2])) [(220, m0 0 o220_9), (230, m0 o230_9 o230_9_2), (250, .cell false (.ag [.v 100050 o100050_9.length, v0 a0, .m 220, .m 230, .v 100180 o100180_9.length])), (100050, w0 o100050_9), (100180, w0 o100180_9)]), (12003, .call (.ret (.tup [vi r4.1, vb r4.2])) [(220, m0 0 o220_9), (230, m0 o230_9 o230_9_2), (250, .cell false (.ag [.v 100050 o100050_9.length, v0 a0, .m 220, .m 230, .v 100180 o100180_9.length])), (100050, w0 o100050_9), (100180, w0 o100180_9)]), (14015, .pv (p1 e7)), (14019, .entry none ((putM r4.1 false o230_9 o230_9_2).1) (encM (PV.i .i64) (fun x => AV.pv (.b x)) ((putM r4.1 false o230_9 o230_9_2).2))), (14021, .ents 0 (encM (PV.i .i64) (fun x => AV.pv (.b x)) m11))], nv := [(9006, vb false), (12006, vb true)], no := [(14018, 100050, w0 (o100050_9.set r4.1.toNat e7))] }, [Vd Try.prog 0 (.fn (.func 20) [] []) [.p 250 [] 0, .fn (.func 21) [.p 250 [] 0] []] [(220, m0 0 o220_9), (230, m0 o230_9 o230_9_2), (250, .cell false (.ag [.v 100050 o100050_9.length, v0 a0, .m 220, .m 230, .v 100180 o100180_9.length])), (100050, w0 o100050_9), (100180, w0 o100180_9)] (.tup [vi r1.1, vb r1.2]) [(220, m0 0 o220_9), (230, m0 o230_9 o230_9_2), (250, .cell false (.ag [.v 100050 o100050_9.length, v0 a0, .m 220, .m 230, .v 100180 o100180_9.length])), (100050, w0 o100050_9), (100180, w0 o100180_9)], EB r1.2 false, Vd Try.prog 0 (.fn (.func 20) [] []) [.p 250 [] 0, .fn (.func 23) [.p 250 [] 0] []] [(220, m0 0 o220_9), (230, m0 o230_9 o230_9_2), (250, .cell false (.ag [.v 100050 o100050_9.length, v0 a0, .m 220, .m 230, .v 100180 o100180_9.length])), (100050, w0 o100050_9), (100180, w0 o100180_9)] (.tup [vi r4.1, vb r4.2]) [(220, m0 0 o220_9), (230, m0 o230_9 o230_9_2), (250, .cell false (.ag [.v 100050 o100050_9.length, v0 a0, .m 220, .m 230, .v 100180 o100180_9.length])), (100050, w0 o100050_9), (100180, w0 o100180_9)], EB r4.2 true, EG (p0 a0) r4.1 (p1 e7), 0 ≤ r4.1 ∧ r4.1 < ((o100050_9.length : Nat) : Int), (p0 o100050_9).len = o100050_9.length, r4.1.toNat < o100050_9.length, r4.1.toNat * 71 = r4.1.toNat * 71, AObj.vec false 71 (.l 71 ((o100050_9.map T_api_Op.enc).set r4.1.toNat (p1 e7))) = w0 (o100050_9.set r4.1.toNat e7), mapFind (.i .i64 r4.1) (encM (PV.i .i64) (fun x => AV.pv (.b x)) o230_9_2) = some none, mapPut (.i .i64 r4.1) (vb false) o230_9 (encM (PV.i .i64) (fun x => AV.pv (.b x)) o230_9_2) = some (((putM r4.1 false o230_9 o230_9_2).1), encM (PV.i .i64) (fun x => AV.pv (.b x)) ((putM r4.1 false o230_9 o230_9_2).2)), mapAt ((o230_9 : Nat) : Int) (vb true) (encM (PV.i .i64) (fun x => AV.pv (.b x)) ((putM r4.1 false o230_9 o230_9_2).2)) = some (encM (PV.i .i64) (fun x => AV.pv (.b x)) m11)], by kernel_rfl, (Ac (order_sorter_first_4_valid c2 _) (Ac (nv_b c3) (Ac (order_sorter_first_5_valid c5 _) (Ac (nv_b c6) (Ac (getI_ok c8 71 T_api_Op.enc) (Ac c9 (Ac (len_ok _ _ _) (Ac (idx_below c9) (Ac rfl (Ac (ob_set _ _ _ _ _ _) (Ac (findM_none (fv := (fun x => AV.pv (.b x))) key_i64 c10) (Ac (putM_ok (fv := (fun x => AV.pv (.b x))) key_i64 _ _ _ _) (Ac (atM_ok (fk := (PV.i .i64)) (fv := (fun x => AV.pv (.b x))) c12) An)))))))))))))⟩
theorem order_Sort_2_l9_s1_p2 {N : Nat} {a0 : List T_api_Op} {o220_9 : List (Int × Bool × Nat)} {o230_9 : Nat} {o230_9_2 : List (Int × Bool × Nat)} {o100050_9 : List T_api_Op} {o100180_9 : List T_api_Op} {r1 : Int × Bool} {r4 : Int × Bool} {e7 : T_api_Op} {e11 : Bool × Nat} {m12 : List (Int × Bool × Nat)} (c2 : order_sorter_first_4 N 0 o220_9 o230_9 o230_9_2 a0 o100050_9 o100180_9 = some r1) (c3 : r1.2 = false) (c5 : order_sorter_first_5 N 0 o220_9 o230_9 o230_9_2 a0 o100050_9 o100180_9 = some r4) (c6 : r4.2 = true) (c8 : getI a0 r4.1 = some e7) (c9 : 0 ≤ r4.1 ∧ r4.1 < ((o100050_9.length : Nat) : Int)) (c10 : findM r4.1 o230_9_2 = some e11) (c13 : atM ((e11.2 : Nat) : Int) true ((putM r4.1 e11.1 o230_9 o230_9_2).2) = some m12) : Step order_Sort_2_f9 (order_Sort_2_l9_s1_h a0 o220_9 o230_9 o230_9_2 o100050_9 o100180_9) (.normal) (S5 0 90 [] [(5, .p 250 [] 0)] [(220, m0 0 o220_9), (230, m0 ((putM r4.1 e11.1 o230_9 o230_9_2).1) m12), (250, .cell false (.ag [.v 100050 o100050_9.length, v0 a0, .m 220, .m 230, .v 100180 o100180_9.length])), (100050, w0 (o100050_9.set r4.1.toNat e7)), (100180, w0 o100180_9)]) :=
  ⟨{ an := [(9003, .call (.ret (.tup [vi r1.1, vb r1.2])) [(220, m0 0 o220_9), (230, m0 o230_9 o230_9_2), (250, .cell false (.ag [.v 100050 o100050_9.length, v0 a0, .m 220, .m 230, .v 100180 o100180_9.length])), (100050, w0 o100050_9), (100180, w0 o100180_9)]), (12003, .call (.ret (.tup [vi r4.1, vb r4.2])) [(220, m0 0 o220_9), (230, m0 o230_9 o230_9_2), (250, .cell false (.ag [.v 100050 o100050_9.length, v0 a0, .m 220, .m 230, .v 100180 o100180_9.length])), (100050, w0 o100050_9), (100180, w0 o100180_9)]), (14015, .pv (p1 e7)), (14019, .entry (some (vb e11.1, e11.2)) ((putM r4.1 e11.1 o230_9 o230_9_2).1) (encM (PV.i .i64) (fun x => AV.pv (.b x)) ((putM r4.1 e11.1 o230_9 o230_9_2).2))), (14021, .ents 0 (encM (PV.i .i64) (fun x => AV.pv (.b x)) m12))], nv := [(9006, vb false), (12006, vb true)], no := [(14018, 100050, w0 (o100050_9.set r4.1.toNat e7))] }, [Vd Try.prog 0 (.fn (.func 20) [] []) [.p 250 [] 0, .fn (.func 21) [.p 250 [] 0] []] [(220, m0 0 o220_9), (230, m0 o230_9 o230_9_2), (250, .cell false (.ag [.v 100050 o100050_9.length, v0 a0, .m 220, .m 230, .v 100180 o100180_9.length])), (100050, w0 o100050_9), (100180, w0 o100180_9)] (.tup [vi r1.1, vb r1.2]) [(220, m0 0 o220_9), (230, m0 o230_9 o230_9_2), (250, .cell false (.ag [.v 100050 o100050_9.length, v0 a0, .m 220, .m 230, .v 100180 o100180_9.length])), (100050, w0 o100050_9), (100180, w0 o100180_9)], EB r1.2 false, Vd Try.prog 0 (.fn (.func 20) [] []) [.p 250 [] 0, .fn (.func 23) [.p 250 [] 0] []] [(220, m0 0 o220_9), (230, m0 o230_9 o230_9_2), (250, .cell false (.ag [.v 100050 o100050_9.length, v0 a0, .m 220, .m 230, .v 100180 o100180_9.length])), (100050, w0 o100050_9), (100180, w0 o100180_9)] (.tup [vi r4.1, vb r4.2]) [(220, m0 0 o220_9), (230, m0 o230_9 o230_9_2), (250, .cell false (.ag [.v 100050 o100050_9.length, v0 a0, .m 220, .m 230, .v 100180 o100180_9.length])), (100050, w0 o100050_9), (100180, w0 o100180_9)], EB r4.2 true, EG (p0 a0) r4.1 (p1 e7), 0 ≤ r4.1 ∧ r4.1 < ((o100050_9.length : Nat) : Int), (p0 o100050_9).len = o100050_9.length, r4.1.toNat < o100050_9.length, r4.1.toNat * 71 = r4.1.toNat * 71, AObj.vec false 71 (.l 71 ((o100050_9.map T_api_Op.enc).set r4.1.toNat (p1 e7))) = w0 (o100050_9.set r4.1.toNat e7), mapFind (.i .i64 r4.1) (encM (PV.i .i64) (fun x => AV.pv (.b x)) o230_9_2) = some (some (vb e11.1, e11.2)), mapPut (.i .i64 r4.1) (vb e11.1) o230_9 (encM (PV.i .i64) (fun x => AV.pv (.b x)) o230_9_2) = some (((putM r4.1 e11.1 o230_9 o230_9_2).1), encM (PV.i .i64) (fun x => AV.pv (.b x)) ((putM r4.1 e11.1 o230_9 o230_9_2).2)), mapAt ((e11.2 : Nat) : Int) (vb true) (encM (PV.i .i64) (fun x => AV.pv (.b x)) ((putM r4.1 e11.1 o230_9 o230_9_2).2)) = some (encM (PV.i .i64) (fun x => AV.pv (.b x)) m12)], by kernel_rfl, (Ac (order_sorter_first_4_valid c2 _) (Ac (nv_b c3) (Ac (order_sorter_first_5_valid c5 _) (Ac (nv_b c6) (Ac (getI_ok c8 71 T_api_Op.enc) (Ac c9 (Ac (len_ok _ _ _) (Ac (idx_below c9) (Ac rfl (Ac (ob_set _ _ _ _ _ _) (Ac (findM_some (fv := (fun x => AV.pv (.b x))) key_i64 c10) (Ac (putM_ok (fv := (fun x => AV.pv (.b x))) key_i64 _ _ _ _) (Ac (atM_ok (fk := (PV.i .i64)) (fv := (fun x => AV.pv (.b x))) c13) An)))))))))))))⟩
theorem order_Sort_2_l9_s1_p3 {N : Nat} {a0 : List T_api_Op} {o220_9 : List (Int × Bool × Nat)} {o230_9 : Nat} {o230_9_2 : List (Int × Bool × Nat)} {o100050_9 : List T_api_Op} {o100180_9 : List T_api_Op} {r1 : Int × Bool} {r4 : Int × Bool} {r7 : Int × Bool} {r10 : List T_api_Op} (c2 : order_sorter_first_4 N 0 o220_9 o230_9 o230_9_2 a0 o100050_9 o100180_9 = some r1) (c3 : r1.2 = false) (c5 : order_sorter_first_5 N 0 o220_9 o230_9 o230_9_2 a0 o100050_9 o100180_9 = some r4) (c6 : r4.2 = false) (c8 : order_sorter_first_6 N 0 o220_9 o230_9 o230_9_2 a0 o100050_9 o100180_9 = some r7) (c9 : r7.2 = true) (c11 : order_sorter_next_2 r7.1 0 o220_9 o230_9 o230_9_2 a0 o100050_9 o100180_9 = some r10) : Step order_Sort_2_f9 (order_Sort_2_l9_s1_h a0 o220_9 o230_9 o230_9_2 o100050_9 o100180_9) (.normal) (S5 0 90 [] [(5, .p 250 [] 0)] [(220, m0 0 (delM r7.1 o220_9)), (230, m0 o230_9 o230_9_2), (250, .cell false (.ag [.v 100050 o100050_9.length, v0 a0, .m 220, .m 230, .v 100180 r10.length])), (100050, w0 o100050_9), (100180, w0 r10)]) :=
  ⟨{ an := [(9003, .call (.ret (.tup [vi r1.1, vb r1.2])) [(220, m0 0 o220_9), (230, m0 o230_9 o230_9_2), (250, .cell false (.ag [.v 100050 o100050_9.length, v0 a0, .m 220, .m 230, .v 100180 o100180_9.length])), (100050, w0 o100050_9), (100180, w0 o100180_9)]), (12003, .call (.ret (.tup [vi r4.1, vb r4.2])) [(220, m0 0 o220_9), (230, m0 o230_9 o230_9_2), (250, .cell false (.ag [.v 100050 o100050_9.length, v0 a0, .m 220, .m 230, .v 100180 o100180_9.length])), (100050, w0 o100050_9), (100180, w0 o100180_9)]), (15001, .call (.ret (.tup [vi r7.1, vb r7.2])) [(220, m0 0 o220_9), (230, m0 o230_9 o230_9_2), (250, .cell false (.ag [.v 100050 o100050_9.length, v0 a0, .m 220, .m 230, .v 100180 o100180_9.length])), (100050, w0 o100050_9), (100180, w0 o100180_9)]), (17002, .call (.ret (.tup [])) [(220, m0 0 (delM r7.1 o220_9)), (230, m0 o230_9 o230_9_2), (250, .cell false (.ag [.v 100050 o100050_9.length, v0 a0, .m 220, .m 230, .v 100180 r10.length])), (100050, w0 o100050_9), (100180, w0 r10)])], nv := [(9006, vb false), (12006, vb false), (15004, vb true)] }, [Vd Try.prog 0 (.fn (.func 20) [] []) [.p 250 [] 0, .fn (.func 21) [.p 250 [] 0] []] [(220, m0 0 o220_9), (230, m0 o230_9 o230_9_2), (250, .cell false (.ag [.v 100050 o100050_9.length, v0 a0, .m 220, .m 230, .v 100180 o100180_9.length])), (100050, w0 o100050_9), (100180, w0 o100180_9)] (.tup [vi r1.1, vb r1.2]) [(220, m0 0 o220_9), (230, m0 o230_9 o230_9_2), (250, .cell false (.ag [.v 100050 o100050_9.length, v0 a0, .m 220, .m 230, .v 100180 o100180_9.length])), (100050, w0 o100050_9), (100180, w0 o100180_9)], EB r1.2 false, Vd Try.prog 0 (.fn (.func 20) [] []) [.p 250 [] 0, .fn (.func 23) [.p 250 [] 0] []] [(220, m0 0 o220_9), (230, m0 o230_9 o230_9_2), (250, .cell false (.ag [.v 100050 o100050_9.length, v0 a0, .m 220, .m 230, .v 100180 o100180_9.length])), (100050, w0 o100050_9), (100180, w0 o100180_9)] (.tup [vi r4.1, vb r4.2]) [(220, m0 0 o220_9), (230, m0 o230_9 o230_9_2), (250, .cell false (.ag [.v 100050 o100050_9.length, v0 a0, .m 220, .m 230, .v 100180 o100180_9.length])), (100050, w0 o100050_9), (100180, w0 o100180_9)], EB r4.2 false, Vd Try.prog 0 (.fn (.func 20) [] []) [.p 250 [] 0, .fn (.func 24) [] []] [(220, m0 0 o220_9), (230, m0 o230_9 o230_9_2), (250, .cell false (.ag [.v 100050 o100050_9.length, v0 a0, .m 220, .m 230, .v 100180 o100180_9.length])), (100050, w0 o100050_9), (100180, w0 o100180_9)] (.tup [vi r7.1, vb r7.2]) [(220, m0 0 o220_9), (230, m0 o230_9 o230_9_2), (250, .cell false (.ag [.v 100050 o100050_9.length, v0 a0, .m 220, .m 230, .v 100180 o100180_9.length])), (100050, w0 o100050_9), (100180, w0 o100180_9)], EB r7.2 true, Vd Try.prog 0 (.fn (.func 22) [] []) [.p 250 [] 0, vi r7.1] [(220, m0 0 o220_9), (230, m0 o230_9 o230_9_2), (250, .cell false (.ag [.v 100050 o100050_9.length, v0 a0, .m 220, .m 230, .v 100180 o100180_9.length])), (100050, w0 o100050_9), (100180, w0 o100180_9)] (.tup []) [(220, m0 0 (delM r7.1 o220_9)), (230, m0 o230_9 o230_9_2), (250, .cell false (.ag [.v 100050 o100050_9.length, v0 a0, .m 220, .m 230, .v 100180 r10.length])), (100050, w0 o100050_9), (100180, w0 r10)]], by kernel_rfl, (Ac (order_sorter_first_4_valid c2 _) (Ac (nv_b c3) (Ac (order_sorter_first_5_valid c5 _) (Ac (nv_b c6) (Ac (order_sorter_first_6_valid c8 _) (Ac (nv_b c9) (Ac (order_sorter_next_2_valid c11 _) An)))))))⟩
theorem order_Sort_2_l9_s1_p4 {N : Nat} {a0 : List T_api_Op} {o220_9 : List (Int × Bool × Nat)} {o230_9 : Nat} {o230_9_2 : List (Int × Bool × Nat)} {o100050_9 : List T_api_Op} {o100180_9 : List T_api_Op} {r1 : Int × Bool} {r4 : Int × Bool} {r7 : Int × Bool} (c2 : order_sorter_first_4 N 0 o220_9 o230_9 o230_9_2 a0 o100050_9 o100180_9 = some r1) (c3 : r1.2 = false) (c5 : order_sorter_first_5 N 0 o220_9 o230_9 o230_9_2 a0 o100050_9 o100180_9 = some r4) (c6 : r4.2 = false) (c8 : order_sorter_first_6 N 0 o220_9 o230_9 o230_9_2 a0 o100050_9 o100180_9 = some r7) (c9 : r7.2 = false) : Step order_Sort_2_f9 (order_Sort_2_l9_s1_h a0 o220_9 o230_9 o230_9_2 o100050_9 o100180_9) (.exit 2) (S5 0 90 [] [(5, .p 250 [] 0), (7, vi r7.1), (82, vb true)] [(220, m0 0 o220_9), (230, m0 o230_9 o230_9_2), (250, .cell false (.ag [.v 100050 o100050_9.length, v0 a0, .m 220, .m 230, .v 100180 o100180_9.length])), (100050, w0 o100050_9), (100180, w0 o100180_9)]) :=
  ⟨{ an := [(9003, .call (.ret (.tup [vi r1.1, vb r1.2])) [(220, m0 0 o220_9), (230, m0 o230_9 o230_9_2), (250, .cell false (.ag [.v 100050 o100050_9.length, v0 a0, .m 220, .m 230, .v 100180 o100180_9.length])), (100050, w0 o100050_9), (100180, w0 o100180_9)]), (12003, .call (.ret (.tup [vi r4.1, vb r4.2])) [(220, m0 0 o220_9), (230, m0 o230_9 o230_9_2), (250, .cell false (.ag [.v 100050 o100050_9.length, v0 a0, .m 220, .m 230, .v 100180 o100180_9.length])), (100050, w0 o100050_9), (100180, w0 o100180_9)]), (15001, .call (.ret (.tup [vi r7.1, vb r7.2])) [(220, m0 0 o220_9), (230, m0 o230_9 o230_9_2), (250, .cell false (.ag [.v 100050 o100050_9.length, v0 a0, .m 220, .m 230, .v 100180 o100180_9.length])), (100050, w0 o100050_9), (100180, w0 o100180_9)])], nv := [(9006, vb false), (12006, vb false), (15004, vb false)] }, [Vd Try.prog 0 (.fn (.func 20) [] []) [.p 250 [] 0, .fn (.func 21) [.p 250 [] 0] []] [(220, m0 0 o220_9), (230, m0 o230_9 o230_9_2), (250, .cell false (.ag [.v 100050 o100050_9.length, v0 a0, .m 220, .m 230, .v 100180 o100180_9.length])), (100050, w0 o100050_9), (100180, w0 o100180_9)] (.tup [vi r1.1, vb r1.2]) [(220, m0 0 o220_9), (230, m0 o230_9 o230_9_2), (250, .cell false (.ag [.v 100050 o100050_9.length, v0 a0, .m 220, .m 230, .v 100180 o100180_9.length])), (100050, w0 o100050_9), (100180, w0 o100180_9)], EB r1.2 false, Vd Try.prog 0 (.fn (.func 20) [] []) [.p 250 [] 0, .fn (.func 23) [.p 250 [] 0] []] [(220, m0 0 o220_9), (230, m0 o230_9 o230_9_2), (250, .cell false (.ag [.v 100050 o100050_9.length, v0 a0, .m 220, .m 230, .v 100180 o100180_9.length])), (100050, w0 o100050_9), (100180, w0 o100180_9)] (.tup [vi r4.1, vb r4.2]) [(220, m0 0 o220_9), (230, m0 o230_9 o230_9_2), (250, .cell false (.ag [.v 100050 o100050_9.length, v0 a0, .m 220, .m 230, .v 100180 o100180_9.length])), (100050, w0 o100050_9), (100180, w0 o100180_9)], EB r4.2 false, Vd Try.prog 0 (.fn (.func 20) [] []) [.p 250 [] 0, .fn (.func 24) [] []] [(220, m0 0 o220_9), (230, m0 o230_9 o230_9_2), (250, .cell false (.ag [.v 100050 o100050_9.length, v0 a0, .m 220, .m 230, .v 100180 o100180_9.length])), (100050, w0 o100050_9), (100180, w0 o100180_9)] (.tup [vi r7.1, vb r7.2]) [(220, m0 0 o220_9), (230, m0 o230_9 o230_9_2), (250, .cell false (.ag [.v 100050 o100050_9.length, v0 a0, .m 220, .m 230, .v 100180 o100180_9.length])), (100050, w0 o100050_9), (100180, w0 o100180_9)], EB r7.2 false], by kernel_rfl, (Ac (order_sorter_first_4_valid c2 _) (Ac (nv_b c3) (Ac (order_sorter_first_5_valid c5 _) (Ac (nv_b c6) (Ac (order_sorter_first_6_valid c8 _) (Ac (nv_b c9) An))))))⟩
theorem order_Sort_2_l9_s1_ok {a0 : List T_api_Op} : ∀ {N : Nat} {o220_9 : List (Int × Bool × Nat)} {o230_9 : Nat} {o230_9_2 : List (Int × Bool × Nat)} {o100050_9 : List T_api_Op} {o100180_9 : List T_api_Op} {z : (Int × Nat × List (Int × Bool × Nat) × List T_api_Op) ⊕ (Int × List (Int × Bool × Nat) × Nat × List (Int × Bool × Nat) × List T_api_Op × List T_api_Op)}, order_Sort_2_l9_s1 a0 N o220_9 o230_9 o230_9_2 o100050_9 o100180_9 = some z → LoopP order_Sort_2_f9 (order_Sort_2_l9_s1_h a0 o220_9 o230_9 o230_9_2 o100050_9 o100180_9) (order_Sort_2_l9_e z) (order_Sort_2_l9_s a0 z) := by
  intro N
  induction N with
  | zero => intro o220_9 o230_9 o230_9_2 o100050_9 o100180_9 z h; simp [order_Sort_2_l9_s1] at h
  | succ N ih =>
    intro o220_9 o230_9 o230_9_2 o100050_9 o100180_9 z h
    change order_Sort_2_l9_s1_f a0 N (order_Sort_2_l9_s1 a0 N) o220_9 o230_9 o230_9_2 o100050_9 o100180_9 = some z at h
    unfold order_Sort_2_l9_s1_f at h
    obtain ⟨r1, c2, h⟩ := bind_some h
    rcases cond_some h with ⟨c3, h⟩ | ⟨c3, h⟩
    · obtain ⟨r4, c5, h⟩ := bind_some h
      exact Step.next (order_Sort_2_l9_s1_p0 c2 c3 c5) (ih h)
    · obtain ⟨r4, c5, h⟩ := bind_some h
      rcases cond_some h with ⟨c6, h⟩ | ⟨c6, h⟩
      · obtain ⟨e7, c8, h⟩ := bind_some h
        obtain ⟨c9, h⟩ := chk_some h
        rcases optcase_some h with ⟨c10, h⟩ | ⟨e11, c10, h⟩
        · obtain ⟨m11, c12, h⟩ := bind_some h
          have q := ih h
          simp only [order_Sort_2_l9_s1_h, List.length_set, List.length_replicate] at q
          exact Step.next (order_Sort_2_l9_s1_p1 c2 c3 c5 c6 c8 c9 c10 c12) q
        · obtain ⟨m12, c13, h⟩ := bind_some h
          have q := ih h
          simp only [order_Sort_2_l9_s1_h, List.length_set, List.length_replicate] at q
          exact Step.next (order_Sort_2_l9_s1_p2 c2 c3 c5 c6 c8 c9 c10 c13) q
      · obtain ⟨r7, c8, h⟩ := bind_some h
        rcases cond_some h with ⟨c9, h⟩ | ⟨c9, h⟩
        · obtain ⟨r10, c11, h⟩ := bind_some h
          exact Step.next (order_Sort_2_l9_s1_p3 c2 c3 c5 c6 c8 c9 c11) (ih h)
        · obtain rfl := Option.some.inj h
          exact Step.exit (order_Sort_2_l9_s1_p4 c2 c3 c5 c6 c8 c9)
def order_Sort_2_l9_s2_h (a0 : List T_api_Op) (o230_9 : Nat) (o230_9_2 : List (Int × Bool × Nat)) (o100050_9 : List T_api_Op) : St := S5 0 90 [] [(5, .p 250 [] 0)] [(220, m0 0 []), (230, m0 o230_9 o230_9_2), (250, .cell false (.ag [.v 100050 o100050_9.length, v0 a0, .m 220, .m 230, .nils])), (100050, w0 o100050_9)]
def order_Sort_2_l9_s2_f (a0 : List T_api_Op) (N : Nat) (ih : Nat → (List (Int × Bool × Nat)) → List T_api_Op → Option ((Int × Nat × List (Int × Bool × Nat) × List T_api_Op) ⊕ (Int × List (Int × Bool × Nat) × Nat × List (Int × Bool × Nat) × List T_api_Op × List T_api_Op))) (o230_9 : Nat) (o230_9_2 : List (Int × Bool × Nat)) (o100050_9 : List T_api_Op) : Option ((Int × Nat × List (Int × Bool × Nat) × List T_api_Op) ⊕ (Int × List (Int × Bool × Nat) × Nat × List (Int × Bool × Nat) × List T_api_Op × List T_api_Op)) :=
    (order_sorter_first N 0 [] o230_9 o230_9_2 a0 o100050_9).bind fun r1 =>
    cond (r1.2) (
      (order_sorter_next r1.1 0 [] o230_9 o230_9_2 a0 o100050_9).bind fun r4 =>
      order_Sort_2_l9_s1 a0 N (delM r1.1 []) o230_9 o230_9_2 o100050_9 r4) (
      (order_sorter_first_2 N 0 [] o230_9 o230_9_2 a0 o100050_9).bind fun r4 =>
      cond (r4.2) (
        (getI a0 r4.1).bind fun e7 =>
        chk (0 ≤ r4.1 ∧ r4.1 < ((o100050_9.length : Nat) : Int)) <|
        optcase (findM r4.1 o230_9_2) (
          (atM ((o230_9 : Nat) : Int) true ((putM r4.1 false o230_9 o230_9_2).2)).bind fun m11 =>
          ih ((putM r4.1 false o230_9 o230_9_2).1) m11 (o100050_9.set r4.1.toNat e7)) fun e11 =>
          (atM ((e11.2 : Nat) : Int) true ((putM r4.1 e11.1 o230_9 o230_9_2).2)).bind fun m12 =>
          ih ((putM r4.1 e11.1 o230_9 o230_9_2).1) m12 (o100050_9.set r4.1.toNat e7)) (
        (order_sorter_first_3 N 0 [] o230_9 o230_9_2 a0 o100050_9).bind fun r7 =>
        cond (r7.2) (
          (order_sorter_next r7.1 0 [] o230_9 o230_9_2 a0 o100050_9).bind fun r10 =>
          order_Sort_2_l9_s1 a0 N (delM r7.1 []) o230_9 o230_9_2 o100050_9 r10) (
          some (.inl ((r7.1, o230_9, o230_9_2, o100050_9))))))
def order_Sort_2_l9_s2 (a0 : List T_api_Op) : Nat → Nat → (List (Int × Bool × Nat)) → List T_api_Op → Option ((Int × Nat × List (Int × Bool × Nat) × List T_api_Op) ⊕ (Int × List (Int × Bool × Nat) × Nat × List (Int × Bool × Nat) × List T_api_Op × List T_api_Op))
  | 0 => fun _ _ _ => none
  | N + 1 => order_Sort_2_l9_s2_f a0 N (order_Sort_2_l9_s2 a0 N)
theorem order_Sort_2_l9_s2_p0 {N : Nat} {a0 : List T_api_Op} {o230_9 : Nat} {o230_9_2 : List (Int × Bool × Nat)} {o100050_9 : List T_api_Op} {r1 : Int × Bool} {r4 : List T_api_Op} (c2 : order_sorter_first N 0 [] o230_9 o230_9_2 a0 o100050_9 = some r1) (c3 : r1.2 = true) (c5 : order_sorter_next r1.1 0 [] o230_9 o230_9_2 a0 o100050_9 = some r4) : Step order_Sort_2_f9 (order_Sort_2_l9_s2_h a0 o230_9 o230_9_2 o100050_9) (.normal) (S5 0 90 [] [(5, .p 250 [] 0)] [(220, m0 0 (delM r1.1 [])), (230, m0 o230_9 o230_9_2), (250, .cell false (.ag [.v 100050 o100050_9.length, v0 a0, .m 220, .m 230, .v 100180 r4.length])), (100050, w0 o100050_9), (100180, w0 r4)]) :=
  ⟨{ an := [(9003, .call (.ret (.tup [vi r1.1, vb r1.2])) [(220, m0 0 []), (230, m0 o230_9 o230_9_2), (250, .cell false (.ag [.v 100050 o100050_9.length, v0 a0, .m 220, .m 230, .nils])), (100050, w0 o100050_9)]), (11002, .call (.ret (.tup [])) [(220, m0 0 (delM r1.1 [])), (230, m0 o230_9 o230_9_2), (250, .cell false (.ag [.v 100050 o100050_9.length, v0 a0, .m 220, .m 230, .v 100180 r4.length])), (100050, w0 o100050_9), (100180, w0 r4)])], nv := [(9006, vb true)] }, [Vd Try.prog 0 (.fn (.func 20) [] []) [.p 250 [] 0, .fn (.func 21) [.p 250 [] 0] []] [(220, m0 0 []), (230, m0 o230_9 o230_9_2), (250, .cell false (.ag [.v 100050 o100050_9.length, v0 a0, .m 220, .m 230, .nils])), (100050, w0 o100050_9)] (.tup [vi r1.1, vb r1.2]) [(220, m0 0 []), (230, m0 o230_9 o230_9_2), (250, .cell false (.ag [.v 100050 o100050_9.length, v0 a0, .m 220, .m 230, .nils])), (100050, w0 o100050_9)], EB r1.2 true, Vd Try.prog 0 (.fn (.func 22) [] []) [.p 250 [] 0, vi r1.1] [(220, m0 0 []), (230, m0 o230_9 o230_9_2), (250, .cell false (.ag [.v 100050 o100050_9.length, v0 a0, .m 220, .m 230, .nils])), (100050, w0 o100050_9)] (.tup []) [(220, m0 0 (delM r1.1 [])), (230, m0 o230_9 o230_9_2), (250, .cell false (.ag [.v 100050 o100050_9.length, v0 a0, .m 220, .m 230, .v 100180 r4.length])), (100050, w0 o100050_9), (100180, w0 r4)]], by kernel_rfl, (Ac (order_sorter_first_valid c2 _) (Ac (nv_b c3) (Ac (order_sorter_next_valid c5 _) An)))⟩
theorem order_Sort_2_l9_s2_p1 {N : Nat} {a0 : List T_api_Op} {o230_9 : Nat} {o230_9_2 : List (Int × Bool × Nat)} {o100050_9 : List T_api_Op} {r1 : Int × Bool} {r4 : Int × Bool} {e7 : T_api_Op} {m11 : List (Int × Bool × Nat)} (c2 : order_sorter_first N 0 [] o230_9 o230_9_2 a0 o100050_9 = some r1) (c3 : r1.2 = false) (c5 : order_sorter_first_2 N 0 [] o230_9 o230_9_2 a0 o100050_9 = some r4) (c6 : r4.2 = true) (c8 : getI a0 r4.1 = some e7) (c9 : 0 ≤ r4.1 ∧ r4.1 < ((o100050_9.length : Nat) : Int)) (c10 : findM r4.1 o230_9_2 = none) (c12 : atM ((o230_9 : Nat) : Int) true ((putM r4.1 false o230_9 o230_9_2).2) = some m11) : Step order_Sort_2_f9 (order_Sort_2_l9_s2_h a0 o230_9 o230_9_2 o100050_9) (.normal) (S5 0 90 [] [(5, .p 250 [] 0)] [(220, m0 0 []), (230, m0 ((putM r4.1 false o230_9 o230_9_2).1) m11), (250, .cell false (.ag [.v 100050 o100050_9.length, v0 a0, .m 220, .m 230, .nils])), (100050, w0 (o100050_9.set r4.1.toNat e7))]) :=
  ⟨{ an := [(9003, .call (.ret (.tup [vi r1.1, vb r1.2])) [(220, m0 0 []), (230, m0 o230_9 o230_9_2), (250, .cell false (.ag [.v 100050 o100050_9.length, v0 a0, .m 220, .m 230, .nils])), (100050, w0 o100050_9)]), (12003, .call (.ret (.tup [vi r4.1, vb r4.2])) [(220, m0 0 []), (230, m0 o230_9 o230_9_2), (250, .cell false (.ag [.v 100050 o100050_9.length, v0 a0, .m 220, .m 230, .nils])), (100050, w0 o100050_9)]), (14015, .pv (p1 e7)), (14019, .entry none ((putM r4.1 false o230_9 o230_9_2).1) (encM (PV.i .i64) (fun x => AV.pv (.b x)) ((putM r4.1 false o230_9 o230_9_2).2))), (14021, .ents 0 (encM (PV.i .i64) (fun x => AV.pv (.b x)) m11))], nv := [(9006, vb false), (12006, vb true)], no := [(14018, 100050, w0 (o100050_9.set r4.1.toNat e7))] }, [Vd Try.prog 0 (.fn (.func 20) [] []) [.p 250 [] 0, .fn (.func 21) [.p 250 [] 0] []] [(220, m0 0 []), (230, m0 o230_9 o230_9_2), (250, .cell false (.ag [.v 100050 o100050_9.length, v0 a0, .m 220, .m 230, .nils])), (100050, w0 o100050_9)] (.tup [vi r1.1, vb r1.2]) [(220, m0 0 []), (230, m0 o230_9 o230_9_2), (250, .cell false (.ag [.v 100050 o100050_9.length, v0 a0, .m 220, .m 230, .nils])), (100050, w0 o100050_9)], EB r1.2 false, Vd Try.prog 0 (.fn (.func 20) [] []) [.p 250 [] 0, .fn (.func 23) [.p 250 [] 0] []] [(220, m0 0 []), (230, m0 o230_9 o230_9_2), (250, .cell false (.ag [.v 100050 o100050_9.length, v0 a0, .m 220, .m 230, .nils])), (100050, w0 o100050_9)] (.tup [vi r4.1, vb r4.2]) [(220, m0 0 []), (230, m0 o230_9 o230_9_2), (250, .cell false (.ag [.v 100050 o100050_9.length, v0 a0, .m 220, .m 230, .nils])), (100050, w0 o100050_9)], EB r4.2 true, EG (p0 a0) r4.1 (p1 e7), 0 ≤ r4.1 ∧ r4.1 < ((o100050_9.length : Nat) : Int), (p0 o100050_9).len = o100050_9.length, r4.1.toNat < o100050_9.length, r4.1.toNat * 71 = r4.1.toNat * 71, AObj.vec false 71 (.l 71 ((o100050_9.map T_api_Op.enc).set r4.1.toNat (p1 e7))) = w0 (o100050_9.set r4.1.toNat e7), mapFind (.i .i64 r4.1) (encM (PV.i .i64) (fun x => AV.pv (.b x)) o230_9_2) = some none, mapPut (.i .i64 r4.1) (vb false) o230_9 (encM (PV.i .i64) (fun x => AV.pv (.b x)) o230_9_2) = some (((putM r4.1 false o230_9 o230_9_2).1), encM (PV.i .i64) (fun x => AV.pv (.b x)) ((putM r4.1 false o230_9 o230_9_2).2)), mapAt ((o230_9 : Nat) : Int) (vb true) (encM (PV.i .i64) (fun x => AV.pv (.b x)) ((putM r4.1 false o230_9 o230_9_2).2)) = some (encM (PV.i .i64) (fun x => AV.pv (.b x)) m11)], by kernel_rfl, (Ac (order_sorter_first_valid c2 _) (Ac (nv_b c3) (Ac (order_sorter_first_2_valid c5 _) (Ac (nv_b c6) (Ac (getI_ok c8 71 T_api_Op.enc) (Ac c9 (Ac (len_ok _ _ _) (Ac (idx_below c9) (Ac rfl (Ac (ob_set _ _ _ _ _ _) (Ac (findM_none (fv := (fun x => AV.pv (.b x))) key_i64 c10) (Ac (putM_ok (fv := (fun x => AV.pv (.b x))) key_i64 _ _ _ _) (Ac (atM_ok (fk := (PV.i .i64)) (fv := (fun x => AV.pv (.b x))) c12) An)))))))))))))⟩
end Go.Rx
