/- A part of the proof of OrderBatches: the law returns true for every input, and its arguments read as before. No condition. -/
import Derived.Test.YtlfoomimcbobbaaProg
import Derived.Test.YtlfoomimcbobbaaOrderBatchesD
set_option linter.unusedSimpArgs false
set_option linter.unusedVariables false
set_option linter.unusedSectionVars false
set_option maxRecDepth 100000
namespace Go.Rx
open Go.Proofs
theorem order_Sort_2_l9_s2_p2 {N : Nat} {a0 : List T_api_Op} {o230_9 : Nat} {o230_9_2 : List (Int × Bool × Nat)} {o100050_9 : List T_api_Op} {r1 : Int × Bool} {r4 : Int × Bool} {e7 : T_api_Op} {e11 : Bool × Nat} {m12 : List (Int × Bool × Nat)} (c2 : order_sorter_first N 0 [] o230_9 o230_9_2 a0 o100050_9 = some r1) (c3 : r1.2 = false) (c5 : order_sorter_first_2 N 0 [] o230_9 o230_9_2 a0 o100050_9 = some r4) (c6 : r4.2 = true) (c8 : getI a0 r4.1 = some e7) (c9 : 0 ≤ r4.1 ∧ r4.1 < ((o100050_9.length : Nat) : Int)) (c10 : findM r4.1 o230_9_2 = some e11) (c13 : atM ((e11.2 : Nat) : Int) true ((putM r4.1 e11.1 o230_9 o230_9_2).2) = some m12) : Step order_Sort_2_f9 (order_Sort_2_l9_s2_h a0 o230_9 o230_9_2 o100050_9) (.normal) (S5 0 90 [] [(5, .p 250 [] 0)] [(220, m0 0 []), (230, m0 ((putM r4.1 e11.1 o230_9 o230_9_2).1) m12), (250, .cell false (.ag [.v 100050 o100050_9.length, v0 a0, .m 220, .m 230, .nils])), (100050, w0 (o100050_9.set r4.1.toNat e7))]) :=
  ⟨{ an := [(9003, .call (.ret (.tup [vi r1.1, vb r1.2])) [(220, m0 0 []), (230, m0 o230_9 o230_9_2), (250, .cell false (.ag [.v 100050 o100050_9.length, v0 a0, .m 220, .m 230, .nils])), (100050, w0 o100050_9)]), (12003, .call (.ret (.tup [vi r4.1, vb r4.2])) [(220, m0 0 []), (230, m0 o230_9 o230_9_2), (250, .cell false (.ag [.v 100050 o100050_9.length, v0 a0, .m 220, .m 230, .nils])), (100050, w0 o100050_9)]), (14015, .pv (p1 e7)), (14019, .entry (some (vb e11.1, e11.2)) ((putM r4.1 e11.1 o230_9 o230_9_2).1) (encM (PV.i .i64) (fun x => AV.pv (.b x)) ((putM r4.1 e11.1 o230_9 o230_9_2).2))), (14021, .ents 0 (encM (PV.i .i64) (fun x => AV.pv (.b x)) m12))], nv := [(9006, vb false), (12006, vb true)], no := [(14018, 100050, w0 (o100050_9.set r4.1.toNat e7))] }, [Vd Try.prog 0 (.fn (.func 20) [] []) [.p 250 [] 0, .fn (.func 21) [.p 250 [] 0] []] [(220, m0 0 []), (230, m0 o230_9 o230_9_2), (250, .cell false (.ag [.v 100050 o100050_9.length, v0 a0, .m 220, .m 230, .nils])), (100050, w0 o100050_9)] (.tup [vi r1.1, vb r1.2]) [(220, m0 0 []), (230, m0 o230_9 o230_9_2), (250, .cell false (.ag [.v 100050 o100050_9.length, v0 a0, .m 220, .m 230, .nils])), (100050, w0 o100050_9)], EB r1.2 false, Vd Try.prog 0 (.fn (.func 20) [] []) [.p 250 [] 0, .fn (.func 23) [.p 250 [] 0] []] [(220, m0 0 []), (230, m0 o230_9 o230_9_2), (250, .cell false (.ag [.v 100050 o100050_9.length, v0 a0, .m 220, .m 230, .nils])), (100050, w0 o100050_9)] (.tup [vi r4.1, vb r4.2]) [(220, m0 0 []), (230, m0 o230_9 o230_9_2), (250, .cell false (.ag [.v 100050 o100050_9.length, v0 a0, .m 220, .m 230, .nils])), (100050, w0 o100050_9)], EB r4.2 true, EG (p0 a0) r4.1 (p1 e7), 0 ≤ r4.1 ∧ r4.1 < ((o100050_9.length : Nat) : Int), (p0 o100050_9).len = o100050_9.length, r4.1.toNat < o100050_9.length, r4.1.toNat * 71 = r4.1.toNat * 71, AObj.vec false 71 (.l 71 ((o100050_9.map T_api_Op.enc).set r4.1.toNat (p1 e7))) = w0 (o100050_9.set r4.1.toNat e7), mapFind (.i .i64 r4.1) (encM (PV.i .i64) (fun x => AV.pv (.b x)) o230_9_2) = some (some (vb e11.1, e11.2)), mapPut (.i .i64 r4.1) (vb e11.1) o230_9 (encM (PV.i .i64) (fun x => AV.pv (.b x)) o230_9_2) = some (((putM r4.1 e11.1 o230_9 o230_9_2).1), encM (PV.i .i64) (fun x => AV.pv (.b x)) ((putM r4.1 e11.1 o230_9 o230_9_2).2)), mapAt ((e11.2 : Nat) : Int) (vb true) (encM (PV.i .i64) (fun x => AV.pv (.b x)) ((putM r4.1 e11.1 o230_9 o230_9_2).2)) = some (encM (PV.i .i64) (fun x => AV.pv (.b x)) m12)], by kernel_rfl, (Ac (order_sorter_first_valid c2 _) (Ac (nv_b c3) (Ac (order_sorter_first_2_valid c5 _) (Ac (nv_b c6) (Ac (getI_ok c8 71 T_api_Op.enc) (Ac c9 (Ac (len_ok _ _ _) (Ac (idx_below c9) (Ac rfl (Ac (ob_set _ _ _ _ _ _) (Ac (findM_some (fv := (fun x => AV.pv (.b x))) key_i64 c10) (Ac (putM_ok (fv := (fun x => AV.pv (.b x))) key_i64 _ _ _ _) (Ac (atM_ok (fk := (PV.i .i64)) (fv := (fun x => AV.pv (.b x))) c13) An)))))))))))))⟩
theorem order_Sort_2_l9_s2_p3 {N : Nat} {a0 : List T_api_Op} {o230_9 : Nat} {o230_9_2 : List (Int × Bool × Nat)} {o100050_9 : List T_api_Op} {r1 : Int × Bool} {r4 : Int × Bool} {r7 : Int × Bool} {r10 : List T_api_Op} (c2 : order_sorter_first N 0 [] o230_9 o230_9_2 a0 o100050_9 = some r1) (c3 : r1.2 = false) (c5 : order_sorter_first_2 N 0 [] o230_9 o230_9_2 a0 o100050_9 = some r4) (c6 : r4.2 = false) (c8 : order_sorter_first_3 N 0 [] o230_9 o230_9_2 a0 o100050_9 = some r7) (c9 : r7.2 = true) (c11 : order_sorter_next r7.1 0 [] o230_9 o230_9_2 a0 o100050_9 = some r10) : Step order_Sort_2_f9 (order_Sort_2_l9_s2_h a0 o230_9 o230_9_2 o100050_9) (.normal) (S5 0 90 [] [(5, .p 250 [] 0)] [(220, m0 0 (delM r7.1 [])), (230, m0 o230_9 o230_9_2), (250, .cell false (.ag [.v 100050 o100050_9.length, v0 a0, .m 220, .m 230, .v 100180 r10.length])), (100050, w0 o100050_9), (100180, w0 r10)]) :=
  ⟨{ an := [(9003, .call (.ret (.tup [vi r1.1, vb r1.2])) [(220, m0 0 []), (230, m0 o230_9 o230_9_2), (250, .cell false (.ag [.v 100050 o100050_9.length, v0 a0, .m 220, .m 230, .nils])), (100050, w0 o100050_9)]), (12003, .call (.ret (.tup [vi r4.1, vb r4.2])) [(220, m0 0 []), (230, m0 o230_9 o230_9_2), (250, .cell false (.ag [.v 100050 o100050_9.length, v0 a0, .m 220, .m 230, .nils])), (100050, w0 o100050_9)]), (15001, .call (.ret (.tup [vi r7.1, vb r7.2])) [(220, m0 0 []), (230, m0 o230_9 o230_9_2), (250, .cell false (.ag [.v 100050 o100050_9.length, v0 a0, .m 220, .m 230, .nils])), (100050, w0 o100050_9)]), (17002, .call (.ret (.tup [])) [(220, m0 0 (delM r7.1 [])), (230, m0 o230_9 o230_9_2), (250, .cell false (.ag [.v 100050 o100050_9.length, v0 a0, .m 220, .m 230, .v 100180 r10.length])), (100050, w0 o100050_9), (100180, w0 r10)])], nv := [(9006, vb false), (12006, vb false), (15004, vb true)] }, [Vd Try.prog 0 (.fn (.func 20) [] []) [.p 250 [] 0, .fn (.func 21) [.p 250 [] 0] []] [(220, m0 0 []), (230, m0 o230_9 o230_9_2), (250, .cell false (.ag [.v 100050 o100050_9.length, v0 a0, .m 220, .m 230, .nils])), (100050, w0 o100050_9)] (.tup [vi r1.1, vb r1.2]) [(220, m0 0 []), (230, m0 o230_9 o230_9_2), (250, .cell false (.ag [.v 100050 o100050_9.length, v0 a0, .m 220, .m 230, .nils])), (100050, w0 o100050_9)], EB r1.2 false, Vd Try.prog 0 (.fn (.func 20) [] []) [.p 250 [] 0, .fn (.func 23) [.p 250 [] 0] []] [(220, m0 0 []), (230, m0 o230_9 o230_9_2), (250, .cell false (.ag [.v 100050 o100050_9.length, v0 a0, .m 220, .m 230, .nils])), (100050, w0 o100050_9)] (.tup [vi r4.1, vb r4.2]) [(220, m0 0 []), (230, m0 o230_9 o230_9_2), (250, .cell false (.ag [.v 100050 o100050_9.length, v0 a0, .m 220, .m 230, .nils])), (100050, w0 o100050_9)], EB r4.2 false, Vd Try.prog 0 (.fn (.func 20) [] []) [.p 250 [] 0, .fn (.func 24) [] []] [(220, m0 0 []), (230, m0 o230_9 o230_9_2), (250, .cell false (.ag [.v 100050 o100050_9.length, v0 a0, .m 220, .m 230, .nils])), (100050, w0 o100050_9)] (.tup [vi r7.1, vb r7.2]) [(220, m0 0 []), (230, m0 o230_9 o230_9_2), (250, .cell false (.ag [.v 100050 o100050_9.length, v0 a0, .m 220, .m 230, .nils])), (100050, w0 o100050_9)], EB r7.2 true, Vd Try.prog 0 (.fn (.func 22) [] []) [.p 250 [] 0, vi r7.1] [(220, m0 0 []), (230, m0 o230_9 o230_9_2), (250, .cell false (.ag [.v 100050 o100050_9.length, v0 a0, .m 220, .m 230, .nils])), (100050, w0 o100050_9)] (.tup []) [(220, m0 0 (delM r7.1 [])), (230, m0 o230_9 o230_9_2), (250, .cell false (.ag [.v 100050 o100050_9.length, v0 a0, .m 220, .m 230, .v 100180 r10.length])), (100050, w0 o100050_9), (100180, w0 r10)]], by kernel_rfl, (Ac (order_sorter_first_valid c2 _) (Ac (nv_b c3) (Ac (order_sorter_first_2_valid c5 _) (Ac (nv_b c6) (Ac (order_sorter_first_3_valid c8 _) (Ac (nv_b c9) (Ac (order_sorter_next_valid c11 _) An)))))))⟩
theorem order_Sort_2_l9_s2_p4 {N : Nat} {a0 : List T_api_Op} {o230_9 : Nat} {o230_9_2 : List (Int × Bool × Nat)} {o100050_9 : List T_api_Op} {r1 : Int × Bool} {r4 : Int × Bool} {r7 : Int × Bool} (c2 : order_sorter_first N 0 [] o230_9 o230_9_2 a0 o100050_9 = some r1) (c3 : r1.2 = false) (c5 : order_sorter_first_2 N 0 [] o230_9 o230_9_2 a0 o100050_9 = some r4) (c6 : r4.2 = false) (c8 : order_sorter_first_3 N 0 [] o230_9 o230_9_2 a0 o100050_9 = some r7) (c9 : r7.2 = false) : Step order_Sort_2_f9 (order_Sort_2_l9_s2_h a0 o230_9 o230_9_2 o100050_9) (.exit 2) (S5 0 90 [] [(5, .p 250 [] 0), (7, vi r7.1), (82, vb true)] [(220, m0 0 []), (230, m0 o230_9 o230_9_2), (250, .cell false (.ag [.v 100050 o100050_9.length, v0 a0, .m 220, .m 230, .nils])), (100050, w0 o100050_9)]) :=
  ⟨{ an := [(9003, .call (.ret (.tup [vi r1.1, vb r1.2])) [(220, m0 0 []), (230, m0 o230_9 o230_9_2), (250, .cell false (.ag [.v 100050 o100050_9.length, v0 a0, .m 220, .m 230, .nils])), (100050, w0 o100050_9)]), (12003, .call (.ret (.tup [vi r4.1, vb r4.2])) [(220, m0 0 []), (230, m0 o230_9 o230_9_2), (250, .cell false (.ag [.v 100050 o100050_9.length, v0 a0, .m 220, .m 230, .nils])), (100050, w0 o100050_9)]), (15001, .call (.ret (.tup [vi r7.1, vb r7.2])) [(220, m0 0 []), (230, m0 o230_9 o230_9_2), (250, .cell false (.ag [.v 100050 o100050_9.length, v0 a0, .m 220, .m 230, .nils])), (100050, w0 o100050_9)])], nv := [(9006, vb false), (12006, vb false), (15004, vb false)] }, [Vd Try.prog 0 (.fn (.func 20) [] []) [.p 250 [] 0, .fn (.func 21) [.p 250 [] 0] []] [(220, m0 0 []), (230, m0 o230_9 o230_9_2), (250, .cell false (.ag [.v 100050 o100050_9.length, v0 a0, .m 220, .m 230, .nils])), (100050, w0 o100050_9)] (.tup [vi r1.1, vb r1.2]) [(220, m0 0 []), (230, m0 o230_9 o230_9_2), (250, .cell false (.ag [.v 100050 o100050_9.length, v0 a0, .m 220, .m 230, .nils])), (100050, w0 o100050_9)], EB r1.2 false, Vd Try.prog 0 (.fn (.func 20) [] []) [.p 250 [] 0, .fn (.func 23) [.p 250 [] 0] []] [(220, m0 0 []), (230, m0 o230_9 o230_9_2), (250, .cell false (.ag [.v 100050 o100050_9.length, v0 a0, .m 220, .m 230, .nils])), (100050, w0 o100050_9)] (.tup [vi r4.1, vb r4.2]) [(220, m0 0 []), (230, m0 o230_9 o230_9_2), (250, .cell false (.ag [.v 100050 o100050_9.length, v0 a0, .m 220, .m 230, .nils])), (100050, w0 o100050_9)], EB r4.2 false, Vd Try.prog 0 (.fn (.func 20) [] []) [.p 250 [] 0, .fn (.func 24) [] []] [(220, m0 0 []), (230, m0 o230_9 o230_9_2), (250, .cell false (.ag [.v 100050 o100050_9.length, v0 a0, .m 220, .m 230, .nils])), (100050, w0 o100050_9)] (.tup [vi r7.1, vb r7.2]) [(220, m0 0 []), (230, m0 o230_9 o230_9_2), (250, .cell false (.ag [.v 100050 o100050_9.length, v0 a0, .m 220, .m 230, .nils])), (100050, w0 o100050_9)], EB r7.2 false], by kernel_rfl, (Ac (order_sorter_first_valid c2 _) (Ac (nv_b c3) (Ac (order_sorter_first_2_valid c5 _) (Ac (nv_b c6) (Ac (order_sorter_first_3_valid c8 _) (Ac (nv_b c9) An))))))⟩
theorem order_Sort_2_l9_s2_ok {a0 : List T_api_Op} : ∀ {N : Nat} {o230_9 : Nat} {o230_9_2 : List (Int × Bool × Nat)} {o100050_9 : List T_api_Op} {z : (Int × Nat × List (Int × Bool × Nat) × List T_api_Op) ⊕ (Int × List (Int × Bool × Nat) × Nat × List (Int × Bool × Nat) × List T_api_Op × List T_api_Op)}, order_Sort_2_l9_s2 a0 N o230_9 o230_9_2 o100050_9 = some z → LoopP order_Sort_2_f9 (order_Sort_2_l9_s2_h a0 o230_9 o230_9_2 o100050_9) (order_Sort_2_l9_e z) (order_Sort_2_l9_s a0 z) := by
  intro N
  induction N with
  | zero => intro o230_9 o230_9_2 o100050_9 z h; simp [order_Sort_2_l9_s2] at h
  | succ N ih =>
    intro o230_9 o230_9_2 o100050_9 z h
    change order_Sort_2_l9_s2_f a0 N (order_Sort_2_l9_s2 a0 N) o230_9 o230_9_2 o100050_9 = some z at h
    unfold order_Sort_2_l9_s2_f at h
    obtain ⟨r1, c2, h⟩ := bind_some h
    rcases cond_some h with ⟨c3, h⟩ | ⟨c3, h⟩
    · obtain ⟨r4, c5, h⟩ := bind_some h
      exact Step.next (order_Sort_2_l9_s2_p0 c2 c3 c5) (order_Sort_2_l9_s1_ok h)
    · obtain ⟨r4, c5, h⟩ := bind_some h
      rcases cond_some h with ⟨c6, h⟩ | ⟨c6, h⟩
      · obtain ⟨e7, c8, h⟩ := bind_some h
        obtain ⟨c9, h⟩ := chk_some h
        rcases optcase_some h with ⟨c10, h⟩ | ⟨e11, c10, h⟩
        · obtain ⟨m11, c12, h⟩ := bind_some h
          have q := ih h
          simp only [order_Sort_2_l9_s2_h, List.length_set, List.length_replicate] at q
          exact Step.next (order_Sort_2_l9_s2_p1 c2 c3 c5 c6 c8 c9 c10 c12) q
        · obtain ⟨m12, c13, h⟩ := bind_some h
          have q := ih h
          simp only [order_Sort_2_l9_s2_h, List.length_set, List.length_replicate] at q
          exact Step.next (order_Sort_2_l9_s2_p2 c2 c3 c5 c6 c8 c9 c10 c13) q
      · obtain ⟨r7, c8, h⟩ := bind_some h
        rcases cond_some h with ⟨c9, h⟩ | ⟨c9, h⟩
        · obtain ⟨r10, c11, h⟩ := bind_some h
          exact Step.next (order_Sort_2_l9_s2_p3 c2 c3 c5 c6 c8 c9 c11) (order_Sort_2_l9_s1_ok h)
        · obtain rfl := Option.some.inj h
          exact Step.exit (order_Sort_2_l9_s2_p4 c2 c3 c5 c6 c8 c9)
def order_Sort_2_l9_h (a0 : List T_api_Op)  : St := S5 0 90 [] [(5, .p 250 [] 0), (27, vi 0), (28, vi 0), (29, vb false)] [(220, m0 0 []), (230, m0 0 []), (250, .cell false (.ag [.v 100050 0, v0 a0, .m 220, .m 230, .nils])), (100050, w0 [])]
def order_Sort_2_l9_f (a0 : List T_api_Op) (N : Nat) (ih : Option ((Int × Nat × List (Int × Bool × Nat) × List T_api_Op) ⊕ (Int × List (Int × Bool × Nat) × Nat × List (Int × Bool × Nat) × List T_api_Op × List T_api_Op)))  : Option ((Int × Nat × List (Int × Bool × Nat) × List T_api_Op) ⊕ (Int × List (Int × Bool × Nat) × Nat × List (Int × Bool × Nat) × List T_api_Op × List T_api_Op)) :=
    (order_sorter_first N 0 [] 0 [] a0 []).bind fun r1 =>
    cond (r1.2) (
      (order_sorter_next r1.1 0 [] 0 [] a0 []).bind fun r4 =>
      order_Sort_2_l9_s1 a0 N (delM r1.1 []) 0 [] [] r4) (
      (order_sorter_first_2 N 0 [] 0 [] a0 []).bind fun r4 =>
      cond (r4.2) (
        (getI a0 r4.1).bind fun e7 =>
        chk (0 ≤ r4.1 ∧ r4.1 < ((0 : Nat) : Int)) <|
        (atM (0 : Int) true ((putM r4.1 false 0 []).2)).bind fun m10 =>
        order_Sort_2_l9_s2 a0 N ((putM r4.1 false 0 []).1) m10 ([].set r4.1.toNat e7)) (
        (order_sorter_first_3 N 0 [] 0 [] a0 []).bind fun r7 =>
        cond (r7.2) (
          (order_sorter_next r7.1 0 [] 0 [] a0 []).bind fun r10 =>
          order_Sort_2_l9_s1 a0 N (delM r7.1 []) 0 [] [] r10) (
          some (.inl ((r7.1, 0, [], []))))))
def order_Sort_2_l9 (a0 : List T_api_Op) : Nat → Option ((Int × Nat × List (Int × Bool × Nat) × List T_api_Op) ⊕ (Int × List (Int × Bool × Nat) × Nat × List (Int × Bool × Nat) × List T_api_Op × List T_api_Op))
  | 0 => none
  | N + 1 => order_Sort_2_l9_f a0 N (order_Sort_2_l9 a0 N)
theorem order_Sort_2_l9_p0 {N : Nat} {a0 : List T_api_Op} {r1 : Int × Bool} {r4 : List T_api_Op} (c2 : order_sorter_first N 0 [] 0 [] a0 [] = some r1) (c3 : r1.2 = true) (c5 : order_sorter_next r1.1 0 [] 0 [] a0 [] = some r4) : Step order_Sort_2_f9 (order_Sort_2_l9_h a0 ) (.normal) (S5 0 90 [] [(5, .p 250 [] 0)] [(220, m0 0 (delM r1.1 [])), (230, m0 0 []), (250, .cell false (.ag [.v 100050 0, v0 a0, .m 220, .m 230, .v 100180 r4.length])), (100050, w0 []), (100180, w0 r4)]) :=
  ⟨{ an := [(9003, .call (.ret (.tup [vi r1.1, vb r1.2])) [(220, m0 0 []), (230, m0 0 []), (250, .cell false (.ag [.v 100050 0, v0 a0, .m 220, .m 230, .nils])), (100050, w0 [])]), (11002, .call (.ret (.tup [])) [(220, m0 0 (delM r1.1 [])), (230, m0 0 []), (250, .cell false (.ag [.v 100050 0, v0 a0, .m 220, .m 230, .v 100180 r4.length])), (100050, w0 []), (100180, w0 r4)])], nv := [(9006, vb true)] }, [Vd Try.prog 0 (.fn (.func 20) [] []) [.p 250 [] 0, .fn (.func 21) [.p 250 [] 0] []] [(220, m0 0 []), (230, m0 0 []), (250, .cell false (.ag [.v 100050 0, v0 a0, .m 220, .m 230, .nils])), (100050, w0 [])] (.tup [vi r1.1, vb r1.2]) [(220, m0 0 []), (230, m0 0 []), (250, .cell false (.ag [.v 100050 0, v0 a0, .m 220, .m 230, .nils])), (100050, w0 [])], EB r1.2 true, Vd Try.prog 0 (.fn (.func 22) [] []) [.p 250 [] 0, vi r1.1] [(220, m0 0 []), (230, m0 0 []), (250, .cell false (.ag [.v 100050 0, v0 a0, .m 220, .m 230, .nils])), (100050, w0 [])] (.tup []) [(220, m0 0 (delM r1.1 [])), (230, m0 0 []), (250, .cell false (.ag [.v 100050 0, v0 a0, .m 220, .m 230, .v 100180 r4.length])), (100050, w0 []), (100180, w0 r4)]], by kernel_rfl, (Ac (order_sorter_first_valid c2 _) (Ac (nv_b c3) (Ac (order_sorter_next_valid c5 _) An)))⟩
theorem order_Sort_2_l9_p1 {N : Nat} {a0 : List T_api_Op} {r1 : Int × Bool} {r4 : Int × Bool} {e7 : T_api_Op} {m10 : List (Int × Bool × Nat)} (c2 : order_sorter_first N 0 [] 0 [] a0 [] = some r1) (c3 : r1.2 = false) (c5 : order_sorter_first_2 N 0 [] 0 [] a0 [] = some r4) (c6 : r4.2 = true) (c8 : getI a0 r4.1 = some e7) (c9 : 0 ≤ r4.1 ∧ r4.1 < ((0 : Nat) : Int)) (c11 : atM (0 : Int) true ((putM r4.1 false 0 []).2) = some m10) : Step order_Sort_2_f9 (order_Sort_2_l9_h a0 ) (.normal) (S5 0 90 [] [(5, .p 250 [] 0)] [(220, m0 0 []), (230, m0 ((putM r4.1 false 0 []).1) m10), (250, .cell false (.ag [.v 100050 0, v0 a0, .m 220, .m 230, .nils])), (100050, w0 ([].set r4.1.toNat e7))]) :=
  ⟨{ an := [(9003, .call (.ret (.tup [vi r1.1, vb r1.2])) [(220, m0 0 []), (230, m0 0 []), (250, .cell false (.ag [.v 100050 0, v0 a0, .m 220, .m 230, .nils])), (100050, w0 [])]), (12003, .call (.ret (.tup [vi r4.1, vb r4.2])) [(220, m0 0 []), (230, m0 0 []), (250, .cell false (.ag [.v 100050 0, v0 a0, .m 220, .m 230, .nils])), (100050, w0 [])]), (14015, .pv (p1 e7)), (14019, .entry none ((putM r4.1 false 0 []).1) (encM (PV.i .i64) (fun x => AV.pv (.b x)) ((putM r4.1 false 0 []).2))), (14021, .ents 0 (encM (PV.i .i64) (fun x => AV.pv (.b x)) m10))], nv := [(9006, vb false), (12006, vb true)], no := [(14018, 100050, w0 ([].set r4.1.toNat e7))] }, [Vd Try.prog 0 (.fn (.func 20) [] []) [.p 250 [] 0, .fn (.func 21) [.p 250 [] 0] []] [(220, m0 0 []), (230, m0 0 []), (250, .cell false (.ag [.v 100050 0, v0 a0, .m 220, .m 230, .nils])), (100050, w0 [])] (.tup [vi r1.1, vb r1.2]) [(220, m0 0 []), (230, m0 0 []), (250, .cell false (.ag [.v 100050 0, v0 a0, .m 220, .m 230, .nils])), (100050, w0 [])], EB r1.2 false, Vd Try.prog 0 (.fn (.func 20) [] []) [.p 250 [] 0, .fn (.func 23) [.p 250 [] 0] []] [(220, m0 0 []), (230, m0 0 []), (250, .cell false (.ag [.v 100050 0, v0 a0, .m 220, .m 230, .nils])), (100050, w0 [])] (.tup [vi r4.1, vb r4.2]) [(220, m0 0 []), (230, m0 0 []), (250, .cell false (.ag [.v 100050 0, v0 a0, .m 220, .m 230, .nils])), (100050, w0 [])], EB r4.2 true, EG (p0 a0) r4.1 (p1 e7), 0 ≤ r4.1 ∧ r4.1 < ((0 : Nat) : Int), (p0 []).len = 0, r4.1.toNat < 0, r4.1.toNat * 71 = r4.1.toNat * 71, AObj.vec false 71 (.l 71 (([].map T_api_Op.enc).set r4.1.toNat (p1 e7))) = w0 ([].set r4.1.toNat e7), mapFind (.i .i64 r4.1) (encM (PV.i .i64) (fun x => AV.pv (.b x)) []) = some none, mapPut (.i .i64 r4.1) (vb false) 0 (encM (PV.i .i64) (fun x => AV.pv (.b x)) []) = some (((putM r4.1 false 0 []).1), encM (PV.i .i64) (fun x => AV.pv (.b x)) ((putM r4.1 false 0 []).2)), mapAt (0 : Int) (vb true) (encM (PV.i .i64) (fun x => AV.pv (.b x)) ((putM r4.1 false 0 []).2)) = some (encM (PV.i .i64) (fun x => AV.pv (.b x)) m10)], by kernel_rfl, (Ac (order_sorter_first_valid c2 _) (Ac (nv_b c3) (Ac (order_sorter_first_2_valid c5 _) (Ac (nv_b c6) (Ac (getI_ok c8 71 T_api_Op.enc) (Ac c9 (Ac ((len_ok 71 T_api_Op.enc []).trans (by simp)) (Ac (idx_below c9) (Ac rfl (Ac (ob_set _ _ _ _ _ _) (Ac (findM_none (fv := (fun x => AV.pv (.b x))) key_i64 (rfl : findM r4.1 ([] : List (Int × Bool × Nat)) = none)) (Ac (putM_ok (fv := (fun x => AV.pv (.b x))) key_i64 _ _ _ _) (Ac (atM_ok (fk := (PV.i .i64)) (fv := (fun x => AV.pv (.b x))) c11) An)))))))))))))⟩
theorem order_Sort_2_l9_p2 {N : Nat} {a0 : List T_api_Op} {r1 : Int × Bool} {r4 : Int × Bool} {r7 : Int × Bool} {r10 : List T_api_Op} (c2 : order_sorter_first N 0 [] 0 [] a0 [] = some r1) (c3 : r1.2 = false) (c5 : order_sorter_first_2 N 0 [] 0 [] a0 [] = some r4) (c6 : r4.2 = false) (c8 : order_sorter_first_3 N 0 [] 0 [] a0 [] = some r7) (c9 : r7.2 = true) (c11 : order_sorter_next r7.1 0 [] 0 [] a0 [] = some r10) : Step order_Sort_2_f9 (order_Sort_2_l9_h a0 ) (.normal) (S5 0 90 [] [(5, .p 250 [] 0)] [(220, m0 0 (delM r7.1 [])), (230, m0 0 []), (250, .cell false (.ag [.v 100050 0, v0 a0, .m 220, .m 230, .v 100180 r10.length])), (100050, w0 []), (100180, w0 r10)]) :=
  ⟨{ an := [(9003, .call (.ret (.tup [vi r1.1, vb r1.2])) [(220, m0 0 []), (230, m0 0 []), (250, .cell false (.ag [.v 100050 0, v0 a0, .m 220, .m 230, .nils])), (100050, w0 [])]), (12003, .call (.ret (.tup [vi r4.1, vb r4.2])) [(220, m0 0 []), (230, m0 0 []), (250, .cell false (.ag [.v 100050 0, v0 a0, .m 220, .m 230, .nils])), (100050, w0 [])]), (15001, .call (.ret (.tup [vi r7.1, vb r7.2])) [(220, m0 0 []), (230, m0 0 []), (250, .cell false (.ag [.v 100050 0, v0 a0, .m 220, .m 230, .nils])), (100050, w0 [])]), (17002, .call (.ret (.tup [])) [(220, m0 0 (delM r7.1 [])), (230, m0 0 []), (250, .cell false (.ag [.v 100050 0, v0 a0, .m 220, .m 230, .v 100180 r10.length])), (100050, w0 []), (100180, w0 r10)])], nv := [(9006, vb false), (12006, vb false), (15004, vb true)] }, [Vd Try.prog 0 (.fn (.func 20) [] []) [.p 250 [] 0, .fn (.func 21) [.p 250 [] 0] []] [(220, m0 0 []), (230, m0 0 []), (250, .cell false (.ag [.v 100050 0, v0 a0, .m 220, .m 230, .nils])), (100050, w0 [])] (.tup [vi r1.1, vb r1.2]) [(220, m0 0 []), (230, m0 0 []), (250, .cell false (.ag [.v 100050 0, v0 a0, .m 220, .m 230, .nils])), (100050, w0 [])], EB r1.2 false, Vd Try.prog 0 (.fn (.func 20) [] []) [.p 250 [] 0, .fn (.func 23) [.p 250 [] 0] []] [(220, m0 0 []), (230, m0 0 []), (250, .cell false (.ag [.v 100050 0, v0 a0, .m 220, .m 230, .nils])), (100050, w0 [])] (.tup [vi r4.1, vb r4.2]) [(220, m0 0 []), (230, m0 0 []), (250, .cell false (.ag [.v 100050 0, v0 a0, .m 220, .m 230, .nils])), (100050, w0 [])], EB r4.2 false, Vd Try.prog 0 (.fn (.func 20) [] []) [.p 250 [] 0, .fn (.func 24) [] []] [(220, m0 0 []), (230, m0 0 []), (250, .cell false (.ag [.v 100050 0, v0 a0, .m 220, .m 230, .nils])), (100050, w0 [])] (.tup [vi r7.1, vb r7.2]) [(220, m0 0 []), (230, m0 0 []), (250, .cell false (.ag [.v 100050 0, v0 a0, .m 220, .m 230, .nils])), (100050, w0 [])], EB r7.2 true, Vd Try.prog 0 (.fn (.func 22) [] []) [.p 250 [] 0, vi r7.1] [(220, m0 0 []), (230, m0 0 []), (250, .cell false (.ag [.v 100050 0, v0 a0, .m 220, .m 230, .nils])), (100050, w0 [])] (.tup []) [(220, m0 0 (delM r7.1 [])), (230, m0 0 []), (250, .cell false (.ag [.v 100050 0, v0 a0, .m 220, .m 230, .v 100180 r10.length])), (100050, w0 []), (100180, w0 r10)]], by kernel_rfl, (Ac (order_sorter_first_valid c2 _) (Ac (nv_b c3) (Ac (order_sorter_first_2_valid c5 _) (Ac (nv_b c6) (Ac (order_sorter_first_3_valid c8 _) (Ac (nv_b c9) (Ac (order_sorter_next_valid c11 _) An)))))))⟩
theorem order_Sort_2_l9_p3 {N : Nat} {a0 : List T_api_Op} {r1 : Int × Bool} {r4 : Int × Bool} {r7 : Int × Bool} (c2 : order_sorter_first N 0 [] 0 [] a0 [] = some r1) (c3 : r1.2 = false) (c5 : order_sorter_first_2 N 0 [] 0 [] a0 [] = some r4) (c6 : r4.2 = false) (c8 : order_sorter_first_3 N 0 [] 0 [] a0 [] = some r7) (c9 : r7.2 = false) : Step order_Sort_2_f9 (order_Sort_2_l9_h a0 ) (.exit 2) (S5 0 90 [] [(5, .p 250 [] 0), (7, vi r7.1), (82, vb true)] [(220, m0 0 []), (230, m0 0 []), (250, .cell false (.ag [.v 100050 0, v0 a0, .m 220, .m 230, .nils])), (100050, w0 [])]) :=
  ⟨{ an := [(9003, .call (.ret (.tup [vi r1.1, vb r1.2])) [(220, m0 0 []), (230, m0 0 []), (250, .cell false (.ag [.v 100050 0, v0 a0, .m 220, .m 230, .nils])), (100050, w0 [])]), (12003, .call (.ret (.tup [vi r4.1, vb r4.2])) [(220, m0 0 []), (230, m0 0 []), (250, .cell false (.ag [.v 100050 0, v0 a0, .m 220, .m 230, .nils])), (100050, w0 [])]), (15001, .call (.ret (.tup [vi r7.1, vb r7.2])) [(220, m0 0 []), (230, m0 0 []), (250, .cell false (.ag [.v 100050 0, v0 a0, .m 220, .m 230, .nils])), (100050, w0 [])])], nv := [(9006, vb false), (12006, vb false), (15004, vb false)] }, [Vd Try.prog 0 (.fn (.func 20) [] []) [.p 250 [] 0, .fn (.func 21) [.p 250 [] 0] []] [(220, m0 0 []), (230, m0 0 []), (250, .cell false (.ag [.v 100050 0, v0 a0, .m 220, .m 230, .nils])), (100050, w0 [])] (.tup [vi r1.1, vb r1.2]) [(220, m0 0 []), (230, m0 0 []), (250, .cell false (.ag [.v 100050 0, v0 a0, .m 220, .m 230, .nils])), (100050, w0 [])], EB r1.2 false, Vd Try.prog 0 (.fn (.func 20) [] []) [.p 250 [] 0, .fn (.func 23) [.p 250 [] 0] []] [(220, m0 0 []), (230, m0 0 []), (250, .cell false (.ag [.v 100050 0, v0 a0, .m 220, .m 230, .nils])), (100050, w0 [])] (.tup [vi r4.1, vb r4.2]) [(220, m0 0 []), (230, m0 0 []), (250, .cell false (.ag [.v 100050 0, v0 a0, .m 220, .m 230, .nils])), (100050, w0 [])], EB r4.2 false, Vd Try.prog 0 (.fn (.func 20) [] []) [.p 250 [] 0, .fn (.func 24) [] []] [(220, m0 0 []), (230, m0 0 []), (250, .cell false (.ag [.v 100050 0, v0 a0, .m 220, .m 230, .nils])), (100050, w0 [])] (.tup [vi r7.1, vb r7.2]) [(220, m0 0 []), (230, m0 0 []), (250, .cell false (.ag [.v 100050 0, v0 a0, .m 220, .m 230, .nils])), (100050, w0 [])], EB r7.2 false], by kernel_rfl, (Ac (order_sorter_first_valid c2 _) (Ac (nv_b c3) (Ac (order_sorter_first_2_valid c5 _) (Ac (nv_b c6) (Ac (order_sorter_first_3_valid c8 _) (Ac (nv_b c9) An))))))⟩
theorem order_Sort_2_l9_ok {a0 : List T_api_Op} : ∀ {N : Nat}  {z : (Int × Nat × List (Int × Bool × Nat) × List T_api_Op) ⊕ (Int × List (Int × Bool × Nat) × Nat × List (Int × Bool × Nat) × List T_api_Op × List T_api_Op)}, order_Sort_2_l9 a0 N  = some z → LoopP order_Sort_2_f9 (order_Sort_2_l9_h a0 ) (order_Sort_2_l9_e z) (order_Sort_2_l9_s a0 z) := by
  intro N
  induction N with
  | zero => intro  z h; simp [order_Sort_2_l9] at h
  | succ N ih =>
    intro  z h
    change order_Sort_2_l9_f a0 N (order_Sort_2_l9 a0 N)  = some z at h
    unfold order_Sort_2_l9_f at h
    obtain ⟨r1, c2, h⟩ := bind_some h
    rcases cond_some h with ⟨c3, h⟩ | ⟨c3, h⟩
    · obtain ⟨r4, c5, h⟩ := bind_some h
      exact Step.next (order_Sort_2_l9_p0 c2 c3 c5) (order_Sort_2_l9_s1_ok h)
    · obtain ⟨r4, c5, h⟩ := bind_some h
      rcases cond_some h with ⟨c6, h⟩ | ⟨c6, h⟩
      · obtain ⟨e7, c8, h⟩ := bind_some h
        obtain ⟨c9, h⟩ := chk_some h
        obtain ⟨m10, c11, h⟩ := bind_some h
        have q := order_Sort_2_l9_s2_ok h
        simp only [order_Sort_2_l9_s2_h, List.length_set, List.length_replicate] at q
        exact Step.next (order_Sort_2_l9_p1 c2 c3 c5 c6 c8 c9 c11) q
      · obtain ⟨r7, c8, h⟩ := bind_some h
        rcases cond_some h with ⟨c9, h⟩ | ⟨c9, h⟩
        · obtain ⟨r10, c11, h⟩ := bind_some h
          exact Step.next (order_Sort_2_l9_p2 c2 c3 c5 c6 c8 c9 c11) (order_Sort_2_l9_s1_ok h)
        · obtain rfl := Option.some.inj h
          exact Step.exit (order_Sort_2_l9_p3 c2 c3 c5 c6 c8 c9)
def order_Sort_2 (N : Nat) (a0 : List T_api_Op) : Option (List T_api_Op) :=
  cond (!decide (0 = ((a0.length : Nat) : Int))) (
    some []) (
    (slices_Clone_Op_2).bind fun r2 =>
    (order_Sort_2_l5 a0 N).bind fun z4 =>
    (order_Sort_2_l9 a0 N).bind fun z6 => match z6 with
    | .inl z7 =>
      some []
    | .inr z7 =>
      some z7.2.2.2.2.2)
theorem order_Sort_2_p0 {a0 : List T_api_Op} (c1 : (!decide (0 = ((a0.length : Nat) : Int))) = true) (l : Nat) : Vd Try.prog l (.fn (.func 12) [] []) [.es 0, v0 a0] [] (v0 []) [] :=
  Try_vf12 (hn := order_Sort_2_hn) (lvl := 0) (O := { nv := [(1003, vi ((a0.length : Nat) : Int)), (1004, vb true)] }) (ps := [vi (((a0).map T_api_Op.enc).length : Nat) = vi ((a0.length : Nat) : Int), EB (!decide (0 = ((a0.length : Nat) : Int))) true]) (by kernel_rfl) (Ac (nv_len _ _) (Ac (nv_b c1) An)) l
theorem order_Sort_2_p1 {N : Nat} {a0 : List T_api_Op} {r2 : Unit} {z4 : Unit} {z7 : Int × Nat × List (Int × Bool × Nat) × List T_api_Op} (c1 : (!decide (0 = ((a0.length : Nat) : Int))) = false) (c3 : slices_Clone_Op_2 = some r2) (c5 : order_Sort_2_l5 a0 N = some z4) (c8 : order_Sort_2_l9 a0 N = some (.inl z7)) (l : Nat) : Vd Try.prog l (.fn (.func 12) [] []) [.es 0, v0 a0] [] (v0 []) [] :=
  Try_vf12 (hn := order_Sort_2_hn) (lvl := 0) (O := { an := [(3001, .call (.ret (.v 100050 0)) [(100050, w0 [])])], nv := [(1003, vi ((a0.length : Nat) : Int)), (1004, vb false)], lo := [(5, .exit 0, S5 0 90 [] [(5, .p 250 [] 0), (27, vi 0), (28, vi 0), (29, vb false)] [(220, m0 0 []), (230, m0 0 []), (250, .cell false (.ag [.v 100050 0, v0 a0, .m 220, .m 230, .nils])), (100050, w0 [])]), (9, .exit 2, S5 0 90 [] [(5, .p 250 [] 0), (7, vi z7.1), (82, vb true)] [(220, m0 0 []), (230, m0 z7.2.1 z7.2.2.1), (250, .cell false (.ag [.v 100050 z7.2.2.2.length, v0 a0, .m 220, .m 230, .nils])), (100050, w0 z7.2.2.2)])] }) (ps := [vi (((a0).map T_api_Op.enc).length : Nat) = vi ((a0.length : Nat) : Int), EB (!decide (0 = ((a0.length : Nat) : Int))) false, Vd Try.prog 0 (.fn (.func 19) [] []) [.es 0] [] (.v 100050 0) [(100050, w0 [])], LoopP order_Sort_2_f5 (S5 0 90 [] [(5, .p 250 [] 0), (27, vi 0), (28, vi 0)] [(220, m0 0 []), (230, m0 0 []), (250, .cell false (.ag [.v 100050 0, v0 a0, .m 220, .m 230, .nils])), (100050, w0 [])]) (.exit 0) (S5 0 90 [] [(5, .p 250 [] 0), (27, vi 0), (28, vi 0), (29, vb false)] [(220, m0 0 []), (230, m0 0 []), (250, .cell false (.ag [.v 100050 0, v0 a0, .m 220, .m 230, .nils])), (100050, w0 [])]), LoopP order_Sort_2_f9 (S5 0 90 [] [(5, .p 250 [] 0), (27, vi 0), (28, vi 0), (29, vb false)] [(220, m0 0 []), (230, m0 0 []), (250, .cell false (.ag [.v 100050 0, v0 a0, .m 220, .m 230, .nils])), (100050, w0 [])]) (.exit 2) (S5 0 90 [] [(5, .p 250 [] 0), (7, vi z7.1), (82, vb true)] [(220, m0 0 []), (230, m0 z7.2.1 z7.2.2.1), (250, .cell false (.ag [.v 100050 z7.2.2.2.length, v0 a0, .m 220, .m 230, .nils])), (100050, w0 z7.2.2.2)])]) (by kernel_rfl) (Ac (nv_len _ _) (Ac (nv_b c1) (Ac (slices_Clone_Op_2_valid c3 _) (Ac (order_Sort_2_l5_ok c5) (Ac (order_Sort_2_l9_ok c8) An))))) l
theorem order_Sort_2_p2 {N : Nat} {a0 : List T_api_Op} {r2 : Unit} {z4 : Unit} {z7 : Int × List (Int × Bool × Nat) × Nat × List (Int × Bool × Nat) × List T_api_Op × List T_api_Op} (c1 : (!decide (0 = ((a0.length : Nat) : Int))) = false) (c3 : slices_Clone_Op_2 = some r2) (c5 : order_Sort_2_l5 a0 N = some z4) (c8 : order_Sort_2_l9 a0 N = some (.inr z7)) (l : Nat) : Vd Try.prog l (.fn (.func 12) [] []) [.es 0, v0 a0] [] (v0 z7.2.2.2.2.2) [] :=
  Try_vf12 (hn := order_Sort_2_hn) (lvl := 0) (O := { an := [(3001, .call (.ret (.v 100050 0)) [(100050, w0 [])])], nv := [(1003, vi ((a0.length : Nat) : Int)), (1004, vb false)], lo := [(5, .exit 0, S5 0 90 [] [(5, .p 250 [] 0), (27, vi 0), (28, vi 0), (29, vb false)] [(220, m0 0 []), (230, m0 0 []), (250, .cell false (.ag [.v 100050 0, v0 a0, .m 220, .m 230, .nils])), (100050, w0 [])]), (9, .exit 2, S5 0 90 [] [(5, .p 250 [] 0), (7, vi z7.1), (82, vb true)] [(220, m0 0 z7.2.1), (230, m0 z7.2.2.1 z7.2.2.2.1), (250, .cell false (.ag [.v 100050 z7.2.2.2.2.1.length, v0 a0, .m 220, .m 230, .v 100180 z7.2.2.2.2.2.length])), (100050, w0 z7.2.2.2.2.1), (100180, w0 z7.2.2.2.2.2)])] }) (ps := [vi (((a0).map T_api_Op.enc).length : Nat) = vi ((a0.length : Nat) : Int), EB (!decide (0 = ((a0.length : Nat) : Int))) false, Vd Try.prog 0 (.fn (.func 19) [] []) [.es 0] [] (.v 100050 0) [(100050, w0 [])], LoopP order_Sort_2_f5 (S5 0 90 [] [(5, .p 250 [] 0), (27, vi 0), (28, vi 0)] [(220, m0 0 []), (230, m0 0 []), (250, .cell false (.ag [.v 100050 0, v0 a0, .m 220, .m 230, .nils])), (100050, w0 [])]) (.exit 0) (S5 0 90 [] [(5, .p 250 [] 0), (27, vi 0), (28, vi 0), (29, vb false)] [(220, m0 0 []), (230, m0 0 []), (250, .cell false (.ag [.v 100050 0, v0 a0, .m 220, .m 230, .nils])), (100050, w0 [])]), LoopP order_Sort_2_f9 (S5 0 90 [] [(5, .p 250 [] 0), (27, vi 0), (28, vi 0), (29, vb false)] [(220, m0 0 []), (230, m0 0 []), (250, .cell false (.ag [.v 100050 0, v0 a0, .m 220, .m 230, .nils])), (100050, w0 [])]) (.exit 2) (S5 0 90 [] [(5, .p 250 [] 0), (7, vi z7.1), (82, vb true)] [(220, m0 0 z7.2.1), (230, m0 z7.2.2.1 z7.2.2.2.1), (250, .cell false (.ag [.v 100050 z7.2.2.2.2.1.length, v0 a0, .m 220, .m 230, .v 100180 z7.2.2.2.2.2.length])), (100050, w0 z7.2.2.2.2.1), (100180, w0 z7.2.2.2.2.2)]), (p0 z7.2.2.2.2.2).len = z7.2.2.2.2.2.length]) (by kernel_rfl) (Ac (nv_len _ _) (Ac (nv_b c1) (Ac (slices_Clone_Op_2_valid c3 _) (Ac (order_Sort_2_l5_ok c5) (Ac (order_Sort_2_l9_ok c8) (Ac (len_ok _ _ _) An)))))) l
theorem order_Sort_2_valid {N : Nat} {a0 : List T_api_Op} {z : List T_api_Op} (h : order_Sort_2 N a0 = some z) (l : Nat) : Vd Try.prog l (.fn (.func 12) [] []) [.es 0, v0 a0] [] (v0 z) [] := by
  unfold order_Sort_2 at h
  rcases cond_some h with ⟨c1, h⟩ | ⟨c1, h⟩
  · obtain rfl := Option.some.inj h
    exact order_Sort_2_p0 c1 l
  · obtain ⟨r2, c3, h⟩ := bind_some h
    obtain ⟨z4, c5, h⟩ := bind_some h
    obtain ⟨z6, c8, h⟩ := bind_some h
    rcases z6 with z7 | z7 <;> dsimp only at h
    · obtain rfl := Option.some.inj h
      exact order_Sort_2_p1 c1 c3 c5 c8 l
    · obtain rfl := Option.some.inj h
      exact order_Sort_2_p2 c1 c3 c5 c8 l
def slices_Clone_Op_3_hn : Hint where
  live := fun _ r => match r with
    | 0 => [0]
    | 1 => [0, 4]
    | 2 => [2]
    | 3 => [2]
    | _ => []
  esc := fun _ => true
  raw := fun k => false
  fresh := fun _ d => false
  vecs := fun _ d => Nat.beq d 5
def slices_Clone_Op_3  : Option (Unit) :=
  some ()
theorem slices_Clone_Op_3_p0  (l : Nat) : Vd Try.prog l (.fn (.func 19) [] []) [.es 1] [] (.nils) [] :=
  Try_vf19 (hn := slices_Clone_Op_3_hn) (lvl := 0) (O := {}) (ps := []) (by kernel_rfl) An l
theorem slices_Clone_Op_3_valid  {z : Unit} (h : slices_Clone_Op_3  = some z) (l : Nat) : Vd Try.prog l (.fn (.func 19) [] []) [.es 1] [] (.nils) [] := by
  unfold slices_Clone_Op_3 at h
  obtain rfl := Option.some.inj h
  exact slices_Clone_Op_3_p0  l
def order_sorter_first_7_hn : Hint where
  live := fun _ r => match r with
    | 0 => [0, 1]
    | 1 => [0, 1, 11, 12]
    | 2 => [0, 1, 11, 12, 13]
    | 3 => [0, 1, 6, 11, 12]
    | 4 => [0, 1, 6, 11, 12, 25]
    | 5 => [4, 5]
    | 6 => [0, 1, 11, 12]
    | 7 => [4, 5]
    | _ => []
  esc := fun _ => false
  raw := fun k => false
  fresh := fun _ d => false
  vecs := fun _ d => false
noncomputable def order_sorter_first_7_f2 := codeO Try.prog order_sorter_first_7_hn (Valid Try.prog) 20 Try_c20_2
def order_sorter_first_7_l2_e (_ : Unit) : Ex := .exit 0
def order_sorter_first_7_l2_s (a0 : Nat) (a1 : List (Int × Bool × Nat)) (a2 : Nat) (a3 : List (Int × Bool × Nat)) (a4 : List T_api_Op) (z : Unit) : St := S5 1 28 [220, 230, 250] [(0, .p 250 [] 0), (1, .fn (.func 21) [.p 250 [] 0] []), (11, vi 0), (12, vi 0), (13, vb false)] [(220, m0 a0 a1), (230, m0 a2 a3), (250, .cell false (.ag [.nils, v0 a4, .m 220, .m 230, .nils]))]
def order_sorter_first_7_l2_h (a0 : Nat) (a1 : List (Int × Bool × Nat)) (a2 : Nat) (a3 : List (Int × Bool × Nat)) (a4 : List T_api_Op)  : St := S5 1 28 [220, 230, 250] [(0, .p 250 [] 0), (1, .fn (.func 21) [.p 250 [] 0] []), (11, vi 0), (12, vi 0)] [(220, m0 a0 a1), (230, m0 a2 a3), (250, .cell false (.ag [.nils, v0 a4, .m 220, .m 230, .nils]))]
def order_sorter_first_7_l2_f (a0 : Nat) (a1 : List (Int × Bool × Nat)) (a2 : Nat) (a3 : List (Int × Bool × Nat)) (a4 : List T_api_Op) (N : Nat) (ih : Option (Unit))  : Option (Unit) :=
    some ()
def order_sorter_first_7_l2 (a0 : Nat) (a1 : List (Int × Bool × Nat)) (a2 : Nat) (a3 : List (Int × Bool × Nat)) (a4 : List T_api_Op) : Nat → Option (Unit)
  | 0 => none
  | N + 1 => order_sorter_first_7_l2_f a0 a1 a2 a3 a4 N (order_sorter_first_7_l2 a0 a1 a2 a3 a4 N)
theorem order_sorter_first_7_l2_p0 {a0 : Nat} {a1 : List (Int × Bool × Nat)} {a2 : Nat} {a3 : List (Int × Bool × Nat)} {a4 : List T_api_Op} : Step order_sorter_first_7_f2 (order_sorter_first_7_l2_h a0 a1 a2 a3 a4 ) (.exit 0) (S5 1 28 [220, 230, 250] [(0, .p 250 [] 0), (1, .fn (.func 21) [.p 250 [] 0] []), (11, vi 0), (12, vi 0), (13, vb false)] [(220, m0 a0 a1), (230, m0 a2 a3), (250, .cell false (.ag [.nils, v0 a4, .m 220, .m 230, .nils]))]) :=
  ⟨{}, [], by kernel_rfl, An⟩
theorem order_sorter_first_7_l2_ok {a0 : Nat} {a1 : List (Int × Bool × Nat)} {a2 : Nat} {a3 : List (Int × Bool × Nat)} {a4 : List T_api_Op} : ∀ {N : Nat}  {z : Unit}, order_sorter_first_7_l2 a0 a1 a2 a3 a4 N  = some z → LoopP order_sorter_first_7_f2 (order_sorter_first_7_l2_h a0 a1 a2 a3 a4 ) (order_sorter_first_7_l2_e z) (order_sorter_first_7_l2_s a0 a1 a2 a3 a4 z) := by
  intro N
  induction N with
  | zero => intro  z h; simp [order_sorter_first_7_l2] at h
  | succ N ih =>
    intro  z h
    change order_sorter_first_7_l2_f a0 a1 a2 a3 a4 N (order_sorter_first_7_l2 a0 a1 a2 a3 a4 N)  = some z at h
    unfold order_sorter_first_7_l2_f at h
    obtain rfl := Option.some.inj h
    exact Step.exit (order_sorter_first_7_l2_p0)
def order_sorter_first_7 (N : Nat) (a0 : Nat) (a1 : List (Int × Bool × Nat)) (a2 : Nat) (a3 : List (Int × Bool × Nat)) (a4 : List T_api_Op) : Option (Unit) :=
  (order_sorter_first_7_l2 a0 a1 a2 a3 a4 N).bind fun z1 =>
  some ()
theorem order_sorter_first_7_p0 {N : Nat} {a0 : Nat} {a1 : List (Int × Bool × Nat)} {a2 : Nat} {a3 : List (Int × Bool × Nat)} {a4 : List T_api_Op} {z1 : Unit} (c2 : order_sorter_first_7_l2 a0 a1 a2 a3 a4 N = some z1) (l : Nat) : Vd Try.prog l (.fn (.func 20) [] []) [.p 250 [] 0, .fn (.func 21) [.p 250 [] 0] []] [(220, m0 a0 a1), (230, m0 a2 a3), (250, .cell false (.ag [.nils, v0 a4, .m 220, .m 230, .nils]))] (.tup [vi 0, vb false]) [(220, m0 a0 a1), (230, m0 a2 a3), (250, .cell false (.ag [.nils, v0 a4, .m 220, .m 230, .nils]))] :=
  Try_vf20 (hn := order_sorter_first_7_hn) (lvl := 0) (O := { lo := [(2, .exit 0, S5 1 28 [220, 230, 250] [(0, .p 250 [] 0), (1, .fn (.func 21) [.p 250 [] 0] []), (11, vi 0), (12, vi 0), (13, vb false)] [(220, m0 a0 a1), (230, m0 a2 a3), (250, .cell false (.ag [.nils, v0 a4, .m 220, .m 230, .nils]))])] }) (ps := [LoopP order_sorter_first_7_f2 (S5 1 28 [220, 230, 250] [(0, .p 250 [] 0), (1, .fn (.func 21) [.p 250 [] 0] []), (11, vi 0), (12, vi 0)] [(220, m0 a0 a1), (230, m0 a2 a3), (250, .cell false (.ag [.nils, v0 a4, .m 220, .m 230, .nils]))]) (.exit 0) (S5 1 28 [220, 230, 250] [(0, .p 250 [] 0), (1, .fn (.func 21) [.p 250 [] 0] []), (11, vi 0), (12, vi 0), (13, vb false)] [(220, m0 a0 a1), (230, m0 a2 a3), (250, .cell false (.ag [.nils, v0 a4, .m 220, .m 230, .nils]))])]) (by kernel_rfl) (Ac (order_sorter_first_7_l2_ok c2) An) l
theorem order_sorter_first_7_valid {N : Nat} {a0 : Nat} {a1 : List (Int × Bool × Nat)} {a2 : Nat} {a3 : List (Int × Bool × Nat)} {a4 : List T_api_Op} {z : Unit} (h : order_sorter_first_7 N a0 a1 a2 a3 a4 = some z) (l : Nat) : Vd Try.prog l (.fn (.func 20) [] []) [.p 250 [] 0, .fn (.func 21) [.p 250 [] 0] []] [(220, m0 a0 a1), (230, m0 a2 a3), (250, .cell false (.ag [.nils, v0 a4, .m 220, .m 230, .nils]))] (.tup [vi 0, vb false]) [(220, m0 a0 a1), (230, m0 a2 a3), (250, .cell false (.ag [.nils, v0 a4, .m 220, .m 230, .nils]))] := by
  unfold order_sorter_first_7 at h
  obtain ⟨z1, c2, h⟩ := bind_some h
  obtain rfl := Option.some.inj h
  exact order_sorter_first_7_p0 c2 l
def order_sorter_first_8_hn : Hint where
  live := fun _ r => match r with
    | 0 => [0, 1]
    | 1 => [0, 1, 11, 12]
    | 2 => [0, 1, 11, 12, 13]
    | 3 => [0, 1, 6, 11, 12]
    | 4 => [0, 1, 6, 11, 12, 25]
    | 5 => [4, 5]
    | 6 => [0, 1, 11, 12]
    | 7 => [4, 5]
    | _ => []
  esc := fun _ => false
  raw := fun k => false
  fresh := fun _ d => false
  vecs := fun _ d => false
noncomputable def order_sorter_first_8_f2 := codeO Try.prog order_sorter_first_8_hn (Valid Try.prog) 20 Try_c20_2
def order_sorter_first_8_l2_e (_ : Unit) : Ex := .exit 0
def order_sorter_first_8_l2_s (a0 : Nat) (a1 : List (Int × Bool × Nat)) (a2 : Nat) (a3 : List (Int × Bool × Nat)) (a4 : List T_api_Op) (z : Unit) : St := S5 1 28 [220, 230, 250] [(0, .p 250 [] 0), (1, .fn (.func 23) [.p 250 [] 0] []), (11, vi 0), (12, vi 0), (13, vb false)] [(220, m0 a0 a1), (230, m0 a2 a3), (250, .cell false (.ag [.nils, v0 a4, .m 220, .m 230, .nils]))]
def order_sorter_first_8_l2_h (a0 : Nat) (a1 : List (Int × Bool × Nat)) (a2 : Nat) (a3 : List (Int × Bool × Nat)) (a4 : List T_api_Op)  : St := S5 1 28 [220, 230, 250] [(0, .p 250 [] 0), (1, .fn (.func 23) [.p 250 [] 0] []), (11, vi 0), (12, vi 0)] [(220, m0 a0 a1), (230, m0 a2 a3), (250, .cell false (.ag [.nils, v0 a4, .m 220, .m 230, .nils]))]
def order_sorter_first_8_l2_f (a0 : Nat) (a1 : List (Int × Bool × Nat)) (a2 : Nat) (a3 : List (Int × Bool × Nat)) (a4 : List T_api_Op) (N : Nat) (ih : Option (Unit))  : Option (Unit) :=
    some ()
def order_sorter_first_8_l2 (a0 : Nat) (a1 : List (Int × Bool × Nat)) (a2 : Nat) (a3 : List (Int × Bool × Nat)) (a4 : List T_api_Op) : Nat → Option (Unit)
  | 0 => none
  | N + 1 => order_sorter_first_8_l2_f a0 a1 a2 a3 a4 N (order_sorter_first_8_l2 a0 a1 a2 a3 a4 N)
theorem order_sorter_first_8_l2_p0 {a0 : Nat} {a1 : List (Int × Bool × Nat)} {a2 : Nat} {a3 : List (Int × Bool × Nat)} {a4 : List T_api_Op} : Step order_sorter_first_8_f2 (order_sorter_first_8_l2_h a0 a1 a2 a3 a4 ) (.exit 0) (S5 1 28 [220, 230, 250] [(0, .p 250 [] 0), (1, .fn (.func 23) [.p 250 [] 0] []), (11, vi 0), (12, vi 0), (13, vb false)] [(220, m0 a0 a1), (230, m0 a2 a3), (250, .cell false (.ag [.nils, v0 a4, .m 220, .m 230, .nils]))]) :=
  ⟨{}, [], by kernel_rfl, An⟩
theorem order_sorter_first_8_l2_ok {a0 : Nat} {a1 : List (Int × Bool × Nat)} {a2 : Nat} {a3 : List (Int × Bool × Nat)} {a4 : List T_api_Op} : ∀ {N : Nat}  {z : Unit}, order_sorter_first_8_l2 a0 a1 a2 a3 a4 N  = some z → LoopP order_sorter_first_8_f2 (order_sorter_first_8_l2_h a0 a1 a2 a3 a4 ) (order_sorter_first_8_l2_e z) (order_sorter_first_8_l2_s a0 a1 a2 a3 a4 z) := by
  intro N
  induction N with
  | zero => intro  z h; simp [order_sorter_first_8_l2] at h
  | succ N ih =>
    intro  z h
    change order_sorter_first_8_l2_f a0 a1 a2 a3 a4 N (order_sorter_first_8_l2 a0 a1 a2 a3 a4 N)  = some z at h
    unfold order_sorter_first_8_l2_f at h
    obtain rfl := Option.some.inj h
    exact Step.exit (order_sorter_first_8_l2_p0)
def order_sorter_first_8 (N : Nat) (a0 : Nat) (a1 : List (Int × Bool × Nat)) (a2 : Nat) (a3 : List (Int × Bool × Nat)) (a4 : List T_api_Op) : Option (Unit) :=
  (order_sorter_first_8_l2 a0 a1 a2 a3 a4 N).bind fun z1 =>
  some ()
theorem order_sorter_first_8_p0 {N : Nat} {a0 : Nat} {a1 : List (Int × Bool × Nat)} {a2 : Nat} {a3 : List (Int × Bool × Nat)} {a4 : List T_api_Op} {z1 : Unit} (c2 : order_sorter_first_8_l2 a0 a1 a2 a3 a4 N = some z1) (l : Nat) : Vd Try.prog l (.fn (.func 20) [] []) [.p 250 [] 0, .fn (.func 23) [.p 250 [] 0] []] [(220, m0 a0 a1), (230, m0 a2 a3), (250, .cell false (.ag [.nils, v0 a4, .m 220, .m 230, .nils]))] (.tup [vi 0, vb false]) [(220, m0 a0 a1), (230, m0 a2 a3), (250, .cell false (.ag [.nils, v0 a4, .m 220, .m 230, .nils]))] :=
  Try_vf20 (hn := order_sorter_first_8_hn) (lvl := 0) (O := { lo := [(2, .exit 0, S5 1 28 [220, 230, 250] [(0, .p 250 [] 0), (1, .fn (.func 23) [.p 250 [] 0] []), (11, vi 0), (12, vi 0), (13, vb false)] [(220, m0 a0 a1), (230, m0 a2 a3), (250, .cell false (.ag [.nils, v0 a4, .m 220, .m 230, .nils]))])] }) (ps := [LoopP order_sorter_first_8_f2 (S5 1 28 [220, 230, 250] [(0, .p 250 [] 0), (1, .fn (.func 23) [.p 250 [] 0] []), (11, vi 0), (12, vi 0)] [(220, m0 a0 a1), (230, m0 a2 a3), (250, .cell false (.ag [.nils, v0 a4, .m 220, .m 230, .nils]))]) (.exit 0) (S5 1 28 [220, 230, 250] [(0, .p 250 [] 0), (1, .fn (.func 23) [.p 250 [] 0] []), (11, vi 0), (12, vi 0), (13, vb false)] [(220, m0 a0 a1), (230, m0 a2 a3), (250, .cell false (.ag [.nils, v0 a4, .m 220, .m 230, .nils]))])]) (by kernel_rfl) (Ac (order_sorter_first_8_l2_ok c2) An) l
theorem order_sorter_first_8_valid {N : Nat} {a0 : Nat} {a1 : List (Int × Bool × Nat)} {a2 : Nat} {a3 : List (Int × Bool × Nat)} {a4 : List T_api_Op} {z : Unit} (h : order_sorter_first_8 N a0 a1 a2 a3 a4 = some z) (l : Nat) : Vd Try.prog l (.fn (.func 20) [] []) [.p 250 [] 0, .fn (.func 23) [.p 250 [] 0] []] [(220, m0 a0 a1), (230, m0 a2 a3), (250, .cell false (.ag [.nils, v0 a4, .m 220, .m 230, .nils]))] (.tup [vi 0, vb false]) [(220, m0 a0 a1), (230, m0 a2 a3), (250, .cell false (.ag [.nils, v0 a4, .m 220, .m 230, .nils]))] := by
  unfold order_sorter_first_8 at h
  obtain ⟨z1, c2, h⟩ := bind_some h
  obtain rfl := Option.some.inj h
  exact order_sorter_first_8_p0 c2 l
def order_sorter_first_9_hn : Hint where
  live := fun _ r => match r with
    | 0 => [0, 1]
    | 1 => [0, 1, 11, 12]
    | 2 => [0, 1, 11, 12, 13]
    | 3 => [0, 1, 6, 11, 12]
    | 4 => [0, 1, 6, 11, 12, 25]
    | 5 => [4, 5]
    | 6 => [0, 1, 11, 12]
    | 7 => [4, 5]
    | _ => []
  esc := fun _ => false
  raw := fun k => false
  fresh := fun _ d => false
  vecs := fun _ d => false
noncomputable def order_sorter_first_9_f2 := codeO Try.prog order_sorter_first_9_hn (Valid Try.prog) 20 Try_c20_2
def order_sorter_first_9_l2_e (_ : Unit) : Ex := .exit 0
def order_sorter_first_9_l2_s (a0 : Nat) (a1 : List (Int × Bool × Nat)) (a2 : Nat) (a3 : List (Int × Bool × Nat)) (a4 : List T_api_Op) (z : Unit) : St := S5 1 28 [220, 230, 250] [(0, .p 250 [] 0), (1, .fn (.func 24) [] []), (11, vi 0), (12, vi 0), (13, vb false)] [(220, m0 a0 a1), (230, m0 a2 a3), (250, .cell false (.ag [.nils, v0 a4, .m 220, .m 230, .nils]))]
def order_sorter_first_9_l2_h (a0 : Nat) (a1 : List (Int × Bool × Nat)) (a2 : Nat) (a3 : List (Int × Bool × Nat)) (a4 : List T_api_Op)  : St := S5 1 28 [220, 230, 250] [(0, .p 250 [] 0), (1, .fn (.func 24) [] []), (11, vi 0), (12, vi 0)] [(220, m0 a0 a1), (230, m0 a2 a3), (250, .cell false (.ag [.nils, v0 a4, .m 220, .m 230, .nils]))]
def order_sorter_first_9_l2_f (a0 : Nat) (a1 : List (Int × Bool × Nat)) (a2 : Nat) (a3 : List (Int × Bool × Nat)) (a4 : List T_api_Op) (N : Nat) (ih : Option (Unit))  : Option (Unit) :=
    some ()
def order_sorter_first_9_l2 (a0 : Nat) (a1 : List (Int × Bool × Nat)) (a2 : Nat) (a3 : List (Int × Bool × Nat)) (a4 : List T_api_Op) : Nat → Option (Unit)
  | 0 => none
  | N + 1 => order_sorter_first_9_l2_f a0 a1 a2 a3 a4 N (order_sorter_first_9_l2 a0 a1 a2 a3 a4 N)
theorem order_sorter_first_9_l2_p0 {a0 : Nat} {a1 : List (Int × Bool × Nat)} {a2 : Nat} {a3 : List (Int × Bool × Nat)} {a4 : List T_api_Op} : Step order_sorter_first_9_f2 (order_sorter_first_9_l2_h a0 a1 a2 a3 a4 ) (.exit 0) (S5 1 28 [220, 230, 250] [(0, .p 250 [] 0), (1, .fn (.func 24) [] []), (11, vi 0), (12, vi 0), (13, vb false)] [(220, m0 a0 a1), (230, m0 a2 a3), (250, .cell false (.ag [.nils, v0 a4, .m 220, .m 230, .nils]))]) :=
  ⟨{}, [], by kernel_rfl, An⟩
theorem order_sorter_first_9_l2_ok {a0 : Nat} {a1 : List (Int × Bool × Nat)} {a2 : Nat} {a3 : List (Int × Bool × Nat)} {a4 : List T_api_Op} : ∀ {N : Nat}  {z : Unit}, order_sorter_first_9_l2 a0 a1 a2 a3 a4 N  = some z → LoopP order_sorter_first_9_f2 (order_sorter_first_9_l2_h a0 a1 a2 a3 a4 ) (order_sorter_first_9_l2_e z) (order_sorter_first_9_l2_s a0 a1 a2 a3 a4 z) := by
  intro N
  induction N with
  | zero => intro  z h; simp [order_sorter_first_9_l2] at h
  | succ N ih =>
    intro  z h
    change order_sorter_first_9_l2_f a0 a1 a2 a3 a4 N (order_sorter_first_9_l2 a0 a1 a2 a3 a4 N)  = some z at h
    unfold order_sorter_first_9_l2_f at h
    obtain rfl := Option.some.inj h
    exact Step.exit (order_sorter_first_9_l2_p0)
def order_sorter_first_9 (N : Nat) (a0 : Nat) (a1 : List (Int × Bool × Nat)) (a2 : Nat) (a3 : List (Int × Bool × Nat)) (a4 : List T_api_Op) : Option (Unit) :=
  (order_sorter_first_9_l2 a0 a1 a2 a3 a4 N).bind fun z1 =>
  some ()
theorem order_sorter_first_9_p0 {N : Nat} {a0 : Nat} {a1 : List (Int × Bool × Nat)} {a2 : Nat} {a3 : List (Int × Bool × Nat)} {a4 : List T_api_Op} {z1 : Unit} (c2 : order_sorter_first_9_l2 a0 a1 a2 a3 a4 N = some z1) (l : Nat) : Vd Try.prog l (.fn (.func 20) [] []) [.p 250 [] 0, .fn (.func 24) [] []] [(220, m0 a0 a1), (230, m0 a2 a3), (250, .cell false (.ag [.nils, v0 a4, .m 220, .m 230, .nils]))] (.tup [vi 0, vb false]) [(220, m0 a0 a1), (230, m0 a2 a3), (250, .cell false (.ag [.nils, v0 a4, .m 220, .m 230, .nils]))] :=
  Try_vf20 (hn := order_sorter_first_9_hn) (lvl := 0) (O := { lo := [(2, .exit 0, S5 1 28 [220, 230, 250] [(0, .p 250 [] 0), (1, .fn (.func 24) [] []), (11, vi 0), (12, vi 0), (13, vb false)] [(220, m0 a0 a1), (230, m0 a2 a3), (250, .cell false (.ag [.nils, v0 a4, .m 220, .m 230, .nils]))])] }) (ps := [LoopP order_sorter_first_9_f2 (S5 1 28 [220, 230, 250] [(0, .p 250 [] 0), (1, .fn (.func 24) [] []), (11, vi 0), (12, vi 0)] [(220, m0 a0 a1), (230, m0 a2 a3), (250, .cell false (.ag [.nils, v0 a4, .m 220, .m 230, .nils]))]) (.exit 0) (S5 1 28 [220, 230, 250] [(0, .p 250 [] 0), (1, .fn (.func 24) [] []), (11, vi 0), (12, vi 0), (13, vb false)] [(220, m0 a0 a1), (230, m0 a2 a3), (250, .cell false (.ag [.nils, v0 a4, .m 220, .m 230, .nils]))])]) (by kernel_rfl) (Ac (order_sorter_first_9_l2_ok c2) An) l
theorem order_sorter_first_9_valid {N : Nat} {a0 : Nat} {a1 : List (Int × Bool × Nat)} {a2 : Nat} {a3 : List (Int × Bool × Nat)} {a4 : List T_api_Op} {z : Unit} (h : order_sorter_first_9 N a0 a1 a2 a3 a4 = some z) (l : Nat) : Vd Try.prog l (.fn (.func 20) [] []) [.p 250 [] 0, .fn (.func 24) [] []] [(220, m0 a0 a1), (230, m0 a2 a3), (250, .cell false (.ag [.nils, v0 a4, .m 220, .m 230, .nils]))] (.tup [vi 0, vb false]) [(220, m0 a0 a1), (230, m0 a2 a3), (250, .cell false (.ag [.nils, v0 a4, .m 220, .m 230, .nils]))] := by
  unfold order_sorter_first_9 at h
  obtain ⟨z1, c2, h⟩ := bind_some h
  obtain rfl := Option.some.inj h
  exact order_sorter_first_9_p0 c2 l
def order_Sort_3_hn : Hint where
  live := fun _ r => match r with
    | 0 => [0, 1]
    | 1 => [0, 1, 18]
    | 2 => [4]
    | 3 => [0, 5]
    | 4 => [5, 27, 28]
    | 5 => [5, 27, 28, 29]
    | 6 => [5, 6, 27, 28]
    | 7 => [5, 27, 28]
    | 8 => [5, 27, 28]
    | 9 => [5, 7, 8]
    | 10 => [5, 7, 44]
    | 11 => [5]
    | 12 => [5, 7, 8]
    | 13 => [5, 7, 55]
    | 14 => [5]
    | 15 => [5, 7, 8]
    | 16 => [5, 7, 82]
    | 17 => [5]
    | 18 => [4]
    | _ => []
  esc := fun _ => false
  raw := fun k => false
  fresh := fun _ d => Nat.beq d 20
  vecs := fun _ d => false
noncomputable def order_Sort_3_f5 := codeO Try.prog order_Sort_3_hn (Valid Try.prog) 12 Try_c12_5
def order_Sort_3_l5_e (_ : Unit) : Ex := .exit 0
def order_Sort_3_l5_s (a0 : List T_api_Op) (z : Unit) : St := S5 0 90 [] [(5, .p 250 [] 0), (27, vi 0), (28, vi 0), (29, vb false)] [(220, m0 0 []), (230, m0 0 []), (250, .cell false (.ag [.nils, v0 a0, .m 220, .m 230, .nils]))]
def order_Sort_3_l5_h (a0 : List T_api_Op)  : St := S5 0 90 [] [(5, .p 250 [] 0), (27, vi 0), (28, vi 0)] [(220, m0 0 []), (230, m0 0 []), (250, .cell false (.ag [.nils, v0 a0, .m 220, .m 230, .nils]))]
def order_Sort_3_l5_f (a0 : List T_api_Op) (N : Nat) (ih : Option (Unit))  : Option (Unit) :=
    some ()
def order_Sort_3_l5 (a0 : List T_api_Op) : Nat → Option (Unit)
  | 0 => none
  | N + 1 => order_Sort_3_l5_f a0 N (order_Sort_3_l5 a0 N)
theorem order_Sort_3_l5_p0 {a0 : List T_api_Op} : Step order_Sort_3_f5 (order_Sort_3_l5_h a0 ) (.exit 0) (S5 0 90 [] [(5, .p 250 [] 0), (27, vi 0), (28, vi 0), (29, vb false)] [(220, m0 0 []), (230, m0 0 []), (250, .cell false (.ag [.nils, v0 a0, .m 220, .m 230, .nils]))]) :=
  ⟨{}, [], by kernel_rfl, An⟩
theorem order_Sort_3_l5_ok {a0 : List T_api_Op} : ∀ {N : Nat}  {z : Unit}, order_Sort_3_l5 a0 N  = some z → LoopP order_Sort_3_f5 (order_Sort_3_l5_h a0 ) (order_Sort_3_l5_e z) (order_Sort_3_l5_s a0 z) := by
  intro N
  induction N with
  | zero => intro  z h; simp [order_Sort_3_l5] at h
  | succ N ih =>
    intro  z h
    change order_Sort_3_l5_f a0 N (order_Sort_3_l5 a0 N)  = some z at h
    unfold order_Sort_3_l5_f at h
    obtain rfl := Option.some.inj h
    exact Step.exit (order_Sort_3_l5_p0)
noncomputable def order_Sort_3_f9 := codeO Try.prog order_Sort_3_hn (Valid Try.prog) 12 Try_c12_9
def order_Sort_3_l9_e (_ : Unit) : Ex := .exit 2
def order_Sort_3_l9_s (a0 : List T_api_Op) (z : Unit) : St := S5 0 90 [] [(5, .p 250 [] 0), (7, vi 0), (82, vb true)] [(220, m0 0 []), (230, m0 0 []), (250, .cell false (.ag [.nils, v0 a0, .m 220, .m 230, .nils]))]
def order_Sort_3_l9_h (a0 : List T_api_Op)  : St := S5 0 90 [] [(5, .p 250 [] 0), (27, vi 0), (28, vi 0), (29, vb false)] [(220, m0 0 []), (230, m0 0 []), (250, .cell false (.ag [.nils, v0 a0, .m 220, .m 230, .nils]))]
def order_Sort_3_l9_f (a0 : List T_api_Op) (N : Nat) (ih : Option (Unit))  : Option (Unit) :=
    (order_sorter_first_7 N 0 [] 0 [] a0).bind fun r1 =>
    (order_sorter_first_8 N 0 [] 0 [] a0).bind fun r3 =>
    (order_sorter_first_9 N 0 [] 0 [] a0).bind fun r5 =>
    some ()
def order_Sort_3_l9 (a0 : List T_api_Op) : Nat → Option (Unit)
  | 0 => none
  | N + 1 => order_Sort_3_l9_f a0 N (order_Sort_3_l9 a0 N)
theorem order_Sort_3_l9_p0 {N : Nat} {a0 : List T_api_Op} {r1 : Unit} {r3 : Unit} {r5 : Unit} (c2 : order_sorter_first_7 N 0 [] 0 [] a0 = some r1) (c4 : order_sorter_first_8 N 0 [] 0 [] a0 = some r3) (c6 : order_sorter_first_9 N 0 [] 0 [] a0 = some r5) : Step order_Sort_3_f9 (order_Sort_3_l9_h a0 ) (.exit 2) (S5 0 90 [] [(5, .p 250 [] 0), (7, vi 0), (82, vb true)] [(220, m0 0 []), (230, m0 0 []), (250, .cell false (.ag [.nils, v0 a0, .m 220, .m 230, .nils]))]) :=
  ⟨{ an := [(9003, .call (.ret (.tup [vi 0, vb false])) [(220, m0 0 []), (230, m0 0 []), (250, .cell false (.ag [.nils, v0 a0, .m 220, .m 230, .nils]))]), (12003, .call (.ret (.tup [vi 0, vb false])) [(220, m0 0 []), (230, m0 0 []), (250, .cell false (.ag [.nils, v0 a0, .m 220, .m 230, .nils]))]), (15001, .call (.ret (.tup [vi 0, vb false])) [(220, m0 0 []), (230, m0 0 []), (250, .cell false (.ag [.nils, v0 a0, .m 220, .m 230, .nils]))])] }, [Vd Try.prog 0 (.fn (.func 20) [] []) [.p 250 [] 0, .fn (.func 21) [.p 250 [] 0] []] [(220, m0 0 []), (230, m0 0 []), (250, .cell false (.ag [.nils, v0 a0, .m 220, .m 230, .nils]))] (.tup [vi 0, vb false]) [(220, m0 0 []), (230, m0 0 []), (250, .cell false (.ag [.nils, v0 a0, .m 220, .m 230, .nils]))], Vd Try.prog 0 (.fn (.func 20) [] []) [.p 250 [] 0, .fn (.func 23) [.p 250 [] 0] []] [(220, m0 0 []), (230, m0 0 []), (250, .cell false (.ag [.nils, v0 a0, .m 220, .m 230, .nils]))] (.tup [vi 0, vb false]) [(220, m0 0 []), (230, m0 0 []), (250, .cell false (.ag [.nils, v0 a0, .m 220, .m 230, .nils]))], Vd Try.prog 0 (.fn (.func 20) [] []) [.p 250 [] 0, .fn (.func 24) [] []] [(220, m0 0 []), (230, m0 0 []), (250, .cell false (.ag [.nils, v0 a0, .m 220, .m 230, .nils]))] (.tup [vi 0, vb false]) [(220, m0 0 []), (230, m0 0 []), (250, .cell false (.ag [.nils, v0 a0, .m 220, .m 230, .nils]))]], by kernel_rfl, (Ac (order_sorter_first_7_valid c2 _) (Ac (order_sorter_first_8_valid c4 _) (Ac (order_sorter_first_9_valid c6 _) An)))⟩
theorem order_Sort_3_l9_ok {a0 : List T_api_Op} : ∀ {N : Nat}  {z : Unit}, order_Sort_3_l9 a0 N  = some z → LoopP order_Sort_3_f9 (order_Sort_3_l9_h a0 ) (order_Sort_3_l9_e z) (order_Sort_3_l9_s a0 z) := by
  intro N
  induction N with
  | zero => intro  z h; simp [order_Sort_3_l9] at h
  | succ N ih =>
    intro  z h
    change order_Sort_3_l9_f a0 N (order_Sort_3_l9 a0 N)  = some z at h
    unfold order_Sort_3_l9_f at h
    obtain ⟨r1, c2, h⟩ := bind_some h
    obtain ⟨r3, c4, h⟩ := bind_some h
    obtain ⟨r5, c6, h⟩ := bind_some h
    obtain rfl := Option.some.inj h
    exact Step.exit (order_Sort_3_l9_p0 c2 c4 c6)
def order_Sort_3 (N : Nat) (a0 : List T_api_Op) : Option (Unit) :=
  cond (!decide (0 = ((a0.length : Nat) : Int))) (
    some ()) (
    (slices_Clone_Op_3).bind fun r2 =>
    (order_Sort_3_l5 a0 N).bind fun z4 =>
    (order_Sort_3_l9 a0 N).bind fun z6 =>
    some ())
theorem order_Sort_3_p0 {a0 : List T_api_Op} (c1 : (!decide (0 = ((a0.length : Nat) : Int))) = true) (l : Nat) : Vd Try.prog l (.fn (.func 12) [] []) [.es 1, v0 a0] [] (v0 []) [] :=
  Try_vf12 (hn := order_Sort_3_hn) (lvl := 0) (O := { nv := [(1003, vi ((a0.length : Nat) : Int)), (1004, vb true)] }) (ps := [vi (((a0).map T_api_Op.enc).length : Nat) = vi ((a0.length : Nat) : Int), EB (!decide (0 = ((a0.length : Nat) : Int))) true]) (by kernel_rfl) (Ac (nv_len _ _) (Ac (nv_b c1) An)) l
theorem order_Sort_3_p1 {N : Nat} {a0 : List T_api_Op} {r2 : Unit} {z4 : Unit} {z6 : Unit} (c1 : (!decide (0 = ((a0.length : Nat) : Int))) = false) (c3 : slices_Clone_Op_3 = some r2) (c5 : order_Sort_3_l5 a0 N = some z4) (c7 : order_Sort_3_l9 a0 N = some z6) (l : Nat) : Vd Try.prog l (.fn (.func 12) [] []) [.es 1, v0 a0] [] (v0 []) [] :=
  Try_vf12 (hn := order_Sort_3_hn) (lvl := 0) (O := { an := [(3001, .call (.ret (.nils)) [])], nv := [(1003, vi ((a0.length : Nat) : Int)), (1004, vb false)], lo := [(5, .exit 0, S5 0 90 [] [(5, .p 250 [] 0), (27, vi 0), (28, vi 0), (29, vb false)] [(220, m0 0 []), (230, m0 0 []), (250, .cell false (.ag [.nils, v0 a0, .m 220, .m 230, .nils]))]), (9, .exit 2, S5 0 90 [] [(5, .p 250 [] 0), (7, vi 0), (82, vb true)] [(220, m0 0 []), (230, m0 0 []), (250, .cell false (.ag [.nils, v0 a0, .m 220, .m 230, .nils]))])] }) (ps := [vi (((a0).map T_api_Op.enc).length : Nat) = vi ((a0.length : Nat) : Int), EB (!decide (0 = ((a0.length : Nat) : Int))) false, Vd Try.prog 0 (.fn (.func 19) [] []) [.es 1] [] (.nils) [], LoopP order_Sort_3_f5 (S5 0 90 [] [(5, .p 250 [] 0), (27, vi 0), (28, vi 0)] [(220, m0 0 []), (230, m0 0 []), (250, .cell false (.ag [.nils, v0 a0, .m 220, .m 230, .nils]))]) (.exit 0) (S5 0 90 [] [(5, .p 250 [] 0), (27, vi 0), (28, vi 0), (29, vb false)] [(220, m0 0 []), (230, m0 0 []), (250, .cell false (.ag [.nils, v0 a0, .m 220, .m 230, .nils]))]), LoopP order_Sort_3_f9 (S5 0 90 [] [(5, .p 250 [] 0), (27, vi 0), (28, vi 0), (29, vb false)] [(220, m0 0 []), (230, m0 0 []), (250, .cell false (.ag [.nils, v0 a0, .m 220, .m 230, .nils]))]) (.exit 2) (S5 0 90 [] [(5, .p 250 [] 0), (7, vi 0), (82, vb true)] [(220, m0 0 []), (230, m0 0 []), (250, .cell false (.ag [.nils, v0 a0, .m 220, .m 230, .nils]))])]) (by kernel_rfl) (Ac (nv_len _ _) (Ac (nv_b c1) (Ac (slices_Clone_Op_3_valid c3 _) (Ac (order_Sort_3_l5_ok c5) (Ac (order_Sort_3_l9_ok c7) An))))) l
theorem order_Sort_3_valid {N : Nat} {a0 : List T_api_Op} {z : Unit} (h : order_Sort_3 N a0 = some z) (l : Nat) : Vd Try.prog l (.fn (.func 12) [] []) [.es 1, v0 a0] [] (v0 []) [] := by
  unfold order_Sort_3 at h
  rcases cond_some h with ⟨c1, h⟩ | ⟨c1, h⟩
  · obtain rfl := Option.some.inj h
    exact order_Sort_3_p0 c1 l
  · obtain ⟨r2, c3, h⟩ := bind_some h
    obtain ⟨z4, c5, h⟩ := bind_some h
    obtain ⟨z6, c7, h⟩ := bind_some h
    obtain rfl := Option.some.inj h
    exact order_Sort_3_p1 c1 c3 c5 c7 l
def order_SortW (N : Nat) (a0 : List T_api_Op) (a1 : List T_api_Op) : Option (List T_api_Op) :=
  cond a0.isEmpty (
    (order_Sort_2 N a1).bind fun z0 => (order_Sort_3 N a1).bind fun z1 => chk (z0 = []) (some z0)) (
    order_Sort N a0 a1)
theorem order_SortW_valid {N : Nat} {a0 : List T_api_Op} {a1 : List T_api_Op} {z : List T_api_Op} (h : order_SortW N a0 a1 = some z) (l : Nat) : Vd Try.prog l (.fn (.func 12) [] []) [v0 a0, v0 a1] [] (v0 z) [] := by
  unfold order_SortW at h
  rcases cond_some h with ⟨e, h2⟩ | ⟨_, h2⟩ <;> clear h
  · have e := List.isEmpty_iff.1 e
    subst e
    obtain ⟨z0, c0, h2⟩ := bind_some h2
    obtain ⟨z1, c1, h2⟩ := bind_some h2
    obtain ⟨hE, h2⟩ := chk_some h2
    obtain rfl := Option.some.inj h2
    refine Valid.maybe (.inr ⟨_, rfl⟩) [] [v0 a1] ?_ ?_
    · exact order_Sort_2_valid c0 l
    · first | exact order_Sort_3_valid c1 l | (rw [hE]; exact order_Sort_3_valid c1 l)
  · exact order_Sort_valid h2 l
noncomputable def Try_b14 : Code := Try.f14.body.getD .skip
theorem Try_hb14 : Try.f14.body = some Try_b14 := by kernel_rfl
theorem Try_hf14 : Try.prog.funcs[14]? = some Try.f14 := by kernel_rfl
theorem Try_vf14 {hn : Hint} {lvl : Nat} {first cap args : List AV} {h h' : Ob} {O : Orc} {r : AV} {ps : List Prop} (hs : funO Try.prog hn (Valid Try.prog) 14 Try.f14 lvl (first ++ args ++ cap) h O = some ((.ret r, h'), ps)) (hp : All ps) (l : Nat) : Vd Try.prog l (.fn (.func 14) first cap) args h r h' :=
  valid_fun (draw_ok Try_draw) range_ok Try_hf14 Try_hb14 (by kernel_rfl) hs hp l
noncomputable def Try_b27 : Code := Try.f27.body.getD .skip
theorem Try_hb27 : Try.f27.body = some Try_b27 := by kernel_rfl
theorem Try_hf27 : Try.prog.funcs[27]? = some Try.f27 := by kernel_rfl
theorem Try_vf27 {hn : Hint} {lvl : Nat} {first cap args : List AV} {h h' : Ob} {O : Orc} {r : AV} {ps : List Prop} (hs : funO Try.prog hn (Valid Try.prog) 27 Try.f27 lvl (first ++ args ++ cap) h O = some ((.ret r, h'), ps)) (hp : All ps) (l : Nat) : Vd Try.prog l (.fn (.func 27) first cap) args h r h' :=
  valid_fun (draw_ok Try_draw) range_ok Try_hf27 Try_hb27 (by kernel_rfl) hs hp l
def slices_Chunk_Op_hn : Hint where
  live := fun _ r => match r with
    | 0 => [2, 3]
    | 1 => [2, 3, 6]
    | 2 => [2, 3]
    | 3 => [4]
    | _ => []
  esc := fun _ => true
  raw := fun k => false
  fresh := fun _ d => false
  vecs := fun _ d => false
def slices_Chunk_Op (a0 : List T_api_Op) (a1 : Int) : Option (Unit) :=
  cond (decide (a1 < 1)) (
    none) (
    some ())
theorem slices_Chunk_Op_p0 {a0 : List T_api_Op} {a1 : Int} (c1 : (decide (a1 < 1)) = false) (l : Nat) : Vd Try.prog l (.fn (.func 27) [] []) [v0 a0, vi a1] [] (.fn (.func 31) [] [.p 100020 [] 0, .p 100030 [] 0]) [(100020, .cell false (v0 a0)), (100030, .cell false (vi a1))] :=
  Try_vf27 (hn := slices_Chunk_Op_hn) (lvl := 0) (O := { nv := [(1001, vb false)] }) (ps := [EB (decide (a1 < 1)) false]) (by kernel_rfl) (Ac (nv_b c1) An) l
theorem slices_Chunk_Op_valid {a0 : List T_api_Op} {a1 : Int} {z : Unit} (h : slices_Chunk_Op a0 a1 = some z) (l : Nat) : Vd Try.prog l (.fn (.func 27) [] []) [v0 a0, vi a1] [] (.fn (.func 31) [] [.p 100020 [] 0, .p 100030 [] 0]) [(100020, .cell false (v0 a0)), (100030, .cell false (vi a1))] := by
  unfold slices_Chunk_Op at h
  rcases cond_some h with ⟨c1, h⟩ | ⟨c1, h⟩
  · simp at h
  · obtain rfl := Option.some.inj h
    exact slices_Chunk_Op_p0 c1 l
noncomputable def Try_as14_3 : Code := sub [1, 1, 0, 1, 0, 0] Try_b14
noncomputable def Try_bd14_3 : Code := sub [1, 1, 0, 1, 0, 1] Try_b14
noncomputable def Try_b31 : Code := Try.f31.body.getD .skip
theorem Try_hb31 : Try.f31.body = some Try_b31 := by kernel_rfl
theorem Try_hf31 : Try.prog.funcs[31]? = some Try.f31 := by kernel_rfl
theorem Try_vf31 {hn : Hint} {lvl : Nat} {first cap args : List AV} {h h' : Ob} {O : Orc} {r : AV} {ps : List Prop} (hs : funO Try.prog hn (Valid Try.prog) 31 Try.f31 lvl (first ++ args ++ cap) h O = some ((.ret r, h'), ps)) (hp : All ps) (l : Nat) : Vd Try.prog l (.fn (.func 31) first cap) args h r h' :=
  valid_fun (draw_ok Try_draw) range_ok Try_hf31 Try_hb31 (by kernel_rfl) hs hp l
noncomputable def Try_c31_1 : Code := sub [1, 0, 0] Try_b31
noncomputable def Try_c14_6 : Code := sub [1, 1, 0, 1, 0, 1, 0, 1, 0, 1, 0, 0] Try_b14
def round_order_Split_3_hn : Hint where
  live := fun _ r => match r with
    | 0 => [0]
    | 1 => [0, 3]
    | 2 => [3, 9]
    | 3 => [3, 4]
    | 4 => [3, 4, 5]
    | 5 => [3, 5, 11, 12, 13]
    | 6 => [3, 5, 11, 12, 13, 14]
    | 7 => [3, 5, 7, 11, 12, 13]
    | 8 => [3, 5, 11, 12, 13]
    | 9 => [3, 5, 11, 12, 13]
    | 11 => [2]
    | _ => []
  esc := fun _ => false
  raw := fun k => false
  fresh := fun _ d => false
  vecs := fun _ d => false
noncomputable def round_order_Split_3_f6 := codeO Try.prog round_order_Split_3_hn (Valid Try.prog) 14 Try_c14_6
def round_order_Split_3_l6_e : Unit ⊕ (Int × List T_api_Op) → Ex
  | .inl _ => .exit 2
  | .inr _ => .exit 2
noncomputable def round_order_Split_3_l6_s (a0 : List T_api_Op) (a1 : List T_api_Op) (a2 : Int) : Unit ⊕ (Int × List T_api_Op) → St
  | .inl z => S7 2 28 [30, 50030, 50031, 100020, 100030] [(3, .p 30 [] 0), (5, .nils), (11, v0 a0), (12, vi ((a0.length : Nat) : Int)), (13, vi 0), (14, vb false)] [(30, .cell false (.nils)), (50030, .loop [10] 28 [(3, .p 30 [] 0), (9, .fn (.func 31) [] [.p 100020 [] 0, .p 100030 [] 0])] Try_as14_3 Try_bd14_3 14 .busy none 50031), (50031, .dfr true), (100020, .cell false (v0 a1)), (100030, .cell false (vi a2))] true []
  | .inr z => S7 2 28 [30, 50030, 50031, 100020, 100030] [(3, .p 30 [] 0), (5, .v 200210 z.2.length), (11, v0 a0), (12, vi ((a0.length : Nat) : Int)), (13, vi z.1), (14, vb false)] [(30, .cell false (.nils)), (50030, .loop [10] 28 [(3, .p 30 [] 0), (9, .fn (.func 31) [] [.p 100020 [] 0, .p 100030 [] 0])] Try_as14_3 Try_bd14_3 14 .busy none 50031), (50031, .dfr true), (100020, .cell false (v0 a1)), (100030, .cell false (vi a2)), (200210, w0 z.2)] true []
noncomputable def round_order_Split_3_l6_s1_h (a0 : List T_api_Op) (a1 : List T_api_Op) (a2 : Int) (s13_6 : Int) (o200210_6 : List T_api_Op) : St := S7 2 28 [30, 50030, 50031, 100020, 100030] [(3, .p 30 [] 0), (5, .v 200210 o200210_6.length), (11, v0 a0), (12, vi ((a0.length : Nat) : Int)), (13, vi s13_6)] [(30, .cell false (.nils)), (50030, .loop [10] 28 [(3, .p 30 [] 0), (9, .fn (.func 31) [] [.p 100020 [] 0, .p 100030 [] 0])] Try_as14_3 Try_bd14_3 14 .busy none 50031), (50031, .dfr true), (100020, .cell false (v0 a1)), (100030, .cell false (vi a2)), (200210, w0 o200210_6)] true []
def round_order_Split_3_l6_s1_f (a0 : List T_api_Op) (a1 : List T_api_Op) (a2 : Int) (N : Nat) (ih : Int → List T_api_Op → Option (Unit ⊕ (Int × List T_api_Op))) (s13_6 : Int) (o200210_6 : List T_api_Op) : Option (Unit ⊕ (Int × List T_api_Op)) :=
    cond (decide (s13_6 < ((a0.length : Nat) : Int))) (
      (getI a0 s13_6).bind fun e2 =>
      (order_own e2).bind fun r4 =>
      chk (capOK (o200210_6 ++ [e2]).length 144) <|
      chk (in64 (s13_6 + 1)) <|
      ih (s13_6 + 1) (o200210_6 ++ [e2])) (
      some (.inr ((s13_6, o200210_6))))
def round_order_Split_3_l6_s1 (a0 : List T_api_Op) (a1 : List T_api_Op) (a2 : Int) : Nat → Int → List T_api_Op → Option (Unit ⊕ (Int × List T_api_Op))
  | 0 => fun _ _ => none
  | N + 1 => round_order_Split_3_l6_s1_f a0 a1 a2 N (round_order_Split_3_l6_s1 a0 a1 a2 N)
theorem round_order_Split_3_l6_s1_p0 {a0 : List T_api_Op} {a1 : List T_api_Op} {a2 : Int} {s13_6 : Int} {o200210_6 : List T_api_Op} {e2 : T_api_Op} {r4 : Unit} (c1 : (decide (s13_6 < ((a0.length : Nat) : Int))) = true) (c3 : getI a0 s13_6 = some e2) (c5 : order_own e2 = some r4) (c6 : capOK (o200210_6 ++ [e2]).length 144) (c7 : in64 (s13_6 + 1)) : Step round_order_Split_3_f6 (round_order_Split_3_l6_s1_h a0 a1 a2 s13_6 o200210_6) (.normal) (S7 2 28 [30, 50030, 50031, 100020, 100030] [(3, .p 30 [] 0), (5, .v 200210 ((o200210_6 ++ [e2]).length)), (11, v0 a0), (12, vi ((a0.length : Nat) : Int)), (13, vi (s13_6 + 1))] [(30, .cell false (.nils)), (50030, .loop [10] 28 [(3, .p 30 [] 0), (9, .fn (.func 31) [] [.p 100020 [] 0, .p 100030 [] 0])] Try_as14_3 Try_bd14_3 14 .busy none 50031), (50031, .dfr true), (100020, .cell false (v0 a1)), (100030, .cell false (vi a2)), (200210, w0 (o200210_6 ++ [e2]))] true []) :=
  ⟨{ an := [(7000, .pv (p1 e2)), (8002, .call (.ret (v1 e2)) [])], nv := [(6000, vb true), (8004, .v 200210 ((o200210_6 ++ [e2]).length)), (9000, vi (s13_6 + 1))], no := [(8004, 200210, w0 (o200210_6 ++ [e2]))] }, [EB (decide (s13_6 < ((a0.length : Nat) : Int))) true, EG (p0 a0) s13_6 (p1 e2), Vd Try.prog 2 (.fn (.func 28) [] []) [v1 e2] [] (v1 e2) [], (p0 o200210_6).len = o200210_6.length, (PV.l 71 ((o200210_6).map T_api_Op.enc ++ ([e2]).map T_api_Op.enc)).len * 144 ≤ 140737488355328, AObj.vec false 71 (.l 71 ((o200210_6).map T_api_Op.enc ++ ([e2]).map T_api_Op.enc)) = w0 (o200210_6 ++ [e2]), AV.v 200210 ((o200210_6).map T_api_Op.enc ++ ([e2]).map T_api_Op.enc).length = AV.v 200210 ((o200210_6 ++ [e2]).length), EW (s13_6 + 1)], by kernel_rfl, (Ac (nv_b c1) (Ac (getI_ok c3 71 T_api_Op.enc) (Ac (order_own_valid c5 _) (Ac (len_ok _ _ _) (Ac (len_le2 c6) (Ac (ob_app _ _ _ _ _) (Ac (nv_app _ _ _ _) (Ac (nv_wrap c7) An))))))))⟩
theorem round_order_Split_3_l6_s1_p1 {a0 : List T_api_Op} {a1 : List T_api_Op} {a2 : Int} {s13_6 : Int} {o200210_6 : List T_api_Op} (c1 : (decide (s13_6 < ((a0.length : Nat) : Int))) = false) : Step round_order_Split_3_f6 (round_order_Split_3_l6_s1_h a0 a1 a2 s13_6 o200210_6) (.exit 2) (S7 2 28 [30, 50030, 50031, 100020, 100030] [(3, .p 30 [] 0), (5, .v 200210 o200210_6.length), (11, v0 a0), (12, vi ((a0.length : Nat) : Int)), (13, vi s13_6), (14, vb false)] [(30, .cell false (.nils)), (50030, .loop [10] 28 [(3, .p 30 [] 0), (9, .fn (.func 31) [] [.p 100020 [] 0, .p 100030 [] 0])] Try_as14_3 Try_bd14_3 14 .busy none 50031), (50031, .dfr true), (100020, .cell false (v0 a1)), (100030, .cell false (vi a2)), (200210, w0 o200210_6)] true []) :=
  ⟨{ nv := [(6000, vb false)] }, [EB (decide (s13_6 < ((a0.length : Nat) : Int))) false], by kernel_rfl, (Ac (nv_b c1) An)⟩
theorem round_order_Split_3_l6_s1_ok {a0 : List T_api_Op} {a1 : List T_api_Op} {a2 : Int} : ∀ {N : Nat} {s13_6 : Int} {o200210_6 : List T_api_Op} {z : Unit ⊕ (Int × List T_api_Op)}, round_order_Split_3_l6_s1 a0 a1 a2 N s13_6 o200210_6 = some z → LoopP round_order_Split_3_f6 (round_order_Split_3_l6_s1_h a0 a1 a2 s13_6 o200210_6) (round_order_Split_3_l6_e z) (round_order_Split_3_l6_s a0 a1 a2 z) := by
  intro N
  induction N with
  | zero => intro s13_6 o200210_6 z h; simp [round_order_Split_3_l6_s1] at h
  | succ N ih =>
    intro s13_6 o200210_6 z h
    change round_order_Split_3_l6_s1_f a0 a1 a2 N (round_order_Split_3_l6_s1 a0 a1 a2 N) s13_6 o200210_6 = some z at h
    unfold round_order_Split_3_l6_s1_f at h
    rcases cond_some h with ⟨c1, h⟩ | ⟨c1, h⟩
    · obtain ⟨e2, c3, h⟩ := bind_some h
      obtain ⟨r4, c5, h⟩ := bind_some h
      obtain ⟨c6, h⟩ := chk_some h
      obtain ⟨c7, h⟩ := chk_some h
      exact Step.next (round_order_Split_3_l6_s1_p0 c1 c3 c5 c6 c7) (ih h)
    · obtain rfl := Option.some.inj h
      exact Step.exit (round_order_Split_3_l6_s1_p1 c1)
noncomputable def round_order_Split_3_l6_h (a0 : List T_api_Op) (a1 : List T_api_Op) (a2 : Int)  : St := S7 2 28 [30, 50030, 50031, 100020, 100030] [(3, .p 30 [] 0), (5, .nils), (11, v0 a0), (12, vi ((a0.length : Nat) : Int)), (13, vi 0)] [(30, .cell false (.nils)), (50030, .loop [10] 28 [(3, .p 30 [] 0), (9, .fn (.func 31) [] [.p 100020 [] 0, .p 100030 [] 0])] Try_as14_3 Try_bd14_3 14 .busy none 50031), (50031, .dfr true), (100020, .cell false (v0 a1)), (100030, .cell false (vi a2))] true []
def round_order_Split_3_l6_f (a0 : List T_api_Op) (a1 : List T_api_Op) (a2 : Int) (N : Nat) (ih : Option (Unit ⊕ (Int × List T_api_Op)))  : Option (Unit ⊕ (Int × List T_api_Op)) :=
    cond (decide (0 < ((a0.length : Nat) : Int))) (
      (getI a0 0).bind fun e2 =>
      (order_own e2).bind fun r4 =>
      round_order_Split_3_l6_s1 a0 a1 a2 N 1 [e2]) (
      some (.inl ()))
def round_order_Split_3_l6 (a0 : List T_api_Op) (a1 : List T_api_Op) (a2 : Int) : Nat → Option (Unit ⊕ (Int × List T_api_Op))
  | 0 => none
  | N + 1 => round_order_Split_3_l6_f a0 a1 a2 N (round_order_Split_3_l6 a0 a1 a2 N)
theorem round_order_Split_3_l6_p0 {a0 : List T_api_Op} {a1 : List T_api_Op} {a2 : Int} {e2 : T_api_Op} {r4 : Unit} (c1 : (decide (0 < ((a0.length : Nat) : Int))) = true) (c3 : getI a0 0 = some e2) (c5 : order_own e2 = some r4) : Step round_order_Split_3_f6 (round_order_Split_3_l6_h a0 a1 a2 ) (.normal) (S7 2 28 [30, 50030, 50031, 100020, 100030] [(3, .p 30 [] 0), (5, .v 200210 1), (11, v0 a0), (12, vi ((a0.length : Nat) : Int)), (13, vi 1)] [(30, .cell false (.nils)), (50030, .loop [10] 28 [(3, .p 30 [] 0), (9, .fn (.func 31) [] [.p 100020 [] 0, .p 100030 [] 0])] Try_as14_3 Try_bd14_3 14 .busy none 50031), (50031, .dfr true), (100020, .cell false (v0 a1)), (100030, .cell false (vi a2)), (200210, w0 [e2])] true []) :=
  ⟨{ an := [(7000, .pv (p1 e2)), (8002, .call (.ret (v1 e2)) [])], nv := [(6000, vb true)] }, [EB (decide (0 < ((a0.length : Nat) : Int))) true, EG (p0 a0) (0 : Int) (p1 e2), Vd Try.prog 2 (.fn (.func 28) [] []) [v1 e2] [] (v1 e2) [], (p0 [e2]).len * 144 ≤ 140737488355328, (p0 [e2]).len ≠ 0], by kernel_rfl, (Ac (nv_b c1) (Ac (getI_ok c3 71 T_api_Op.enc) (Ac (order_own_valid c5 _) (Ac (Nat.le_of_ble_eq_true rfl) (Ac (Nat.succ_ne_zero _) An)))))⟩
theorem round_order_Split_3_l6_p1 {a0 : List T_api_Op} {a1 : List T_api_Op} {a2 : Int} (c1 : (decide (0 < ((a0.length : Nat) : Int))) = false) : Step round_order_Split_3_f6 (round_order_Split_3_l6_h a0 a1 a2 ) (.exit 2) (S7 2 28 [30, 50030, 50031, 100020, 100030] [(3, .p 30 [] 0), (5, .nils), (11, v0 a0), (12, vi ((a0.length : Nat) : Int)), (13, vi 0), (14, vb false)] [(30, .cell false (.nils)), (50030, .loop [10] 28 [(3, .p 30 [] 0), (9, .fn (.func 31) [] [.p 100020 [] 0, .p 100030 [] 0])] Try_as14_3 Try_bd14_3 14 .busy none 50031), (50031, .dfr true), (100020, .cell false (v0 a1)), (100030, .cell false (vi a2))] true []) :=
  ⟨{ nv := [(6000, vb false)] }, [EB (decide (0 < ((a0.length : Nat) : Int))) false], by kernel_rfl, (Ac (nv_b c1) An)⟩
theorem round_order_Split_3_l6_ok {a0 : List T_api_Op} {a1 : List T_api_Op} {a2 : Int} : ∀ {N : Nat}  {z : Unit ⊕ (Int × List T_api_Op)}, round_order_Split_3_l6 a0 a1 a2 N  = some z → LoopP round_order_Split_3_f6 (round_order_Split_3_l6_h a0 a1 a2 ) (round_order_Split_3_l6_e z) (round_order_Split_3_l6_s a0 a1 a2 z) := by
  intro N
  induction N with
  | zero => intro  z h; simp [round_order_Split_3_l6] at h
  | succ N ih =>
    intro  z h
    change round_order_Split_3_l6_f a0 a1 a2 N (round_order_Split_3_l6 a0 a1 a2 N)  = some z at h
    unfold round_order_Split_3_l6_f at h
    rcases cond_some h with ⟨c1, h⟩ | ⟨c1, h⟩
    · obtain ⟨e2, c3, h⟩ := bind_some h
      obtain ⟨r4, c5, h⟩ := bind_some h
      exact Step.next (round_order_Split_3_l6_p0 c1 c3 c5) (round_order_Split_3_l6_s1_ok h)
    · obtain rfl := Option.some.inj h
      exact Step.exit (round_order_Split_3_l6_p1 c1)
def round_order_Split_3 (N : Nat) (a0 : List T_api_Op) (a1 : List T_api_Op) (a2 : Int) : Option (List (List T_api_Op)) :=
  (round_order_Split_3_l6 a0 a1 a2 N).bind fun z1 => match z1 with
  | .inl z2 =>
    some [[]]
  | .inr z2 =>
    some [z2.2]
theorem round_order_Split_3_p0 {N : Nat} {a0 : List T_api_Op} {a1 : List T_api_Op} {a2 : Int} {z2 : Unit} (c3 : round_order_Split_3_l6 a0 a1 a2 N = some (.inl z2)) (l : Nat) : Vd Try.prog l (.yl 50030) [v0 a0] [(30, .cell false (.nils)), (50030, .loop [10] 28 [(3, .p 30 [] 0), (9, .fn (.func 31) [] [.p 100020 [] 0, .p 100030 [] 0])] Try_as14_3 Try_bd14_3 14 .ready none 50031), (50031, .dfr true), (100020, .cell false (v0 a1)), (100030, .cell false (vi a2))] (vb true) [(30, .cell false (.v 200260 1)), (50030, .loop [10] 28 [(3, .p 30 [] 0), (9, .fn (.func 31) [] [.p 100020 [] 0, .p 100030 [] 0])] Try_as14_3 Try_bd14_3 14 .ready none 50031), (50031, .dfr true), (100020, .cell false (v0 a1)), (100030, .cell false (vi a2)), (200260, w4 [[]])] :=
  valid_round (hn := round_order_Split_3_hn) (K := 14) (draw_ok Try_draw) range_ok (lvl := 2) (l := 50030) (args := [v0 a0]) (h := [(30, .cell false (.nils)), (50030, .loop [10] 28 [(3, .p 30 [] 0), (9, .fn (.func 31) [] [.p 100020 [] 0, .p 100030 [] 0])] Try_as14_3 Try_bd14_3 14 .ready none 50031), (50031, .dfr true), (100020, .cell false (v0 a1)), (100030, .cell false (vi a2))]) (h' := [(30, .cell false (.v 200260 1)), (50030, .loop [10] 28 [(3, .p 30 [] 0), (9, .fn (.func 31) [] [.p 100020 [] 0, .p 100030 [] 0])] Try_as14_3 Try_bd14_3 14 .ready none 50031), (50031, .dfr true), (100020, .cell false (v0 a1)), (100030, .cell false (vi a2)), (200260, w4 [[]])]) (out := .ret (vb true)) (O := { nv := [(5001, vi ((a0.length : Nat) : Int))], lo := [(6, .exit 2, S7 2 28 [30, 50030, 50031, 100020, 100030] [(3, .p 30 [] 0), (5, .nils), (11, v0 a0), (12, vi ((a0.length : Nat) : Int)), (13, vi 0), (14, vb false)] [(30, .cell false (.nils)), (50030, .loop [10] 28 [(3, .p 30 [] 0), (9, .fn (.func 31) [] [.p 100020 [] 0, .p 100030 [] 0])] Try_as14_3 Try_bd14_3 14 .busy none 50031), (50031, .dfr true), (100020, .cell false (v0 a1)), (100030, .cell false (vi a2))] true [])] }) (qs := [vi (((a0).map T_api_Op.enc).length : Nat) = vi ((a0.length : Nat) : Int), LoopP round_order_Split_3_f6 (S7 2 28 [30, 50030, 50031, 100020, 100030] [(3, .p 30 [] 0), (5, .nils), (11, v0 a0), (12, vi ((a0.length : Nat) : Int)), (13, vi 0)] [(30, .cell false (.nils)), (50030, .loop [10] 28 [(3, .p 30 [] 0), (9, .fn (.func 31) [] [.p 100020 [] 0, .p 100030 [] 0])] Try_as14_3 Try_bd14_3 14 .busy none 50031), (50031, .dfr true), (100020, .cell false (v0 a1)), (100030, .cell false (vi a2))] true []) (.exit 2) (S7 2 28 [30, 50030, 50031, 100020, 100030] [(3, .p 30 [] 0), (5, .nils), (11, v0 a0), (12, vi ((a0.length : Nat) : Int)), (13, vi 0), (14, vb false)] [(30, .cell false (.nils)), (50030, .loop [10] 28 [(3, .p 30 [] 0), (9, .fn (.func 31) [] [.p 100020 [] 0, .p 100030 [] 0])] Try_as14_3 Try_bd14_3 14 .busy none 50031), (50031, .dfr true), (100020, .cell false (v0 a1)), (100030, .cell false (vi a2))] true []), (p4 [[]]).len * 24 ≤ 140737488355328, (p4 [[]]).len ≠ 0]) (by kernel_rfl) (Ac (nv_len _ _) (Ac (round_order_Split_3_l6_ok c3) (Ac (Nat.le_of_ble_eq_true rfl) (Ac (Nat.succ_ne_zero _) An)))) l
theorem round_order_Split_3_p1 {N : Nat} {a0 : List T_api_Op} {a1 : List T_api_Op} {a2 : Int} {z2 : Int × List T_api_Op} (c3 : round_order_Split_3_l6 a0 a1 a2 N = some (.inr z2)) (l : Nat) : Vd Try.prog l (.yl 50030) [v0 a0] [(30, .cell false (.nils)), (50030, .loop [10] 28 [(3, .p 30 [] 0), (9, .fn (.func 31) [] [.p 100020 [] 0, .p 100030 [] 0])] Try_as14_3 Try_bd14_3 14 .ready none 50031), (50031, .dfr true), (100020, .cell false (v0 a1)), (100030, .cell false (vi a2))] (vb true) [(30, .cell false (.v 200260 1)), (50030, .loop [10] 28 [(3, .p 30 [] 0), (9, .fn (.func 31) [] [.p 100020 [] 0, .p 100030 [] 0])] Try_as14_3 Try_bd14_3 14 .ready none 50031), (50031, .dfr true), (100020, .cell false (v0 a1)), (100030, .cell false (vi a2)), (200260, w4 [z2.2])] :=
  valid_round (hn := round_order_Split_3_hn) (K := 14) (draw_ok Try_draw) range_ok (lvl := 2) (l := 50030) (args := [v0 a0]) (h := [(30, .cell false (.nils)), (50030, .loop [10] 28 [(3, .p 30 [] 0), (9, .fn (.func 31) [] [.p 100020 [] 0, .p 100030 [] 0])] Try_as14_3 Try_bd14_3 14 .ready none 50031), (50031, .dfr true), (100020, .cell false (v0 a1)), (100030, .cell false (vi a2))]) (h' := [(30, .cell false (.v 200260 1)), (50030, .loop [10] 28 [(3, .p 30 [] 0), (9, .fn (.func 31) [] [.p 100020 [] 0, .p 100030 [] 0])] Try_as14_3 Try_bd14_3 14 .ready none 50031), (50031, .dfr true), (100020, .cell false (v0 a1)), (100030, .cell false (vi a2)), (200260, w4 [z2.2])]) (out := .ret (vb true)) (O := { nv := [(5001, vi ((a0.length : Nat) : Int))], lo := [(6, .exit 2, S7 2 28 [30, 50030, 50031, 100020, 100030] [(3, .p 30 [] 0), (5, .v 200210 z2.2.length), (11, v0 a0), (12, vi ((a0.length : Nat) : Int)), (13, vi z2.1), (14, vb false)] [(30, .cell false (.nils)), (50030, .loop [10] 28 [(3, .p 30 [] 0), (9, .fn (.func 31) [] [.p 100020 [] 0, .p 100030 [] 0])] Try_as14_3 Try_bd14_3 14 .busy none 50031), (50031, .dfr true), (100020, .cell false (v0 a1)), (100030, .cell false (vi a2)), (200210, w0 z2.2)] true [])] }) (qs := [vi (((a0).map T_api_Op.enc).length : Nat) = vi ((a0.length : Nat) : Int), LoopP round_order_Split_3_f6 (S7 2 28 [30, 50030, 50031, 100020, 100030] [(3, .p 30 [] 0), (5, .nils), (11, v0 a0), (12, vi ((a0.length : Nat) : Int)), (13, vi 0)] [(30, .cell false (.nils)), (50030, .loop [10] 28 [(3, .p 30 [] 0), (9, .fn (.func 31) [] [.p 100020 [] 0, .p 100030 [] 0])] Try_as14_3 Try_bd14_3 14 .busy none 50031), (50031, .dfr true), (100020, .cell false (v0 a1)), (100030, .cell false (vi a2))] true []) (.exit 2) (S7 2 28 [30, 50030, 50031, 100020, 100030] [(3, .p 30 [] 0), (5, .v 200210 z2.2.length), (11, v0 a0), (12, vi ((a0.length : Nat) : Int)), (13, vi z2.1), (14, vb false)] [(30, .cell false (.nils)), (50030, .loop [10] 28 [(3, .p 30 [] 0), (9, .fn (.func 31) [] [.p 100020 [] 0, .p 100030 [] 0])] Try_as14_3 Try_bd14_3 14 .busy none 50031), (50031, .dfr true), (100020, .cell false (v0 a1)), (100030, .cell false (vi a2)), (200210, w0 z2.2)] true []), (p0 z2.2).len = z2.2.length, (p4 [z2.2]).len * 24 ≤ 140737488355328, (p4 [z2.2]).len ≠ 0]) (by kernel_rfl) (Ac (nv_len _ _) (Ac (round_order_Split_3_l6_ok c3) (Ac (len_ok _ _ _) (Ac (Nat.le_of_ble_eq_true rfl) (Ac (Nat.succ_ne_zero _) An))))) l
theorem round_order_Split_3_valid {N : Nat} {a0 : List T_api_Op} {a1 : List T_api_Op} {a2 : Int} {z : List (List T_api_Op)} (h : round_order_Split_3 N a0 a1 a2 = some z) (l : Nat) : Vd Try.prog l (.yl 50030) [v0 a0] [(30, .cell false (.nils)), (50030, .loop [10] 28 [(3, .p 30 [] 0), (9, .fn (.func 31) [] [.p 100020 [] 0, .p 100030 [] 0])] Try_as14_3 Try_bd14_3 14 .ready none 50031), (50031, .dfr true), (100020, .cell false (v0 a1)), (100030, .cell false (vi a2))] (vb true) [(30, .cell false (.v 200260 z.length)), (50030, .loop [10] 28 [(3, .p 30 [] 0), (9, .fn (.func 31) [] [.p 100020 [] 0, .p 100030 [] 0])] Try_as14_3 Try_bd14_3 14 .ready none 50031), (50031, .dfr true), (100020, .cell false (v0 a1)), (100030, .cell false (vi a2)), (200260, w4 z)] := by
  unfold round_order_Split_3 at h
  obtain ⟨z1, c3, h⟩ := bind_some h
  rcases z1 with z2 | z2 <;> dsimp only at h
  · obtain rfl := Option.some.inj h
    exact round_order_Split_3_p0 c3 l
  · obtain rfl := Option.some.inj h
    exact round_order_Split_3_p1 c3 l
def round_order_Split_3_2_hn : Hint where
  live := fun _ r => match r with
    | 0 => [0]
    | 1 => [0, 3]
    | 2 => [3, 9]
    | 3 => [3, 4]
    | 4 => [3, 4, 5]
    | 5 => [3, 5, 11, 12, 13]
    | 6 => [3, 5, 11, 12, 13, 14]
    | 7 => [3, 5, 7, 11, 12, 13]
    | 8 => [3, 5, 11, 12, 13]
    | 9 => [3, 5, 11, 12, 13]
    | 11 => [2]
    | _ => []
  esc := fun _ => false
  raw := fun k => false
  fresh := fun _ d => false
  vecs := fun _ d => false
noncomputable def round_order_Split_3_2_f6 := codeO Try.prog round_order_Split_3_2_hn (Valid Try.prog) 14 Try_c14_6
def round_order_Split_3_2_l6_e : Unit ⊕ (Int × List T_api_Op) → Ex
  | .inl _ => .exit 2
  | .inr _ => .exit 2
noncomputable def round_order_Split_3_2_l6_s (a0 : List T_api_Op) (a1 : List T_api_Op) (a2 : Int) (a3 : List (List T_api_Op)) : Unit ⊕ (Int × List T_api_Op) → St
  | .inl z => S7 2 28 [30, 50030, 50031, 100020, 100030, 200260] [(3, .p 30 [] 0), (5, .nils), (11, v0 a0), (12, vi ((a0.length : Nat) : Int)), (13, vi 0), (14, vb false)] [(30, .cell false (.v 200260 a3.length)), (50030, .loop [10] 28 [(3, .p 30 [] 0), (9, .fn (.func 31) [] [.p 100020 [] 0, .p 100030 [] 0])] Try_as14_3 Try_bd14_3 14 .busy none 50031), (50031, .dfr true), (100020, .cell false (v0 a1)), (100030, .cell false (vi a2)), (200260, w4 a3)] true []
  | .inr z => S7 2 28 [30, 50030, 50031, 100020, 100030, 200260] [(3, .p 30 [] 0), (5, .v 200210 z.2.length), (11, v0 a0), (12, vi ((a0.length : Nat) : Int)), (13, vi z.1), (14, vb false)] [(30, .cell false (.v 200260 a3.length)), (50030, .loop [10] 28 [(3, .p 30 [] 0), (9, .fn (.func 31) [] [.p 100020 [] 0, .p 100030 [] 0])] Try_as14_3 Try_bd14_3 14 .busy none 50031), (50031, .dfr true), (100020, .cell false (v0 a1)), (100030, .cell false (vi a2)), (200210, w0 z.2), (200260, w4 a3)] true []
noncomputable def round_order_Split_3_2_l6_s1_h (a0 : List T_api_Op) (a1 : List T_api_Op) (a2 : Int) (a3 : List (List T_api_Op)) (s13_6 : Int) (o200210_6 : List T_api_Op) : St := S7 2 28 [30, 50030, 50031, 100020, 100030, 200260] [(3, .p 30 [] 0), (5, .v 200210 o200210_6.length), (11, v0 a0), (12, vi ((a0.length : Nat) : Int)), (13, vi s13_6)] [(30, .cell false (.v 200260 a3.length)), (50030, .loop [10] 28 [(3, .p 30 [] 0), (9, .fn (.func 31) [] [.p 100020 [] 0, .p 100030 [] 0])] Try_as14_3 Try_bd14_3 14 .busy none 50031), (50031, .dfr true), (100020, .cell false (v0 a1)), (100030, .cell false (vi a2)), (200210, w0 o200210_6), (200260, w4 a3)] true []
def round_order_Split_3_2_l6_s1_f (a0 : List T_api_Op) (a1 : List T_api_Op) (a2 : Int) (a3 : List (List T_api_Op)) (N : Nat) (ih : Int → List T_api_Op → Option (Unit ⊕ (Int × List T_api_Op))) (s13_6 : Int) (o200210_6 : List T_api_Op) : Option (Unit ⊕ (Int × List T_api_Op)) :=
    cond (decide (s13_6 < ((a0.length : Nat) : Int))) (
      (getI a0 s13_6).bind fun e2 =>
      (order_own e2).bind fun r4 =>
      chk (capOK (o200210_6 ++ [e2]).length 144) <|
      chk (in64 (s13_6 + 1)) <|
      ih (s13_6 + 1) (o200210_6 ++ [e2])) (
      some (.inr ((s13_6, o200210_6))))
def round_order_Split_3_2_l6_s1 (a0 : List T_api_Op) (a1 : List T_api_Op) (a2 : Int) (a3 : List (List T_api_Op)) : Nat → Int → List T_api_Op → Option (Unit ⊕ (Int × List T_api_Op))
  | 0 => fun _ _ => none
  | N + 1 => round_order_Split_3_2_l6_s1_f a0 a1 a2 a3 N (round_order_Split_3_2_l6_s1 a0 a1 a2 a3 N)
theorem round_order_Split_3_2_l6_s1_p0 {a0 : List T_api_Op} {a1 : List T_api_Op} {a2 : Int} {a3 : List (List T_api_Op)} {s13_6 : Int} {o200210_6 : List T_api_Op} {e2 : T_api_Op} {r4 : Unit} (c1 : (decide (s13_6 < ((a0.length : Nat) : Int))) = true) (c3 : getI a0 s13_6 = some e2) (c5 : order_own e2 = some r4) (c6 : capOK (o200210_6 ++ [e2]).length 144) (c7 : in64 (s13_6 + 1)) : Step round_order_Split_3_2_f6 (round_order_Split_3_2_l6_s1_h a0 a1 a2 a3 s13_6 o200210_6) (.normal) (S7 2 28 [30, 50030, 50031, 100020, 100030, 200260] [(3, .p 30 [] 0), (5, .v 200210 ((o200210_6 ++ [e2]).length)), (11, v0 a0), (12, vi ((a0.length : Nat) : Int)), (13, vi (s13_6 + 1))] [(30, .cell false (.v 200260 a3.length)), (50030, .loop [10] 28 [(3, .p 30 [] 0), (9, .fn (.func 31) [] [.p 100020 [] 0, .p 100030 [] 0])] Try_as14_3 Try_bd14_3 14 .busy none 50031), (50031, .dfr true), (100020, .cell false (v0 a1)), (100030, .cell false (vi a2)), (200210, w0 (o200210_6 ++ [e2])), (200260, w4 a3)] true []) :=
  ⟨{ an := [(7000, .pv (p1 e2)), (8002, .call (.ret (v1 e2)) [])], nv := [(6000, vb true), (8004, .v 200210 ((o200210_6 ++ [e2]).length)), (9000, vi (s13_6 + 1))], no := [(8004, 200210, w0 (o200210_6 ++ [e2]))] }, [EB (decide (s13_6 < ((a0.length : Nat) : Int))) true, EG (p0 a0) s13_6 (p1 e2), Vd Try.prog 2 (.fn (.func 28) [] []) [v1 e2] [] (v1 e2) [], (p0 o200210_6).len = o200210_6.length, (PV.l 71 ((o200210_6).map T_api_Op.enc ++ ([e2]).map T_api_Op.enc)).len * 144 ≤ 140737488355328, AObj.vec false 71 (.l 71 ((o200210_6).map T_api_Op.enc ++ ([e2]).map T_api_Op.enc)) = w0 (o200210_6 ++ [e2]), AV.v 200210 ((o200210_6).map T_api_Op.enc ++ ([e2]).map T_api_Op.enc).length = AV.v 200210 ((o200210_6 ++ [e2]).length), EW (s13_6 + 1)], by kernel_rfl, (Ac (nv_b c1) (Ac (getI_ok c3 71 T_api_Op.enc) (Ac (order_own_valid c5 _) (Ac (len_ok _ _ _) (Ac (len_le2 c6) (Ac (ob_app _ _ _ _ _) (Ac (nv_app _ _ _ _) (Ac (nv_wrap c7) An))))))))⟩
theorem round_order_Split_3_2_l6_s1_p1 {a0 : List T_api_Op} {a1 : List T_api_Op} {a2 : Int} {a3 : List (List T_api_Op)} {s13_6 : Int} {o200210_6 : List T_api_Op} (c1 : (decide (s13_6 < ((a0.length : Nat) : Int))) = false) : Step round_order_Split_3_2_f6 (round_order_Split_3_2_l6_s1_h a0 a1 a2 a3 s13_6 o200210_6) (.exit 2) (S7 2 28 [30, 50030, 50031, 100020, 100030, 200260] [(3, .p 30 [] 0), (5, .v 200210 o200210_6.length), (11, v0 a0), (12, vi ((a0.length : Nat) : Int)), (13, vi s13_6), (14, vb false)] [(30, .cell false (.v 200260 a3.length)), (50030, .loop [10] 28 [(3, .p 30 [] 0), (9, .fn (.func 31) [] [.p 100020 [] 0, .p 100030 [] 0])] Try_as14_3 Try_bd14_3 14 .busy none 50031), (50031, .dfr true), (100020, .cell false (v0 a1)), (100030, .cell false (vi a2)), (200210, w0 o200210_6), (200260, w4 a3)] true []) :=
  ⟨{ nv := [(6000, vb false)] }, [EB (decide (s13_6 < ((a0.length : Nat) : Int))) false], by kernel_rfl, (Ac (nv_b c1) An)⟩
theorem round_order_Split_3_2_l6_s1_ok {a0 : List T_api_Op} {a1 : List T_api_Op} {a2 : Int} {a3 : List (List T_api_Op)} : ∀ {N : Nat} {s13_6 : Int} {o200210_6 : List T_api_Op} {z : Unit ⊕ (Int × List T_api_Op)}, round_order_Split_3_2_l6_s1 a0 a1 a2 a3 N s13_6 o200210_6 = some z → LoopP round_order_Split_3_2_f6 (round_order_Split_3_2_l6_s1_h a0 a1 a2 a3 s13_6 o200210_6) (round_order_Split_3_2_l6_e z) (round_order_Split_3_2_l6_s a0 a1 a2 a3 z) := by
  intro N
  induction N with
  | zero => intro s13_6 o200210_6 z h; simp [round_order_Split_3_2_l6_s1] at h
  | succ N ih =>
    intro s13_6 o200210_6 z h
    change round_order_Split_3_2_l6_s1_f a0 a1 a2 a3 N (round_order_Split_3_2_l6_s1 a0 a1 a2 a3 N) s13_6 o200210_6 = some z at h
    unfold round_order_Split_3_2_l6_s1_f at h
    rcases cond_some h with ⟨c1, h⟩ | ⟨c1, h⟩
    · obtain ⟨e2, c3, h⟩ := bind_some h
      obtain ⟨r4, c5, h⟩ := bind_some h
      obtain ⟨c6, h⟩ := chk_some h
      obtain ⟨c7, h⟩ := chk_some h
      exact Step.next (round_order_Split_3_2_l6_s1_p0 c1 c3 c5 c6 c7) (ih h)
    · obtain rfl := Option.some.inj h
      exact Step.exit (round_order_Split_3_2_l6_s1_p1 c1)
noncomputable def round_order_Split_3_2_l6_h (a0 : List T_api_Op) (a1 : List T_api_Op) (a2 : Int) (a3 : List (List T_api_Op))  : St := S7 2 28 [30, 50030, 50031, 100020, 100030, 200260] [(3, .p 30 [] 0), (5, .nils), (11, v0 a0), (12, vi ((a0.length : Nat) : Int)), (13, vi 0)] [(30, .cell false (.v 200260 a3.length)), (50030, .loop [10] 28 [(3, .p 30 [] 0), (9, .fn (.func 31) [] [.p 100020 [] 0, .p 100030 [] 0])] Try_as14_3 Try_bd14_3 14 .busy none 50031), (50031, .dfr true), (100020, .cell false (v0 a1)), (100030, .cell false (vi a2)), (200260, w4 a3)] true []
def round_order_Split_3_2_l6_f (a0 : List T_api_Op) (a1 : List T_api_Op) (a2 : Int) (a3 : List (List T_api_Op)) (N : Nat) (ih : Option (Unit ⊕ (Int × List T_api_Op)))  : Option (Unit ⊕ (Int × List T_api_Op)) :=
    cond (decide (0 < ((a0.length : Nat) : Int))) (
      (getI a0 0).bind fun e2 =>
      (order_own e2).bind fun r4 =>
      round_order_Split_3_2_l6_s1 a0 a1 a2 a3 N 1 [e2]) (
      some (.inl ()))
def round_order_Split_3_2_l6 (a0 : List T_api_Op) (a1 : List T_api_Op) (a2 : Int) (a3 : List (List T_api_Op)) : Nat → Option (Unit ⊕ (Int × List T_api_Op))
  | 0 => none
  | N + 1 => round_order_Split_3_2_l6_f a0 a1 a2 a3 N (round_order_Split_3_2_l6 a0 a1 a2 a3 N)
theorem round_order_Split_3_2_l6_p0 {a0 : List T_api_Op} {a1 : List T_api_Op} {a2 : Int} {a3 : List (List T_api_Op)} {e2 : T_api_Op} {r4 : Unit} (c1 : (decide (0 < ((a0.length : Nat) : Int))) = true) (c3 : getI a0 0 = some e2) (c5 : order_own e2 = some r4) : Step round_order_Split_3_2_f6 (round_order_Split_3_2_l6_h a0 a1 a2 a3 ) (.normal) (S7 2 28 [30, 50030, 50031, 100020, 100030, 200260] [(3, .p 30 [] 0), (5, .v 200210 1), (11, v0 a0), (12, vi ((a0.length : Nat) : Int)), (13, vi 1)] [(30, .cell false (.v 200260 a3.length)), (50030, .loop [10] 28 [(3, .p 30 [] 0), (9, .fn (.func 31) [] [.p 100020 [] 0, .p 100030 [] 0])] Try_as14_3 Try_bd14_3 14 .busy none 50031), (50031, .dfr true), (100020, .cell false (v0 a1)), (100030, .cell false (vi a2)), (200210, w0 [e2]), (200260, w4 a3)] true []) :=
  ⟨{ an := [(7000, .pv (p1 e2)), (8002, .call (.ret (v1 e2)) [])], nv := [(6000, vb true)] }, [EB (decide (0 < ((a0.length : Nat) : Int))) true, EG (p0 a0) (0 : Int) (p1 e2), Vd Try.prog 2 (.fn (.func 28) [] []) [v1 e2] [] (v1 e2) [], (p0 [e2]).len * 144 ≤ 140737488355328, (p0 [e2]).len ≠ 0], by kernel_rfl, (Ac (nv_b c1) (Ac (getI_ok c3 71 T_api_Op.enc) (Ac (order_own_valid c5 _) (Ac (Nat.le_of_ble_eq_true rfl) (Ac (Nat.succ_ne_zero _) An)))))⟩
theorem round_order_Split_3_2_l6_p1 {a0 : List T_api_Op} {a1 : List T_api_Op} {a2 : Int} {a3 : List (List T_api_Op)} (c1 : (decide (0 < ((a0.length : Nat) : Int))) = false) : Step round_order_Split_3_2_f6 (round_order_Split_3_2_l6_h a0 a1 a2 a3 ) (.exit 2) (S7 2 28 [30, 50030, 50031, 100020, 100030, 200260] [(3, .p 30 [] 0), (5, .nils), (11, v0 a0), (12, vi ((a0.length : Nat) : Int)), (13, vi 0), (14, vb false)] [(30, .cell false (.v 200260 a3.length)), (50030, .loop [10] 28 [(3, .p 30 [] 0), (9, .fn (.func 31) [] [.p 100020 [] 0, .p 100030 [] 0])] Try_as14_3 Try_bd14_3 14 .busy none 50031), (50031, .dfr true), (100020, .cell false (v0 a1)), (100030, .cell false (vi a2)), (200260, w4 a3)] true []) :=
  ⟨{ nv := [(6000, vb false)] }, [EB (decide (0 < ((a0.length : Nat) : Int))) false], by kernel_rfl, (Ac (nv_b c1) An)⟩
theorem round_order_Split_3_2_l6_ok {a0 : List T_api_Op} {a1 : List T_api_Op} {a2 : Int} {a3 : List (List T_api_Op)} : ∀ {N : Nat}  {z : Unit ⊕ (Int × List T_api_Op)}, round_order_Split_3_2_l6 a0 a1 a2 a3 N  = some z → LoopP round_order_Split_3_2_f6 (round_order_Split_3_2_l6_h a0 a1 a2 a3 ) (round_order_Split_3_2_l6_e z) (round_order_Split_3_2_l6_s a0 a1 a2 a3 z) := by
  intro N
  induction N with
  | zero => intro  z h; simp [round_order_Split_3_2_l6] at h
  | succ N ih =>
    intro  z h
    change round_order_Split_3_2_l6_f a0 a1 a2 a3 N (round_order_Split_3_2_l6 a0 a1 a2 a3 N)  = some z at h
    unfold round_order_Split_3_2_l6_f at h
    rcases cond_some h with ⟨c1, h⟩ | ⟨c1, h⟩
    · obtain ⟨e2, c3, h⟩ := bind_some h
      obtain ⟨r4, c5, h⟩ := bind_some h
      exact Step.next (round_order_Split_3_2_l6_p0 c1 c3 c5) (round_order_Split_3_2_l6_s1_ok h)
    · obtain rfl := Option.some.inj h
      exact Step.exit (round_order_Split_3_2_l6_p1 c1)
def round_order_Split_3_2 (N : Nat) (a0 : List T_api_Op) (a1 : List T_api_Op) (a2 : Int) (a3 : List (List T_api_Op)) : Option (List (List T_api_Op)) :=
  (round_order_Split_3_2_l6 a0 a1 a2 a3 N).bind fun z1 => match z1 with
  | .inl z2 =>
    chk (capOK (a3 ++ [[]]).length 24) <|
    some (a3 ++ [[]])
  | .inr z2 =>
    chk (capOK (a3 ++ [z2.2]).length 24) <|
    some (a3 ++ [z2.2])
theorem round_order_Split_3_2_p0 {N : Nat} {a0 : List T_api_Op} {a1 : List T_api_Op} {a2 : Int} {a3 : List (List T_api_Op)} {z2 : Unit} (c3 : round_order_Split_3_2_l6 a0 a1 a2 a3 N = some (.inl z2)) (c4 : capOK (a3 ++ [[]]).length 24) (l : Nat) : Vd Try.prog l (.yl 50030) [v0 a0] [(30, .cell false (.v 200260 a3.length)), (50030, .loop [10] 28 [(3, .p 30 [] 0), (9, .fn (.func 31) [] [.p 100020 [] 0, .p 100030 [] 0])] Try_as14_3 Try_bd14_3 14 .ready none 50031), (50031, .dfr true), (100020, .cell false (v0 a1)), (100030, .cell false (vi a2)), (200260, w4 a3)] (vb true) [(30, .cell false (.v 200260 ((a3 ++ [[]]).length))), (50030, .loop [10] 28 [(3, .p 30 [] 0), (9, .fn (.func 31) [] [.p 100020 [] 0, .p 100030 [] 0])] Try_as14_3 Try_bd14_3 14 .ready none 50031), (50031, .dfr true), (100020, .cell false (v0 a1)), (100030, .cell false (vi a2)), (200260, w4 (a3 ++ [[]]))] :=
  valid_round (hn := round_order_Split_3_2_hn) (K := 14) (draw_ok Try_draw) range_ok (lvl := 2) (l := 50030) (args := [v0 a0]) (h := [(30, .cell false (.v 200260 a3.length)), (50030, .loop [10] 28 [(3, .p 30 [] 0), (9, .fn (.func 31) [] [.p 100020 [] 0, .p 100030 [] 0])] Try_as14_3 Try_bd14_3 14 .ready none 50031), (50031, .dfr true), (100020, .cell false (v0 a1)), (100030, .cell false (vi a2)), (200260, w4 a3)]) (h' := [(30, .cell false (.v 200260 ((a3 ++ [[]]).length))), (50030, .loop [10] 28 [(3, .p 30 [] 0), (9, .fn (.func 31) [] [.p 100020 [] 0, .p 100030 [] 0])] Try_as14_3 Try_bd14_3 14 .ready none 50031), (50031, .dfr true), (100020, .cell false (v0 a1)), (100030, .cell false (vi a2)), (200260, w4 (a3 ++ [[]]))]) (out := .ret (vb true)) (O := { nv := [(5001, vi ((a0.length : Nat) : Int)), (10003, .v 200260 ((a3 ++ [[]]).length))], no := [(10003, 200260, w4 (a3 ++ [[]]))], lo := [(6, .exit 2, S7 2 28 [30, 50030, 50031, 100020, 100030, 200260] [(3, .p 30 [] 0), (5, .nils), (11, v0 a0), (12, vi ((a0.length : Nat) : Int)), (13, vi 0), (14, vb false)] [(30, .cell false (.v 200260 a3.length)), (50030, .loop [10] 28 [(3, .p 30 [] 0), (9, .fn (.func 31) [] [.p 100020 [] 0, .p 100030 [] 0])] Try_as14_3 Try_bd14_3 14 .busy none 50031), (50031, .dfr true), (100020, .cell false (v0 a1)), (100030, .cell false (vi a2)), (200260, w4 a3)] true [])] }) (qs := [vi (((a0).map T_api_Op.enc).length : Nat) = vi ((a0.length : Nat) : Int), LoopP round_order_Split_3_2_f6 (S7 2 28 [30, 50030, 50031, 100020, 100030, 200260] [(3, .p 30 [] 0), (5, .nils), (11, v0 a0), (12, vi ((a0.length : Nat) : Int)), (13, vi 0)] [(30, .cell false (.v 200260 a3.length)), (50030, .loop [10] 28 [(3, .p 30 [] 0), (9, .fn (.func 31) [] [.p 100020 [] 0, .p 100030 [] 0])] Try_as14_3 Try_bd14_3 14 .busy none 50031), (50031, .dfr true), (100020, .cell false (v0 a1)), (100030, .cell false (vi a2)), (200260, w4 a3)] true []) (.exit 2) (S7 2 28 [30, 50030, 50031, 100020, 100030, 200260] [(3, .p 30 [] 0), (5, .nils), (11, v0 a0), (12, vi ((a0.length : Nat) : Int)), (13, vi 0), (14, vb false)] [(30, .cell false (.v 200260 a3.length)), (50030, .loop [10] 28 [(3, .p 30 [] 0), (9, .fn (.func 31) [] [.p 100020 [] 0, .p 100030 [] 0])] Try_as14_3 Try_bd14_3 14 .busy none 50031), (50031, .dfr true), (100020, .cell false (v0 a1)), (100030, .cell false (vi a2)), (200260, w4 a3)] true []), (p4 a3).len = a3.length, (PV.l 1 ((a3).map (encL 71 T_api_Op.enc) ++ ([[]]).map (encL 71 T_api_Op.enc))).len * 24 ≤ 140737488355328, AObj.vec false 1 (.l 1 ((a3).map (encL 71 T_api_Op.enc) ++ ([[]]).map (encL 71 T_api_Op.enc))) = w4 (a3 ++ [[]]), AV.v 200260 ((a3).map (encL 71 T_api_Op.enc) ++ ([[]]).map (encL 71 T_api_Op.enc)).length = AV.v 200260 ((a3 ++ [[]]).length)]) (by kernel_rfl) (Ac (nv_len _ _) (Ac (round_order_Split_3_2_l6_ok c3) (Ac (len_ok _ _ _) (Ac (len_le2 c4) (Ac (ob_app _ _ _ _ _) (Ac (nv_app _ _ _ _) An)))))) l
theorem round_order_Split_3_2_p1 {N : Nat} {a0 : List T_api_Op} {a1 : List T_api_Op} {a2 : Int} {a3 : List (List T_api_Op)} {z2 : Int × List T_api_Op} (c3 : round_order_Split_3_2_l6 a0 a1 a2 a3 N = some (.inr z2)) (c4 : capOK (a3 ++ [z2.2]).length 24) (l : Nat) : Vd Try.prog l (.yl 50030) [v0 a0] [(30, .cell false (.v 200260 a3.length)), (50030, .loop [10] 28 [(3, .p 30 [] 0), (9, .fn (.func 31) [] [.p 100020 [] 0, .p 100030 [] 0])] Try_as14_3 Try_bd14_3 14 .ready none 50031), (50031, .dfr true), (100020, .cell false (v0 a1)), (100030, .cell false (vi a2)), (200260, w4 a3)] (vb true) [(30, .cell false (.v 200260 ((a3 ++ [z2.2]).length))), (50030, .loop [10] 28 [(3, .p 30 [] 0), (9, .fn (.func 31) [] [.p 100020 [] 0, .p 100030 [] 0])] Try_as14_3 Try_bd14_3 14 .ready none 50031), (50031, .dfr true), (100020, .cell false (v0 a1)), (100030, .cell false (vi a2)), (200260, w4 (a3 ++ [z2.2]))] :=
  valid_round (hn := round_order_Split_3_2_hn) (K := 14) (draw_ok Try_draw) range_ok (lvl := 2) (l := 50030) (args := [v0 a0]) (h := [(30, .cell false (.v 200260 a3.length)), (50030, .loop [10] 28 [(3, .p 30 [] 0), (9, .fn (.func 31) [] [.p 100020 [] 0, .p 100030 [] 0])] Try_as14_3 Try_bd14_3 14 .ready none 50031), (50031, .dfr true), (100020, .cell false (v0 a1)), (100030, .cell false (vi a2)), (200260, w4 a3)]) (h' := [(30, .cell false (.v 200260 ((a3 ++ [z2.2]).length))), (50030, .loop [10] 28 [(3, .p 30 [] 0), (9, .fn (.func 31) [] [.p 100020 [] 0, .p 100030 [] 0])] Try_as14_3 Try_bd14_3 14 .ready none 50031), (50031, .dfr true), (100020, .cell false (v0 a1)), (100030, .cell false (vi a2)), (200260, w4 (a3 ++ [z2.2]))]) (out := .ret (vb true)) (O := { nv := [(5001, vi ((a0.length : Nat) : Int)), (10003, .v 200260 ((a3 ++ [z2.2]).length))], no := [(10003, 200260, w4 (a3 ++ [z2.2]))], lo := [(6, .exit 2, S7 2 28 [30, 50030, 50031, 100020, 100030, 200260] [(3, .p 30 [] 0), (5, .v 200210 z2.2.length), (11, v0 a0), (12, vi ((a0.length : Nat) : Int)), (13, vi z2.1), (14, vb false)] [(30, .cell false (.v 200260 a3.length)), (50030, .loop [10] 28 [(3, .p 30 [] 0), (9, .fn (.func 31) [] [.p 100020 [] 0, .p 100030 [] 0])] Try_as14_3 Try_bd14_3 14 .busy none 50031), (50031, .dfr true), (100020, .cell false (v0 a1)), (100030, .cell false (vi a2)), (200210, w0 z2.2), (200260, w4 a3)] true [])] }) (qs := [vi (((a0).map T_api_Op.enc).length : Nat) = vi ((a0.length : Nat) : Int), LoopP round_order_Split_3_2_f6 (S7 2 28 [30, 50030, 50031, 100020, 100030, 200260] [(3, .p 30 [] 0), (5, .nils), (11, v0 a0), (12, vi ((a0.length : Nat) : Int)), (13, vi 0)] [(30, .cell false (.v 200260 a3.length)), (50030, .loop [10] 28 [(3, .p 30 [] 0), (9, .fn (.func 31) [] [.p 100020 [] 0, .p 100030 [] 0])] Try_as14_3 Try_bd14_3 14 .busy none 50031), (50031, .dfr true), (100020, .cell false (v0 a1)), (100030, .cell false (vi a2)), (200260, w4 a3)] true []) (.exit 2) (S7 2 28 [30, 50030, 50031, 100020, 100030, 200260] [(3, .p 30 [] 0), (5, .v 200210 z2.2.length), (11, v0 a0), (12, vi ((a0.length : Nat) : Int)), (13, vi z2.1), (14, vb false)] [(30, .cell false (.v 200260 a3.length)), (50030, .loop [10] 28 [(3, .p 30 [] 0), (9, .fn (.func 31) [] [.p 100020 [] 0, .p 100030 [] 0])] Try_as14_3 Try_bd14_3 14 .busy none 50031), (50031, .dfr true), (100020, .cell false (v0 a1)), (100030, .cell false (vi a2)), (200210, w0 z2.2), (200260, w4 a3)] true []), (p0 z2.2).len = z2.2.length, (p4 a3).len = a3.length, (PV.l 1 ((a3).map (encL 71 T_api_Op.enc) ++ ([z2.2]).map (encL 71 T_api_Op.enc))).len * 24 ≤ 140737488355328, AObj.vec false 1 (.l 1 ((a3).map (encL 71 T_api_Op.enc) ++ ([z2.2]).map (encL 71 T_api_Op.enc))) = w4 (a3 ++ [z2.2]), AV.v 200260 ((a3).map (encL 71 T_api_Op.enc) ++ ([z2.2]).map (encL 71 T_api_Op.enc)).length = AV.v 200260 ((a3 ++ [z2.2]).length)]) (by kernel_rfl) (Ac (nv_len _ _) (Ac (round_order_Split_3_2_l6_ok c3) (Ac (len_ok _ _ _) (Ac (len_ok _ _ _) (Ac (len_le2 c4) (Ac (ob_app _ _ _ _ _) (Ac (nv_app _ _ _ _) An))))))) l
theorem round_order_Split_3_2_valid {N : Nat} {a0 : List T_api_Op} {a1 : List T_api_Op} {a2 : Int} {a3 : List (List T_api_Op)} {z : List (List T_api_Op)} (h : round_order_Split_3_2 N a0 a1 a2 a3 = some z) (l : Nat) : Vd Try.prog l (.yl 50030) [v0 a0] [(30, .cell false (.v 200260 a3.length)), (50030, .loop [10] 28 [(3, .p 30 [] 0), (9, .fn (.func 31) [] [.p 100020 [] 0, .p 100030 [] 0])] Try_as14_3 Try_bd14_3 14 .ready none 50031), (50031, .dfr true), (100020, .cell false (v0 a1)), (100030, .cell false (vi a2)), (200260, w4 a3)] (vb true) [(30, .cell false (.v 200260 z.length)), (50030, .loop [10] 28 [(3, .p 30 [] 0), (9, .fn (.func 31) [] [.p 100020 [] 0, .p 100030 [] 0])] Try_as14_3 Try_bd14_3 14 .ready none 50031), (50031, .dfr true), (100020, .cell false (v0 a1)), (100030, .cell false (vi a2)), (200260, w4 z)] := by
  unfold round_order_Split_3_2 at h
  obtain ⟨z1, c3, h⟩ := bind_some h
  rcases z1 with z2 | z2 <;> dsimp only at h
  · obtain ⟨c4, h⟩ := chk_some h
    obtain rfl := Option.some.inj h
    exact round_order_Split_3_2_p0 c3 c4 l
  · obtain ⟨c4, h⟩ := chk_some h
    obtain rfl := Option.some.inj h
    exact round_order_Split_3_2_p1 c3 c4 l
def slices_Chunk_api_Op_api_Op_1_hn : Hint where
  live := fun _ r => match r with
    | 0 => [0, 1, 2, 4]
    | 1 => [0, 1, 2, 4, 9]
    | 2 => [0, 1, 2, 4]
    | 3 => [0, 1, 2, 4, 5]
    | 4 => [0, 1, 2, 4, 30]
    | _ => []
  esc := fun _ => false
  raw := fun k => false
  fresh := fun _ d => Nat.beq d 29
  vecs := fun _ d => false
noncomputable def slices_Chunk_api_Op_api_Op_1_f1 := codeO Try.prog slices_Chunk_api_Op_api_Op_1_hn (Valid Try.prog) 31 Try_c31_1
def slices_Chunk_api_Op_api_Op_1_l1_e : Unit ⊕ (Int × List (List T_api_Op)) → Ex
  | .inl _ => .exit 0
  | .inr _ => .exit 0
noncomputable def slices_Chunk_api_Op_api_Op_1_l1_s (a0 : List T_api_Op) (a1 : Int) : Unit ⊕ (Int × List (List T_api_Op)) → St
  | .inl z => S5 1 31 [30, 50030, 50031, 100020, 100030] [(0, .yl 50030), (1, .p 100020 [] 0), (2, .p 100030 [] 0), (4, vi 0), (9, vb false)] [(30, .cell false (.nils)), (50030, .loop [10] 28 [(3, .p 30 [] 0), (9, .fn (.func 31) [] [.p 100020 [] 0, .p 100030 [] 0])] Try_as14_3 Try_bd14_3 14 .ready none 50031), (50031, .dfr true), (100020, .cell false (v0 a0)), (100030, .cell false (vi a1))]
  | .inr z => S5 1 31 [30, 50030, 50031, 100020, 100030] [(0, .yl 50030), (1, .p 100020 [] 0), (2, .p 100030 [] 0), (4, vi z.1), (9, vb false)] [(30, .cell false (.v 200260 z.2.length)), (50030, .loop [10] 28 [(3, .p 30 [] 0), (9, .fn (.func 31) [] [.p 100020 [] 0, .p 100030 [] 0])] Try_as14_3 Try_bd14_3 14 .ready none 50031), (50031, .dfr true), (100020, .cell false (v0 a0)), (100030, .cell false (vi a1)), (200260, w4 z.2)]
noncomputable def slices_Chunk_api_Op_api_Op_1_l1_s1_h (a0 : List T_api_Op) (a1 : Int) (s4_1 : Int) (o200260_1 : List (List T_api_Op)) : St := S5 1 31 [30, 50030, 50031, 100020, 100030] [(0, .yl 50030), (1, .p 100020 [] 0), (2, .p 100030 [] 0), (4, vi s4_1)] [(30, .cell false (.v 200260 o200260_1.length)), (50030, .loop [10] 28 [(3, .p 30 [] 0), (9, .fn (.func 31) [] [.p 100020 [] 0, .p 100030 [] 0])] Try_as14_3 Try_bd14_3 14 .ready none 50031), (50031, .dfr true), (100020, .cell false (v0 a0)), (100030, .cell false (vi a1)), (200260, w4 o200260_1)]
def slices_Chunk_api_Op_api_Op_1_l1_s1_f (a0 : List T_api_Op) (a1 : Int) (N : Nat) (ih : Int → List (List T_api_Op) → Option (Unit ⊕ (Int × List (List T_api_Op)))) (s4_1 : Int) (o200260_1 : List (List T_api_Op)) : Option (Unit ⊕ (Int × List (List T_api_Op))) :=
    cond (decide (s4_1 < ((a0.length : Nat) : Int))) (
      chk (0 ≤ s4_1 ∧ s4_1 ≤ ((a0.length : Nat) : Int) ∧ ((a0.length : Nat) : Int) ≤ ((a0.length : Nat) : Int)) <|
      chk (in64 (s4_1 + (if (((a0.drop s4_1.toNat).length : Nat) : Int) < a1 then (((a0.drop s4_1.toNat).length : Nat) : Int) else a1))) <|
      chk (in64 (s4_1 + (if (((a0.drop s4_1.toNat).length : Nat) : Int) < a1 then (((a0.drop s4_1.toNat).length : Nat) : Int) else a1))) <|
      chk (0 ≤ s4_1 ∧ s4_1 ≤ (s4_1 + (if (((a0.drop s4_1.toNat).length : Nat) : Int) < a1 then (((a0.drop s4_1.toNat).length : Nat) : Int) else a1)) ∧ (s4_1 + (if (((a0.drop s4_1.toNat).length : Nat) : Int) < a1 then (((a0.drop s4_1.toNat).length : Nat) : Int) else a1)) ≤ ((a0.length : Nat) : Int)) <|
      chk ((s4_1 + (if (((a0.drop s4_1.toNat).length : Nat) : Int) < a1 then (((a0.drop s4_1.toNat).length : Nat) : Int) else a1)) ≤ (s4_1 + (if (((a0.drop s4_1.toNat).length : Nat) : Int) < a1 then (((a0.drop s4_1.toNat).length : Nat) : Int) else a1)) ∧ (s4_1 + (if (((a0.drop s4_1.toNat).length : Nat) : Int) < a1 then (((a0.drop s4_1.toNat).length : Nat) : Int) else a1)) ≤ ((a0.length : Nat) : Int)) <|
      (round_order_Split_3_2 N ((a0.take ((s4_1 + (if (((a0.drop s4_1.toNat).length : Nat) : Int) < a1 then (((a0.drop s4_1.toNat).length : Nat) : Int) else a1)).toNat)).drop s4_1.toNat) a0 a1 o200260_1).bind fun r7 =>
      chk (in64 (s4_1 + a1)) <|
      ih (s4_1 + a1) r7) (
      some (.inr ((s4_1, o200260_1))))
def slices_Chunk_api_Op_api_Op_1_l1_s1 (a0 : List T_api_Op) (a1 : Int) : Nat → Int → List (List T_api_Op) → Option (Unit ⊕ (Int × List (List T_api_Op)))
  | 0 => fun _ _ => none
  | N + 1 => slices_Chunk_api_Op_api_Op_1_l1_s1_f a0 a1 N (slices_Chunk_api_Op_api_Op_1_l1_s1 a0 a1 N)
theorem slices_Chunk_api_Op_api_Op_1_l1_s1_p0 {N : Nat} {a0 : List T_api_Op} {a1 : Int} {s4_1 : Int} {o200260_1 : List (List T_api_Op)} {r7 : List (List T_api_Op)} (c1 : (decide (s4_1 < ((a0.length : Nat) : Int))) = true) (c2 : 0 ≤ s4_1 ∧ s4_1 ≤ ((a0.length : Nat) : Int) ∧ ((a0.length : Nat) : Int) ≤ ((a0.length : Nat) : Int)) (c3 : in64 (s4_1 + (if (((a0.drop s4_1.toNat).length : Nat) : Int) < a1 then (((a0.drop s4_1.toNat).length : Nat) : Int) else a1))) (c4 : in64 (s4_1 + (if (((a0.drop s4_1.toNat).length : Nat) : Int) < a1 then (((a0.drop s4_1.toNat).length : Nat) : Int) else a1))) (c5 : 0 ≤ s4_1 ∧ s4_1 ≤ (s4_1 + (if (((a0.drop s4_1.toNat).length : Nat) : Int) < a1 then (((a0.drop s4_1.toNat).length : Nat) : Int) else a1)) ∧ (s4_1 + (if (((a0.drop s4_1.toNat).length : Nat) : Int) < a1 then (((a0.drop s4_1.toNat).length : Nat) : Int) else a1)) ≤ ((a0.length : Nat) : Int)) (c6 : (s4_1 + (if (((a0.drop s4_1.toNat).length : Nat) : Int) < a1 then (((a0.drop s4_1.toNat).length : Nat) : Int) else a1)) ≤ (s4_1 + (if (((a0.drop s4_1.toNat).length : Nat) : Int) < a1 then (((a0.drop s4_1.toNat).length : Nat) : Int) else a1)) ∧ (s4_1 + (if (((a0.drop s4_1.toNat).length : Nat) : Int) < a1 then (((a0.drop s4_1.toNat).length : Nat) : Int) else a1)) ≤ ((a0.length : Nat) : Int)) (c8 : round_order_Split_3_2 N ((a0.take ((s4_1 + (if (((a0.drop s4_1.toNat).length : Nat) : Int) < a1 then (((a0.drop s4_1.toNat).length : Nat) : Int) else a1)).toNat)).drop s4_1.toNat) a0 a1 o200260_1 = some r7) (c9 : in64 (s4_1 + a1)) : Step slices_Chunk_api_Op_api_Op_1_f1 (slices_Chunk_api_Op_api_Op_1_l1_s1_h a0 a1 s4_1 o200260_1) (.normal) (S5 1 31 [30, 50030, 50031, 100020, 100030] [(0, .yl 50030), (1, .p 100020 [] 0), (2, .p 100030 [] 0), (4, vi (s4_1 + a1))] [(30, .cell false (.v 200260 r7.length)), (50030, .loop [10] 28 [(3, .p 30 [] 0), (9, .fn (.func 31) [] [.p 100020 [] 0, .p 100030 [] 0])] Try_as14_3 Try_bd14_3 14 .ready none 50031), (50031, .dfr true), (100020, .cell false (v0 a0)), (100030, .cell false (vi a1)), (200260, w4 r7)]) :=
  ⟨{ an := [(4010, .call (.ret (vb true)) [(30, .cell false (.v 200260 r7.length)), (50030, .loop [10] 28 [(3, .p 30 [] 0), (9, .fn (.func 31) [] [.p 100020 [] 0, .p 100030 [] 0])] Try_as14_3 Try_bd14_3 14 .ready none 50031), (50031, .dfr true), (100020, .cell false (v0 a0)), (100030, .cell false (vi a1)), (200260, w4 r7)])], nv := [(1002, vi ((a0.length : Nat) : Int)), (1003, vb true), (3003, v0 (a0.drop s4_1.toNat)), (3004, vi (((a0.drop s4_1.toNat).length : Nat) : Int)), (4005, vi (s4_1 + (if (((a0.drop s4_1.toNat).length : Nat) : Int) < a1 then (((a0.drop s4_1.toNat).length : Nat) : Int) else a1))), (4008, vi (s4_1 + (if (((a0.drop s4_1.toNat).length : Nat) : Int) < a1 then (((a0.drop s4_1.toNat).length : Nat) : Int) else a1))), (4009, v0 ((a0.take ((s4_1 + (if (((a0.drop s4_1.toNat).length : Nat) : Int) < a1 then (((a0.drop s4_1.toNat).length : Nat) : Int) else a1)).toNat)).drop s4_1.toNat)), (2002, vi (s4_1 + a1))] }, [vi (((a0).map T_api_Op.enc).length : Nat) = vi ((a0.length : Nat) : Int), EB (decide (s4_1 < ((a0.length : Nat) : Int))) true, 0 ≤ s4_1 ∧ s4_1 ≤ (((p0 a0).len : Nat) : Int) ∧ (((p0 a0).len : Nat) : Int) ≤ (((p0 a0).len : Nat) : Int), AV.pv ((p0 a0).sub s4_1.toNat (((p0 a0).len : Nat) : Int).toNat) = v0 (a0.drop s4_1.toNat), vi (((a0.drop s4_1.toNat).map T_api_Op.enc).length : Nat) = vi (((a0.drop s4_1.toNat).length : Nat) : Int), EW (s4_1 + (if (((a0.drop s4_1.toNat).length : Nat) : Int) < a1 then (((a0.drop s4_1.toNat).length : Nat) : Int) else a1)), EW (s4_1 + (if (((a0.drop s4_1.toNat).length : Nat) : Int) < a1 then (((a0.drop s4_1.toNat).length : Nat) : Int) else a1)), 0 ≤ s4_1 ∧ s4_1 ≤ (s4_1 + (if (((a0.drop s4_1.toNat).length : Nat) : Int) < a1 then (((a0.drop s4_1.toNat).length : Nat) : Int) else a1)) ∧ (s4_1 + (if (((a0.drop s4_1.toNat).length : Nat) : Int) < a1 then (((a0.drop s4_1.toNat).length : Nat) : Int) else a1)) ≤ (((p0 a0).len : Nat) : Int), (((s4_1 + (if (((a0.drop s4_1.toNat).length : Nat) : Int) < a1 then (((a0.drop s4_1.toNat).length : Nat) : Int) else a1)).toNat : Nat) : Int) ≤ (s4_1 + (if (((a0.drop s4_1.toNat).length : Nat) : Int) < a1 then (((a0.drop s4_1.toNat).length : Nat) : Int) else a1)) ∧ (s4_1 + (if (((a0.drop s4_1.toNat).length : Nat) : Int) < a1 then (((a0.drop s4_1.toNat).length : Nat) : Int) else a1)) ≤ (((p0 a0).len : Nat) : Int), AV.pv ((p0 a0).sub s4_1.toNat ((s4_1 + (if (((a0.drop s4_1.toNat).length : Nat) : Int) < a1 then (((a0.drop s4_1.toNat).length : Nat) : Int) else a1)).toNat)) = v0 ((a0.take ((s4_1 + (if (((a0.drop s4_1.toNat).length : Nat) : Int) < a1 then (((a0.drop s4_1.toNat).length : Nat) : Int) else a1)).toNat)).drop s4_1.toNat), Vd Try.prog 1 (.yl 50030) [v0 ((a0.take ((s4_1 + (if (((a0.drop s4_1.toNat).length : Nat) : Int) < a1 then (((a0.drop s4_1.toNat).length : Nat) : Int) else a1)).toNat)).drop s4_1.toNat)] [(30, .cell false (.v 200260 o200260_1.length)), (50030, .loop [10] 28 [(3, .p 30 [] 0), (9, .fn (.func 31) [] [.p 100020 [] 0, .p 100030 [] 0])] Try_as14_3 Try_bd14_3 14 .ready none 50031), (50031, .dfr true), (100020, .cell false (v0 a0)), (100030, .cell false (vi a1)), (200260, w4 o200260_1)] (vb true) [(30, .cell false (.v 200260 r7.length)), (50030, .loop [10] 28 [(3, .p 30 [] 0), (9, .fn (.func 31) [] [.p 100020 [] 0, .p 100030 [] 0])] Try_as14_3 Try_bd14_3 14 .ready none 50031), (50031, .dfr true), (100020, .cell false (v0 a0)), (100030, .cell false (vi a1)), (200260, w4 r7)], EW (s4_1 + a1)], by kernel_rfl, (Ac (nv_len _ _) (Ac (nv_b c1) (Ac (bounds_ok2 c2) (Ac (nv_sub2 _ _ _ _) (Ac (by simp) (Ac (nv_wrap c3) (Ac (nv_wrap c4) (Ac (bounds_ok c5) (Ac (slice3_ok c5 c6) (Ac (nv_sub _ _ _ _ _) (Ac (round_order_Split_3_2_valid c8 _) (Ac (nv_wrap c9) An))))))))))))⟩
theorem slices_Chunk_api_Op_api_Op_1_l1_s1_p1 {a0 : List T_api_Op} {a1 : Int} {s4_1 : Int} {o200260_1 : List (List T_api_Op)} (c1 : (decide (s4_1 < ((a0.length : Nat) : Int))) = false) : Step slices_Chunk_api_Op_api_Op_1_f1 (slices_Chunk_api_Op_api_Op_1_l1_s1_h a0 a1 s4_1 o200260_1) (.exit 0) (S5 1 31 [30, 50030, 50031, 100020, 100030] [(0, .yl 50030), (1, .p 100020 [] 0), (2, .p 100030 [] 0), (4, vi s4_1), (9, vb false)] [(30, .cell false (.v 200260 o200260_1.length)), (50030, .loop [10] 28 [(3, .p 30 [] 0), (9, .fn (.func 31) [] [.p 100020 [] 0, .p 100030 [] 0])] Try_as14_3 Try_bd14_3 14 .ready none 50031), (50031, .dfr true), (100020, .cell false (v0 a0)), (100030, .cell false (vi a1)), (200260, w4 o200260_1)]) :=
  ⟨{ nv := [(1002, vi ((a0.length : Nat) : Int)), (1003, vb false)] }, [vi (((a0).map T_api_Op.enc).length : Nat) = vi ((a0.length : Nat) : Int), EB (decide (s4_1 < ((a0.length : Nat) : Int))) false], by kernel_rfl, (Ac (nv_len _ _) (Ac (nv_b c1) An))⟩
theorem slices_Chunk_api_Op_api_Op_1_l1_s1_ok {a0 : List T_api_Op} {a1 : Int} : ∀ {N : Nat} {s4_1 : Int} {o200260_1 : List (List T_api_Op)} {z : Unit ⊕ (Int × List (List T_api_Op))}, slices_Chunk_api_Op_api_Op_1_l1_s1 a0 a1 N s4_1 o200260_1 = some z → LoopP slices_Chunk_api_Op_api_Op_1_f1 (slices_Chunk_api_Op_api_Op_1_l1_s1_h a0 a1 s4_1 o200260_1) (slices_Chunk_api_Op_api_Op_1_l1_e z) (slices_Chunk_api_Op_api_Op_1_l1_s a0 a1 z) := by
  intro N
  induction N with
  | zero => intro s4_1 o200260_1 z h; simp [slices_Chunk_api_Op_api_Op_1_l1_s1] at h
  | succ N ih =>
    intro s4_1 o200260_1 z h
    change slices_Chunk_api_Op_api_Op_1_l1_s1_f a0 a1 N (slices_Chunk_api_Op_api_Op_1_l1_s1 a0 a1 N) s4_1 o200260_1 = some z at h
    unfold slices_Chunk_api_Op_api_Op_1_l1_s1_f at h
    rcases cond_some h with ⟨c1, h⟩ | ⟨c1, h⟩
    · obtain ⟨c2, h⟩ := chk_some h
      obtain ⟨c3, h⟩ := chk_some h
      obtain ⟨c4, h⟩ := chk_some h
      obtain ⟨c5, h⟩ := chk_some h
      obtain ⟨c6, h⟩ := chk_some h
      obtain ⟨r7, c8, h⟩ := bind_some h
      obtain ⟨c9, h⟩ := chk_some h
      exact Step.next (slices_Chunk_api_Op_api_Op_1_l1_s1_p0 c1 c2 c3 c4 c5 c6 c8 c9) (ih h)
    · obtain rfl := Option.some.inj h
      exact Step.exit (slices_Chunk_api_Op_api_Op_1_l1_s1_p1 c1)
noncomputable def slices_Chunk_api_Op_api_Op_1_l1_h (a0 : List T_api_Op) (a1 : Int)  : St := S5 1 31 [30, 50030, 50031, 100020, 100030] [(0, .yl 50030), (1, .p 100020 [] 0), (2, .p 100030 [] 0), (4, vi 0)] [(30, .cell false (.nils)), (50030, .loop [10] 28 [(3, .p 30 [] 0), (9, .fn (.func 31) [] [.p 100020 [] 0, .p 100030 [] 0])] Try_as14_3 Try_bd14_3 14 .ready none 50031), (50031, .dfr true), (100020, .cell false (v0 a0)), (100030, .cell false (vi a1))]
def slices_Chunk_api_Op_api_Op_1_l1_f (a0 : List T_api_Op) (a1 : Int) (N : Nat) (ih : Option (Unit ⊕ (Int × List (List T_api_Op))))  : Option (Unit ⊕ (Int × List (List T_api_Op))) :=
    cond (decide (0 < ((a0.length : Nat) : Int))) (
      chk (0 ≤ (0 : Int) ∧ (0 : Int) ≤ ((a0.length : Nat) : Int) ∧ ((a0.length : Nat) : Int) ≤ ((a0.length : Nat) : Int)) <|
      chk (in64 (0 + (if (((a0.drop 0).length : Nat) : Int) < a1 then (((a0.drop 0).length : Nat) : Int) else a1))) <|
      chk (in64 (0 + (if (((a0.drop 0).length : Nat) : Int) < a1 then (((a0.drop 0).length : Nat) : Int) else a1))) <|
      chk (0 ≤ (0 : Int) ∧ (0 : Int) ≤ (0 + (if (((a0.drop 0).length : Nat) : Int) < a1 then (((a0.drop 0).length : Nat) : Int) else a1)) ∧ (0 + (if (((a0.drop 0).length : Nat) : Int) < a1 then (((a0.drop 0).length : Nat) : Int) else a1)) ≤ ((a0.length : Nat) : Int)) <|
      chk ((0 + (if (((a0.drop 0).length : Nat) : Int) < a1 then (((a0.drop 0).length : Nat) : Int) else a1)) ≤ (0 + (if (((a0.drop 0).length : Nat) : Int) < a1 then (((a0.drop 0).length : Nat) : Int) else a1)) ∧ (0 + (if (((a0.drop 0).length : Nat) : Int) < a1 then (((a0.drop 0).length : Nat) : Int) else a1)) ≤ ((a0.length : Nat) : Int)) <|
      (round_order_Split_3 N ((a0.take ((0 + (if (((a0.drop 0).length : Nat) : Int) < a1 then (((a0.drop 0).length : Nat) : Int) else a1)).toNat)).drop 0) a0 a1).bind fun r7 =>
      chk (in64 (0 + a1)) <|
      slices_Chunk_api_Op_api_Op_1_l1_s1 a0 a1 N (0 + a1) r7) (
      some (.inl ()))
def slices_Chunk_api_Op_api_Op_1_l1 (a0 : List T_api_Op) (a1 : Int) : Nat → Option (Unit ⊕ (Int × List (List T_api_Op)))
  | 0 => none
  | N + 1 => slices_Chunk_api_Op_api_Op_1_l1_f a0 a1 N (slices_Chunk_api_Op_api_Op_1_l1 a0 a1 N)
theorem slices_Chunk_api_Op_api_Op_1_l1_p0 {N : Nat} {a0 : List T_api_Op} {a1 : Int} {r7 : List (List T_api_Op)} (c1 : (decide (0 < ((a0.length : Nat) : Int))) = true) (c2 : 0 ≤ (0 : Int) ∧ (0 : Int) ≤ ((a0.length : Nat) : Int) ∧ ((a0.length : Nat) : Int) ≤ ((a0.length : Nat) : Int)) (c3 : in64 (0 + (if (((a0.drop 0).length : Nat) : Int) < a1 then (((a0.drop 0).length : Nat) : Int) else a1))) (c4 : in64 (0 + (if (((a0.drop 0).length : Nat) : Int) < a1 then (((a0.drop 0).length : Nat) : Int) else a1))) (c5 : 0 ≤ (0 : Int) ∧ (0 : Int) ≤ (0 + (if (((a0.drop 0).length : Nat) : Int) < a1 then (((a0.drop 0).length : Nat) : Int) else a1)) ∧ (0 + (if (((a0.drop 0).length : Nat) : Int) < a1 then (((a0.drop 0).length : Nat) : Int) else a1)) ≤ ((a0.length : Nat) : Int)) (c6 : (0 + (if (((a0.drop 0).length : Nat) : Int) < a1 then (((a0.drop 0).length : Nat) : Int) else a1)) ≤ (0 + (if (((a0.drop 0).length : Nat) : Int) < a1 then (((a0.drop 0).length : Nat) : Int) else a1)) ∧ (0 + (if (((a0.drop 0).length : Nat) : Int) < a1 then (((a0.drop 0).length : Nat) : Int) else a1)) ≤ ((a0.length : Nat) : Int)) (c8 : round_order_Split_3 N ((a0.take ((0 + (if (((a0.drop 0).length : Nat) : Int) < a1 then (((a0.drop 0).length : Nat) : Int) else a1)).toNat)).drop 0) a0 a1 = some r7) (c9 : in64 (0 + a1)) : Step slices_Chunk_api_Op_api_Op_1_f1 (slices_Chunk_api_Op_api_Op_1_l1_h a0 a1 ) (.normal) (S5 1 31 [30, 50030, 50031, 100020, 100030] [(0, .yl 50030), (1, .p 100020 [] 0), (2, .p 100030 [] 0), (4, vi (0 + a1))] [(30, .cell false (.v 200260 r7.length)), (50030, .loop [10] 28 [(3, .p 30 [] 0), (9, .fn (.func 31) [] [.p 100020 [] 0, .p 100030 [] 0])] Try_as14_3 Try_bd14_3 14 .ready none 50031), (50031, .dfr true), (100020, .cell false (v0 a0)), (100030, .cell false (vi a1)), (200260, w4 r7)]) :=
  ⟨{ an := [(4010, .call (.ret (vb true)) [(30, .cell false (.v 200260 r7.length)), (50030, .loop [10] 28 [(3, .p 30 [] 0), (9, .fn (.func 31) [] [.p 100020 [] 0, .p 100030 [] 0])] Try_as14_3 Try_bd14_3 14 .ready none 50031), (50031, .dfr true), (100020, .cell false (v0 a0)), (100030, .cell false (vi a1)), (200260, w4 r7)])], nv := [(1002, vi ((a0.length : Nat) : Int)), (1003, vb true), (3003, v0 (a0.drop 0)), (3004, vi (((a0.drop 0).length : Nat) : Int)), (4005, vi (0 + (if (((a0.drop 0).length : Nat) : Int) < a1 then (((a0.drop 0).length : Nat) : Int) else a1))), (4008, vi (0 + (if (((a0.drop 0).length : Nat) : Int) < a1 then (((a0.drop 0).length : Nat) : Int) else a1))), (4009, v0 ((a0.take ((0 + (if (((a0.drop 0).length : Nat) : Int) < a1 then (((a0.drop 0).length : Nat) : Int) else a1)).toNat)).drop 0)), (2002, vi (0 + a1))] }, [vi (((a0).map T_api_Op.enc).length : Nat) = vi ((a0.length : Nat) : Int), EB (decide (0 < ((a0.length : Nat) : Int))) true, 0 ≤ (0 : Int) ∧ (0 : Int) ≤ (((p0 a0).len : Nat) : Int) ∧ (((p0 a0).len : Nat) : Int) ≤ (((p0 a0).len : Nat) : Int), AV.pv ((p0 a0).sub 0 (((p0 a0).len : Nat) : Int).toNat) = v0 (a0.drop 0), vi (((a0.drop 0).map T_api_Op.enc).length : Nat) = vi (((a0.drop 0).length : Nat) : Int), EW (0 + (if (((a0.drop 0).length : Nat) : Int) < a1 then (((a0.drop 0).length : Nat) : Int) else a1)), EW (0 + (if (((a0.drop 0).length : Nat) : Int) < a1 then (((a0.drop 0).length : Nat) : Int) else a1)), 0 ≤ (0 : Int) ∧ (0 : Int) ≤ (0 + (if (((a0.drop 0).length : Nat) : Int) < a1 then (((a0.drop 0).length : Nat) : Int) else a1)) ∧ (0 + (if (((a0.drop 0).length : Nat) : Int) < a1 then (((a0.drop 0).length : Nat) : Int) else a1)) ≤ (((p0 a0).len : Nat) : Int), (((0 + (if (((a0.drop 0).length : Nat) : Int) < a1 then (((a0.drop 0).length : Nat) : Int) else a1)).toNat : Nat) : Int) ≤ (0 + (if (((a0.drop 0).length : Nat) : Int) < a1 then (((a0.drop 0).length : Nat) : Int) else a1)) ∧ (0 + (if (((a0.drop 0).length : Nat) : Int) < a1 then (((a0.drop 0).length : Nat) : Int) else a1)) ≤ (((p0 a0).len : Nat) : Int), AV.pv ((p0 a0).sub 0 ((0 + (if (((a0.drop 0).length : Nat) : Int) < a1 then (((a0.drop 0).length : Nat) : Int) else a1)).toNat)) = v0 ((a0.take ((0 + (if (((a0.drop 0).length : Nat) : Int) < a1 then (((a0.drop 0).length : Nat) : Int) else a1)).toNat)).drop 0), Vd Try.prog 1 (.yl 50030) [v0 ((a0.take ((0 + (if (((a0.drop 0).length : Nat) : Int) < a1 then (((a0.drop 0).length : Nat) : Int) else a1)).toNat)).drop 0)] [(30, .cell false (.nils)), (50030, .loop [10] 28 [(3, .p 30 [] 0), (9, .fn (.func 31) [] [.p 100020 [] 0, .p 100030 [] 0])] Try_as14_3 Try_bd14_3 14 .ready none 50031), (50031, .dfr true), (100020, .cell false (v0 a0)), (100030, .cell false (vi a1))] (vb true) [(30, .cell false (.v 200260 r7.length)), (50030, .loop [10] 28 [(3, .p 30 [] 0), (9, .fn (.func 31) [] [.p 100020 [] 0, .p 100030 [] 0])] Try_as14_3 Try_bd14_3 14 .ready none 50031), (50031, .dfr true), (100020, .cell false (v0 a0)), (100030, .cell false (vi a1)), (200260, w4 r7)], EW (0 + a1)], by kernel_rfl, (Ac (nv_len _ _) (Ac (nv_b c1) (Ac (bounds_ok2 c2) (Ac (nv_sub2 _ _ _ _) (Ac (by simp) (Ac (nv_wrap c3) (Ac (nv_wrap c4) (Ac (bounds_ok c5) (Ac (slice3_ok c5 c6) (Ac (nv_sub _ _ _ _ _) (Ac (round_order_Split_3_valid c8 _) (Ac (nv_wrap c9) An))))))))))))⟩
theorem slices_Chunk_api_Op_api_Op_1_l1_p1 {a0 : List T_api_Op} {a1 : Int} (c1 : (decide (0 < ((a0.length : Nat) : Int))) = false) : Step slices_Chunk_api_Op_api_Op_1_f1 (slices_Chunk_api_Op_api_Op_1_l1_h a0 a1 ) (.exit 0) (S5 1 31 [30, 50030, 50031, 100020, 100030] [(0, .yl 50030), (1, .p 100020 [] 0), (2, .p 100030 [] 0), (4, vi 0), (9, vb false)] [(30, .cell false (.nils)), (50030, .loop [10] 28 [(3, .p 30 [] 0), (9, .fn (.func 31) [] [.p 100020 [] 0, .p 100030 [] 0])] Try_as14_3 Try_bd14_3 14 .ready none 50031), (50031, .dfr true), (100020, .cell false (v0 a0)), (100030, .cell false (vi a1))]) :=
  ⟨{ nv := [(1002, vi ((a0.length : Nat) : Int)), (1003, vb false)] }, [vi (((a0).map T_api_Op.enc).length : Nat) = vi ((a0.length : Nat) : Int), EB (decide (0 < ((a0.length : Nat) : Int))) false], by kernel_rfl, (Ac (nv_len _ _) (Ac (nv_b c1) An))⟩
theorem slices_Chunk_api_Op_api_Op_1_l1_ok {a0 : List T_api_Op} {a1 : Int} : ∀ {N : Nat}  {z : Unit ⊕ (Int × List (List T_api_Op))}, slices_Chunk_api_Op_api_Op_1_l1 a0 a1 N  = some z → LoopP slices_Chunk_api_Op_api_Op_1_f1 (slices_Chunk_api_Op_api_Op_1_l1_h a0 a1 ) (slices_Chunk_api_Op_api_Op_1_l1_e z) (slices_Chunk_api_Op_api_Op_1_l1_s a0 a1 z) := by
  intro N
  induction N with
  | zero => intro  z h; simp [slices_Chunk_api_Op_api_Op_1_l1] at h
  | succ N ih =>
    intro  z h
    change slices_Chunk_api_Op_api_Op_1_l1_f a0 a1 N (slices_Chunk_api_Op_api_Op_1_l1 a0 a1 N)  = some z at h
    unfold slices_Chunk_api_Op_api_Op_1_l1_f at h
    rcases cond_some h with ⟨c1, h⟩ | ⟨c1, h⟩
    · obtain ⟨c2, h⟩ := chk_some h
      obtain ⟨c3, h⟩ := chk_some h
      obtain ⟨c4, h⟩ := chk_some h
      obtain ⟨c5, h⟩ := chk_some h
      obtain ⟨c6, h⟩ := chk_some h
      obtain ⟨r7, c8, h⟩ := bind_some h
      obtain ⟨c9, h⟩ := chk_some h
      exact Step.next (slices_Chunk_api_Op_api_Op_1_l1_p0 c1 c2 c3 c4 c5 c6 c8 c9) (slices_Chunk_api_Op_api_Op_1_l1_s1_ok h)
    · obtain rfl := Option.some.inj h
      exact Step.exit (slices_Chunk_api_Op_api_Op_1_l1_p1 c1)
def slices_Chunk_api_Op_api_Op_1 (N : Nat) (a0 : List T_api_Op) (a1 : Int) : Option (Unit ⊕ List (List T_api_Op)) :=
  (slices_Chunk_api_Op_api_Op_1_l1 a0 a1 N).bind fun z1 => match z1 with
  | .inl z2 =>
    some (.inl ())
  | .inr z2 =>
    some (.inr z2.2)
theorem slices_Chunk_api_Op_api_Op_1_p0 {N : Nat} {a0 : List T_api_Op} {a1 : Int} {z2 : Unit} (c3 : slices_Chunk_api_Op_api_Op_1_l1 a0 a1 N = some (.inl z2)) (l : Nat) : Vd Try.prog l (.fn (.func 31) [] [.p 100020 [] 0, .p 100030 [] 0]) [.yl 50030] [(30, .cell false (.nils)), (50030, .loop [10] 28 [(3, .p 30 [] 0), (9, .fn (.func 31) [] [.p 100020 [] 0, .p 100030 [] 0])] Try_as14_3 Try_bd14_3 14 .ready none 50031), (50031, .dfr true), (100020, .cell false (v0 a0)), (100030, .cell false (vi a1))] (.tup []) [(30, .cell false (.nils)), (50030, .loop [10] 28 [(3, .p 30 [] 0), (9, .fn (.func 31) [] [.p 100020 [] 0, .p 100030 [] 0])] Try_as14_3 Try_bd14_3 14 .ready none 50031), (50031, .dfr true), (100020, .cell false (v0 a0)), (100030, .cell false (vi a1))] :=
  Try_vf31 (hn := slices_Chunk_api_Op_api_Op_1_hn) (lvl := 0) (O := { lo := [(1, .exit 0, S5 1 31 [30, 50030, 50031, 100020, 100030] [(0, .yl 50030), (1, .p 100020 [] 0), (2, .p 100030 [] 0), (4, vi 0), (9, vb false)] [(30, .cell false (.nils)), (50030, .loop [10] 28 [(3, .p 30 [] 0), (9, .fn (.func 31) [] [.p 100020 [] 0, .p 100030 [] 0])] Try_as14_3 Try_bd14_3 14 .ready none 50031), (50031, .dfr true), (100020, .cell false (v0 a0)), (100030, .cell false (vi a1))])] }) (ps := [LoopP slices_Chunk_api_Op_api_Op_1_f1 (S5 1 31 [30, 50030, 50031, 100020, 100030] [(0, .yl 50030), (1, .p 100020 [] 0), (2, .p 100030 [] 0), (4, vi 0)] [(30, .cell false (.nils)), (50030, .loop [10] 28 [(3, .p 30 [] 0), (9, .fn (.func 31) [] [.p 100020 [] 0, .p 100030 [] 0])] Try_as14_3 Try_bd14_3 14 .ready none 50031), (50031, .dfr true), (100020, .cell false (v0 a0)), (100030, .cell false (vi a1))]) (.exit 0) (S5 1 31 [30, 50030, 50031, 100020, 100030] [(0, .yl 50030), (1, .p 100020 [] 0), (2, .p 100030 [] 0), (4, vi 0), (9, vb false)] [(30, .cell false (.nils)), (50030, .loop [10] 28 [(3, .p 30 [] 0), (9, .fn (.func 31) [] [.p 100020 [] 0, .p 100030 [] 0])] Try_as14_3 Try_bd14_3 14 .ready none 50031), (50031, .dfr true), (100020, .cell false (v0 a0)), (100030, .cell false (vi a1))])]) (by kernel_rfl) (Ac (slices_Chunk_api_Op_api_Op_1_l1_ok c3) An) l
theorem slices_Chunk_api_Op_api_Op_1_p1 {N : Nat} {a0 : List T_api_Op} {a1 : Int} {z2 : Int × List (List T_api_Op)} (c3 : slices_Chunk_api_Op_api_Op_1_l1 a0 a1 N = some (.inr z2)) (l : Nat) : Vd Try.prog l (.fn (.func 31) [] [.p 100020 [] 0, .p 100030 [] 0]) [.yl 50030] [(30, .cell false (.nils)), (50030, .loop [10] 28 [(3, .p 30 [] 0), (9, .fn (.func 31) [] [.p 100020 [] 0, .p 100030 [] 0])] Try_as14_3 Try_bd14_3 14 .ready none 50031), (50031, .dfr true), (100020, .cell false (v0 a0)), (100030, .cell false (vi a1))] (.tup []) [(30, .cell false (.v 200260 z2.2.length)), (50030, .loop [10] 28 [(3, .p 30 [] 0), (9, .fn (.func 31) [] [.p 100020 [] 0, .p 100030 [] 0])] Try_as14_3 Try_bd14_3 14 .ready none 50031), (50031, .dfr true), (100020, .cell false (v0 a0)), (100030, .cell false (vi a1)), (200260, w4 z2.2)] :=
  Try_vf31 (hn := slices_Chunk_api_Op_api_Op_1_hn) (lvl := 0) (O := { lo := [(1, .exit 0, S5 1 31 [30, 50030, 50031, 100020, 100030] [(0, .yl 50030), (1, .p 100020 [] 0), (2, .p 100030 [] 0), (4, vi z2.1), (9, vb false)] [(30, .cell false (.v 200260 z2.2.length)), (50030, .loop [10] 28 [(3, .p 30 [] 0), (9, .fn (.func 31) [] [.p 100020 [] 0, .p 100030 [] 0])] Try_as14_3 Try_bd14_3 14 .ready none 50031), (50031, .dfr true), (100020, .cell false (v0 a0)), (100030, .cell false (vi a1)), (200260, w4 z2.2)])] }) (ps := [LoopP slices_Chunk_api_Op_api_Op_1_f1 (S5 1 31 [30, 50030, 50031, 100020, 100030] [(0, .yl 50030), (1, .p 100020 [] 0), (2, .p 100030 [] 0), (4, vi 0)] [(30, .cell false (.nils)), (50030, .loop [10] 28 [(3, .p 30 [] 0), (9, .fn (.func 31) [] [.p 100020 [] 0, .p 100030 [] 0])] Try_as14_3 Try_bd14_3 14 .ready none 50031), (50031, .dfr true), (100020, .cell false (v0 a0)), (100030, .cell false (vi a1))]) (.exit 0) (S5 1 31 [30, 50030, 50031, 100020, 100030] [(0, .yl 50030), (1, .p 100020 [] 0), (2, .p 100030 [] 0), (4, vi z2.1), (9, vb false)] [(30, .cell false (.v 200260 z2.2.length)), (50030, .loop [10] 28 [(3, .p 30 [] 0), (9, .fn (.func 31) [] [.p 100020 [] 0, .p 100030 [] 0])] Try_as14_3 Try_bd14_3 14 .ready none 50031), (50031, .dfr true), (100020, .cell false (v0 a0)), (100030, .cell false (vi a1)), (200260, w4 z2.2)])]) (by kernel_rfl) (Ac (slices_Chunk_api_Op_api_Op_1_l1_ok c3) An) l
def slices_Chunk_api_Op_api_Op_1_r (a0 : List T_api_Op) (a1 : Int) : Unit ⊕ List (List T_api_Op) → AV
  | .inl z => .tup []
  | .inr z => .tup []
noncomputable def slices_Chunk_api_Op_api_Op_1_o (a0 : List T_api_Op) (a1 : Int) : Unit ⊕ List (List T_api_Op) → Ob
  | .inl z => [(30, .cell false (.nils)), (50030, .loop [10] 28 [(3, .p 30 [] 0), (9, .fn (.func 31) [] [.p 100020 [] 0, .p 100030 [] 0])] Try_as14_3 Try_bd14_3 14 .ready none 50031), (50031, .dfr true), (100020, .cell false (v0 a0)), (100030, .cell false (vi a1))]
  | .inr z => [(30, .cell false (.v 200260 z.length)), (50030, .loop [10] 28 [(3, .p 30 [] 0), (9, .fn (.func 31) [] [.p 100020 [] 0, .p 100030 [] 0])] Try_as14_3 Try_bd14_3 14 .ready none 50031), (50031, .dfr true), (100020, .cell false (v0 a0)), (100030, .cell false (vi a1)), (200260, w4 z)]
theorem slices_Chunk_api_Op_api_Op_1_valid {N : Nat} {a0 : List T_api_Op} {a1 : Int} {z : Unit ⊕ List (List T_api_Op)} (h : slices_Chunk_api_Op_api_Op_1 N a0 a1 = some z) (l : Nat) : Vd Try.prog l (.fn (.func 31) [] [.p 100020 [] 0, .p 100030 [] 0]) [.yl 50030] [(30, .cell false (.nils)), (50030, .loop [10] 28 [(3, .p 30 [] 0), (9, .fn (.func 31) [] [.p 100020 [] 0, .p 100030 [] 0])] Try_as14_3 Try_bd14_3 14 .ready none 50031), (50031, .dfr true), (100020, .cell false (v0 a0)), (100030, .cell false (vi a1))] (slices_Chunk_api_Op_api_Op_1_r a0 a1 z) (slices_Chunk_api_Op_api_Op_1_o a0 a1 z) := by
  unfold slices_Chunk_api_Op_api_Op_1 at h
  obtain ⟨z1, c3, h⟩ := bind_some h
  rcases z1 with z2 | z2 <;> dsimp only at h
  · obtain rfl := Option.some.inj h
    exact slices_Chunk_api_Op_api_Op_1_p0 c3 l
  · obtain rfl := Option.some.inj h
    exact slices_Chunk_api_Op_api_Op_1_p1 c3 l
def order_Split_hn : Hint where
  live := fun _ r => match r with
    | 0 => [0]
    | 1 => [0, 3]
    | 2 => [3, 9]
    | 3 => [3, 4]
    | 4 => [3, 4, 5]
    | 5 => [3, 5, 11, 12, 13]
    | 6 => [3, 5, 11, 12, 13, 14]
    | 7 => [3, 5, 7, 11, 12, 13]
    | 8 => [3, 5, 11, 12, 13]
    | 9 => [3, 5, 11, 12, 13]
    | 11 => [2]
    | _ => []
  esc := fun _ => false
  raw := fun k => false
  fresh := fun _ d => Nat.beq d 9
  vecs := fun _ d => false
def order_Split (N : Nat) (a0 : List T_api_Op) : Option (List (List T_api_Op)) :=
  (slices_Chunk_Op a0 20).bind fun r1 =>
  (slices_Chunk_api_Op_api_Op_1 N a0 20).bind fun r3 => match r3 with
  | .inl r4 =>
    some []
  | .inr r4 =>
    some r4
theorem order_Split_p0 {N : Nat} {a0 : List T_api_Op} {r1 : Unit} {r4 : Unit} (c2 : slices_Chunk_Op a0 20 = some r1) (c5 : slices_Chunk_api_Op_api_Op_1 N a0 20 = some (.inl r4)) (l : Nat) : Vd Try.prog l (.fn (.func 14) [] []) [v0 a0] [] (v4 []) [] :=
  Try_vf14 (hn := order_Split_hn) (lvl := 0) (O := { an := [(2001, .call (.ret (.fn (.func 31) [] [.p 100020 [] 0, .p 100030 [] 0])) [(100020, .cell false (v0 a0)), (100030, .cell false (vi 20))]), (3999, .call (.ret (.tup [])) [(30, .cell false (.nils)), (50030, .loop [10] 28 [(3, .p 30 [] 0), (9, .fn (.func 31) [] [.p 100020 [] 0, .p 100030 [] 0])] Try_as14_3 Try_bd14_3 14 .ready none 50031), (50031, .dfr true), (100020, .cell false (v0 a0)), (100030, .cell false (vi 20))])] }) (ps := [Vd Try.prog 0 (.fn (.func 27) [] []) [v0 a0, vi 20] [] (.fn (.func 31) [] [.p 100020 [] 0, .p 100030 [] 0]) [(100020, .cell false (v0 a0)), (100030, .cell false (vi 20))], Vd Try.prog 0 (.fn (.func 31) [] [.p 100020 [] 0, .p 100030 [] 0]) [.yl 50030] [(30, .cell false (.nils)), (50030, .loop [10] 28 [(3, .p 30 [] 0), (9, .fn (.func 31) [] [.p 100020 [] 0, .p 100030 [] 0])] Try_as14_3 Try_bd14_3 14 .ready none 50031), (50031, .dfr true), (100020, .cell false (v0 a0)), (100030, .cell false (vi 20))] (.tup []) [(30, .cell false (.nils)), (50030, .loop [10] 28 [(3, .p 30 [] 0), (9, .fn (.func 31) [] [.p 100020 [] 0, .p 100030 [] 0])] Try_as14_3 Try_bd14_3 14 .ready none 50031), (50031, .dfr true), (100020, .cell false (v0 a0)), (100030, .cell false (vi 20))]]) (by kernel_rfl) (Ac (slices_Chunk_Op_valid c2 _) (Ac (slices_Chunk_api_Op_api_Op_1_valid c5 _) An)) l
theorem order_Split_p1 {N : Nat} {a0 : List T_api_Op} {r1 : Unit} {r4 : List (List T_api_Op)} (c2 : slices_Chunk_Op a0 20 = some r1) (c5 : slices_Chunk_api_Op_api_Op_1 N a0 20 = some (.inr r4)) (l : Nat) : Vd Try.prog l (.fn (.func 14) [] []) [v0 a0] [] (v4 r4) [] :=
  Try_vf14 (hn := order_Split_hn) (lvl := 0) (O := { an := [(2001, .call (.ret (.fn (.func 31) [] [.p 100020 [] 0, .p 100030 [] 0])) [(100020, .cell false (v0 a0)), (100030, .cell false (vi 20))]), (3999, .call (.ret (.tup [])) [(30, .cell false (.v 200260 r4.length)), (50030, .loop [10] 28 [(3, .p 30 [] 0), (9, .fn (.func 31) [] [.p 100020 [] 0, .p 100030 [] 0])] Try_as14_3 Try_bd14_3 14 .ready none 50031), (50031, .dfr true), (100020, .cell false (v0 a0)), (100030, .cell false (vi 20)), (200260, w4 r4)])] }) (ps := [Vd Try.prog 0 (.fn (.func 27) [] []) [v0 a0, vi 20] [] (.fn (.func 31) [] [.p 100020 [] 0, .p 100030 [] 0]) [(100020, .cell false (v0 a0)), (100030, .cell false (vi 20))], Vd Try.prog 0 (.fn (.func 31) [] [.p 100020 [] 0, .p 100030 [] 0]) [.yl 50030] [(30, .cell false (.nils)), (50030, .loop [10] 28 [(3, .p 30 [] 0), (9, .fn (.func 31) [] [.p 100020 [] 0, .p 100030 [] 0])] Try_as14_3 Try_bd14_3 14 .ready none 50031), (50031, .dfr true), (100020, .cell false (v0 a0)), (100030, .cell false (vi 20))] (.tup []) [(30, .cell false (.v 200260 r4.length)), (50030, .loop [10] 28 [(3, .p 30 [] 0), (9, .fn (.func 31) [] [.p 100020 [] 0, .p 100030 [] 0])] Try_as14_3 Try_bd14_3 14 .ready none 50031), (50031, .dfr true), (100020, .cell false (v0 a0)), (100030, .cell false (vi 20)), (200260, w4 r4)], (p4 r4).len = r4.length]) (by kernel_rfl) (Ac (slices_Chunk_Op_valid c2 _) (Ac (slices_Chunk_api_Op_api_Op_1_valid c5 _) (Ac (len_ok _ _ _) An))) l
theorem order_Split_valid {N : Nat} {a0 : List T_api_Op} {z : List (List T_api_Op)} (h : order_Split N a0 = some z) (l : Nat) : Vd Try.prog l (.fn (.func 14) [] []) [v0 a0] [] (v4 z) [] := by
  unfold order_Split at h
  obtain ⟨r1, c2, h⟩ := bind_some h
  obtain ⟨r3, c5, h⟩ := bind_some h
  rcases r3 with r4 | r4 <;> dsimp only at h
  · obtain rfl := Option.some.inj h
    exact order_Split_p0 c2 c5 l
  · obtain rfl := Option.some.inj h
    exact order_Split_p1 c2 c5 l
def rolodexlaw17_awake_hn : Hint where
  live := fun _ r => match r with
    | 1 => [1]
    | 2 => [1, 2]
    | 3 => [1, 2, 3]
    | 4 => [1, 2, 3, 4]
    | 5 => [1, 2, 4, 5]
    | 6 => [0]
    | _ => []
  esc := fun _ => false
  raw := fun k => false
  fresh := fun _ d => false
  vecs := fun _ d => false
def rolodexlaw17_awake (N : Nat)  : Option (Bool) :=
  (order_SortW N [T_api_Op.mk 1 (((Vector.replicate 16 0)).setIfInBounds 0 ((UInt8.ofNat 1))) (T_api_Stamp.mk 0 0) 0 [] [] ((Vector.replicate 16 0)) 0 ((Vector.replicate 32 0)), T_api_Op.mk 2 (((Vector.replicate 16 0)).setIfInBounds 0 ((UInt8.ofNat 2))) (T_api_Stamp.mk 0 0) 0 [] [] (((Vector.replicate 16 0)).setIfInBounds 0 ((UInt8.ofNat 1))) 0 ((Vector.replicate 32 0))] [T_api_Op.mk 1 (((Vector.replicate 16 0)).setIfInBounds 0 ((UInt8.ofNat 1))) (T_api_Stamp.mk 0 0) 0 [] [] ((Vector.replicate 16 0)) 0 ((Vector.replicate 32 0)), T_api_Op.mk 1 (((Vector.replicate 16 0)).setIfInBounds 0 ((UInt8.ofNat 1))) (T_api_Stamp.mk 0 0) 0 [] [] ((Vector.replicate 16 0)) 0 ((Vector.replicate 32 0))]).bind fun r1 =>
  (order_SortW N [T_api_Op.mk 2 (((Vector.replicate 16 0)).setIfInBounds 0 ((UInt8.ofNat 2))) (T_api_Stamp.mk 0 0) 0 [] [] (((Vector.replicate 16 0)).setIfInBounds 0 ((UInt8.ofNat 1))) 0 ((Vector.replicate 32 0)), T_api_Op.mk 2 (((Vector.replicate 16 0)).setIfInBounds 0 ((UInt8.ofNat 1))) (T_api_Stamp.mk 0 0) 0 [] [] (((Vector.replicate 16 0)).setIfInBounds 0 ((UInt8.ofNat 2))) 0 ((Vector.replicate 32 0))] [T_api_Op.mk 1 (((Vector.replicate 16 0)).setIfInBounds 0 ((UInt8.ofNat 2))) (T_api_Stamp.mk 0 0) 0 [] [] ((Vector.replicate 16 0)) 0 ((Vector.replicate 32 0)), T_api_Op.mk 1 (((Vector.replicate 16 0)).setIfInBounds 0 ((UInt8.ofNat 1))) (T_api_Stamp.mk 0 0) 0 [] [] ((Vector.replicate 16 0)) 0 ((Vector.replicate 32 0))]).bind fun r3 =>
  cond (decide (((r1.length : Nat) : Int) = 2)) (
    (getI r1 0).bind fun e6 =>
    cond (decide (e6.Kind = 2)) (
      cond (decide (((r3.length : Nat) : Int) = 2)) (
        (getI r3 0).bind fun e10 =>
        cond (decide (e10.Kind = 2)) (
          (getI r3 0).bind fun e13 =>
          cond (decide (e13.ID.toList = (((Vector.replicate 16 0)).setIfInBounds 0 ((UInt8.ofNat 1))).toList)) (
            (getI r3 1).bind fun e16 =>
            cond (decide (e16.Kind = 1)) (
              (order_Reads (T_api_Op.mk 2 (((Vector.replicate 16 0)).setIfInBounds 0 ((UInt8.ofNat 2))) (T_api_Stamp.mk 0 0) 0 [] [] (((Vector.replicate 16 0)).setIfInBounds 0 ((UInt8.ofNat 1))) 0 ((Vector.replicate 32 0))) (T_api_Op.mk 1 (((Vector.replicate 16 0)).setIfInBounds 0 ((UInt8.ofNat 1))) (T_api_Stamp.mk 0 0) 0 [] [] ((Vector.replicate 16 0)) 0 ((Vector.replicate 32 0)))).bind fun r19 =>
              cond (r19) (
                (order_Split N r3).bind fun r22 =>
                some (decide (((r22.length : Nat) : Int) = 1))) (
                some false)) (
              some false)) (
            some false)) (
          some false)) (
        some false)) (
      some false)) (
    some false)
theorem rolodexlaw17_awake_p0 {N : Nat} {r1 : List T_api_Op} {r3 : List T_api_Op} {e6 : T_api_Op} {e10 : T_api_Op} {e13 : T_api_Op} {e16 : T_api_Op} {r19 : Bool} {r22 : List (List T_api_Op)} (c2 : order_SortW N [T_api_Op.mk 1 (((Vector.replicate 16 0)).setIfInBounds 0 ((UInt8.ofNat 1))) (T_api_Stamp.mk 0 0) 0 [] [] ((Vector.replicate 16 0)) 0 ((Vector.replicate 32 0)), T_api_Op.mk 2 (((Vector.replicate 16 0)).setIfInBounds 0 ((UInt8.ofNat 2))) (T_api_Stamp.mk 0 0) 0 [] [] (((Vector.replicate 16 0)).setIfInBounds 0 ((UInt8.ofNat 1))) 0 ((Vector.replicate 32 0))] [T_api_Op.mk 1 (((Vector.replicate 16 0)).setIfInBounds 0 ((UInt8.ofNat 1))) (T_api_Stamp.mk 0 0) 0 [] [] ((Vector.replicate 16 0)) 0 ((Vector.replicate 32 0)), T_api_Op.mk 1 (((Vector.replicate 16 0)).setIfInBounds 0 ((UInt8.ofNat 1))) (T_api_Stamp.mk 0 0) 0 [] [] ((Vector.replicate 16 0)) 0 ((Vector.replicate 32 0))] = some r1) (c4 : order_SortW N [T_api_Op.mk 2 (((Vector.replicate 16 0)).setIfInBounds 0 ((UInt8.ofNat 2))) (T_api_Stamp.mk 0 0) 0 [] [] (((Vector.replicate 16 0)).setIfInBounds 0 ((UInt8.ofNat 1))) 0 ((Vector.replicate 32 0)), T_api_Op.mk 2 (((Vector.replicate 16 0)).setIfInBounds 0 ((UInt8.ofNat 1))) (T_api_Stamp.mk 0 0) 0 [] [] (((Vector.replicate 16 0)).setIfInBounds 0 ((UInt8.ofNat 2))) 0 ((Vector.replicate 32 0))] [T_api_Op.mk 1 (((Vector.replicate 16 0)).setIfInBounds 0 ((UInt8.ofNat 2))) (T_api_Stamp.mk 0 0) 0 [] [] ((Vector.replicate 16 0)) 0 ((Vector.replicate 32 0)), T_api_Op.mk 1 (((Vector.replicate 16 0)).setIfInBounds 0 ((UInt8.ofNat 1))) (T_api_Stamp.mk 0 0) 0 [] [] ((Vector.replicate 16 0)) 0 ((Vector.replicate 32 0))] = some r3) (c5 : (decide (((r1.length : Nat) : Int) = 2)) = true) (c7 : getI r1 0 = some e6) (c8 : (decide (e6.Kind = 2)) = true) (c9 : (decide (((r3.length : Nat) : Int) = 2)) = true) (c11 : getI r3 0 = some e10) (c12 : (decide (e10.Kind = 2)) = true) (c14 : getI r3 0 = some e13) (c15 : (decide (e13.ID.toList = (((Vector.replicate 16 0)).setIfInBounds 0 ((UInt8.ofNat 1))).toList)) = true) (c17 : getI r3 1 = some e16) (c18 : (decide (e16.Kind = 1)) = true) (c20 : order_Reads (T_api_Op.mk 2 (((Vector.replicate 16 0)).setIfInBounds 0 ((UInt8.ofNat 2))) (T_api_Stamp.mk 0 0) 0 [] [] (((Vector.replicate 16 0)).setIfInBounds 0 ((UInt8.ofNat 1))) 0 ((Vector.replicate 32 0))) (T_api_Op.mk 1 (((Vector.replicate 16 0)).setIfInBounds 0 ((UInt8.ofNat 1))) (T_api_Stamp.mk 0 0) 0 [] [] ((Vector.replicate 16 0)) 0 ((Vector.replicate 32 0))) = some r19) (c21 : r19 = true) (c23 : order_Split N r3 = some r22) (l : Nat) : Vd Try.prog l (.fn (.func 9) [] []) [] [] (vb (decide (((r22.length : Nat) : Int) = 1))) [] :=
  Try_vf9 (hn := rolodexlaw17_awake_hn) (lvl := 0) (O := { an := [(4006, .call (.ret (v0 r1)) []), (5007, .call (.ret (v0 r3)) []), (6005, .pv (p1 e6)), (6017, .pv (p1 e10)), (6024, .pv (p1 e13)), (6032, .pv (p1 e16)), (6040, .call (.ret (vb r19)) []), (6044, .call (.ret (v4 r22)) [])], nv := [(6001, vi ((r1.length : Nat) : Int)), (6002, vb true), (6008, vb true), (6012, vi ((r3.length : Nat) : Int)), (6013, vb true), (6020, vb true), (6028, vb true), (6035, vb true), (6040, vb true), (6045, vi ((r22.length : Nat) : Int))] }) (ps := [0 ≤ (1 : Int) ∧ (1 : Int) < 256, 0 < 16, 0 ≤ (2 : Int) ∧ (2 : Int) < 256, 0 < 16, 0 ≤ (1 : Int) ∧ (1 : Int) < 256, 0 < 16, 0 ≤ (1 : Int) ∧ (1 : Int) < 256, 0 < 16, 0 ≤ (2 : Int) ∧ (2 : Int) < 256, 0 < 16, Vd Try.prog 0 (.fn (.func 12) [] []) [v0 [T_api_Op.mk 1 (((Vector.replicate 16 0)).setIfInBounds 0 ((UInt8.ofNat 1))) (T_api_Stamp.mk 0 0) 0 [] [] ((Vector.replicate 16 0)) 0 ((Vector.replicate 32 0)), T_api_Op.mk 2 (((Vector.replicate 16 0)).setIfInBounds 0 ((UInt8.ofNat 2))) (T_api_Stamp.mk 0 0) 0 [] [] (((Vector.replicate 16 0)).setIfInBounds 0 ((UInt8.ofNat 1))) 0 ((Vector.replicate 32 0))], v0 [T_api_Op.mk 1 (((Vector.replicate 16 0)).setIfInBounds 0 ((UInt8.ofNat 1))) (T_api_Stamp.mk 0 0) 0 [] [] ((Vector.replicate 16 0)) 0 ((Vector.replicate 32 0)), T_api_Op.mk 1 (((Vector.replicate 16 0)).setIfInBounds 0 ((UInt8.ofNat 1))) (T_api_Stamp.mk 0 0) 0 [] [] ((Vector.replicate 16 0)) 0 ((Vector.replicate 32 0))]] [] (v0 r1) [], 0 ≤ (2 : Int) ∧ (2 : Int) < 256, 0 < 16, Vd Try.prog 0 (.fn (.func 12) [] []) [v0 [T_api_Op.mk 2 (((Vector.replicate 16 0)).setIfInBounds 0 ((UInt8.ofNat 2))) (T_api_Stamp.mk 0 0) 0 [] [] (((Vector.replicate 16 0)).setIfInBounds 0 ((UInt8.ofNat 1))) 0 ((Vector.replicate 32 0)), T_api_Op.mk 2 (((Vector.replicate 16 0)).setIfInBounds 0 ((UInt8.ofNat 1))) (T_api_Stamp.mk 0 0) 0 [] [] (((Vector.replicate 16 0)).setIfInBounds 0 ((UInt8.ofNat 2))) 0 ((Vector.replicate 32 0))], v0 [T_api_Op.mk 1 (((Vector.replicate 16 0)).setIfInBounds 0 ((UInt8.ofNat 2))) (T_api_Stamp.mk 0 0) 0 [] [] ((Vector.replicate 16 0)) 0 ((Vector.replicate 32 0)), T_api_Op.mk 1 (((Vector.replicate 16 0)).setIfInBounds 0 ((UInt8.ofNat 1))) (T_api_Stamp.mk 0 0) 0 [] [] ((Vector.replicate 16 0)) 0 ((Vector.replicate 32 0))]] [] (v0 r3) [], vi (((r1).map T_api_Op.enc).length : Nat) = vi ((r1.length : Nat) : Int), EB (decide (((r1.length : Nat) : Int) = 2)) true, EG (p0 r1) (0 : Int) (p1 e6), EB (decide (e6.Kind = 2)) true, vi (((r3).map T_api_Op.enc).length : Nat) = vi ((r3.length : Nat) : Int), EB (decide (((r3.length : Nat) : Int) = 2)) true, EG (p0 r3) (0 : Int) (p1 e10), EB (decide (e10.Kind = 2)) true, EG (p0 r3) (0 : Int) (p1 e13), 0 ≤ (1 : Int) ∧ (1 : Int) < 256, 0 < 16, EB (decide (e13.ID.toList = (((Vector.replicate 16 0)).setIfInBounds 0 ((UInt8.ofNat 1))).toList)) true, EG (p0 r3) (1 : Int) (p1 e16), EB (decide (e16.Kind = 1)) true, Vd Try.prog 0 (.fn (.func 17) [] []) [v1 (T_api_Op.mk 2 (((Vector.replicate 16 0)).setIfInBounds 0 ((UInt8.ofNat 2))) (T_api_Stamp.mk 0 0) 0 [] [] (((Vector.replicate 16 0)).setIfInBounds 0 ((UInt8.ofNat 1))) 0 ((Vector.replicate 32 0))), v1 (T_api_Op.mk 1 (((Vector.replicate 16 0)).setIfInBounds 0 ((UInt8.ofNat 1))) (T_api_Stamp.mk 0 0) 0 [] [] ((Vector.replicate 16 0)) 0 ((Vector.replicate 32 0)))] [] (vb r19) [], EB r19 true, Vd Try.prog 0 (.fn (.func 14) [] []) [v0 r3] [] (v4 r22) [], vi (((r22).map (encL 71 T_api_Op.enc)).length : Nat) = vi ((r22.length : Nat) : Int)]) (by kernel_rfl) (Ac (by decide) (Ac (by decide) (Ac (by decide) (Ac (by decide) (Ac (by decide) (Ac (by decide) (Ac (by decide) (Ac (by decide) (Ac (by decide) (Ac (by decide) (Ac (order_SortW_valid c2 _) (Ac (by decide) (Ac (by decide) (Ac (order_SortW_valid c4 _) (Ac (nv_len _ _) (Ac (nv_b c5) (Ac (getI_ok c7 71 T_api_Op.enc) (Ac (nv_b c8) (Ac (nv_len _ _) (Ac (nv_b c9) (Ac (getI_ok c11 71 T_api_Op.enc) (Ac (nv_b c12) (Ac (getI_ok c14 71 T_api_Op.enc) (Ac (by decide) (Ac (by decide) (Ac (nv_b c15) (Ac (getI_ok c17 71 T_api_Op.enc) (Ac (nv_b c18) (Ac (order_Reads_valid c20 _) (Ac (nv_b c21) (Ac (order_Split_valid c23 _) (Ac (nv_len _ _) An)))))))))))))))))))))))))))))))) l
theorem rolodexlaw17_awake_p1 {N : Nat} {r1 : List T_api_Op} {r3 : List T_api_Op} {e6 : T_api_Op} {e10 : T_api_Op} {e13 : T_api_Op} {e16 : T_api_Op} {r19 : Bool} (c2 : order_SortW N [T_api_Op.mk 1 (((Vector.replicate 16 0)).setIfInBounds 0 ((UInt8.ofNat 1))) (T_api_Stamp.mk 0 0) 0 [] [] ((Vector.replicate 16 0)) 0 ((Vector.replicate 32 0)), T_api_Op.mk 2 (((Vector.replicate 16 0)).setIfInBounds 0 ((UInt8.ofNat 2))) (T_api_Stamp.mk 0 0) 0 [] [] (((Vector.replicate 16 0)).setIfInBounds 0 ((UInt8.ofNat 1))) 0 ((Vector.replicate 32 0))] [T_api_Op.mk 1 (((Vector.replicate 16 0)).setIfInBounds 0 ((UInt8.ofNat 1))) (T_api_Stamp.mk 0 0) 0 [] [] ((Vector.replicate 16 0)) 0 ((Vector.replicate 32 0)), T_api_Op.mk 1 (((Vector.replicate 16 0)).setIfInBounds 0 ((UInt8.ofNat 1))) (T_api_Stamp.mk 0 0) 0 [] [] ((Vector.replicate 16 0)) 0 ((Vector.replicate 32 0))] = some r1) (c4 : order_SortW N [T_api_Op.mk 2 (((Vector.replicate 16 0)).setIfInBounds 0 ((UInt8.ofNat 2))) (T_api_Stamp.mk 0 0) 0 [] [] (((Vector.replicate 16 0)).setIfInBounds 0 ((UInt8.ofNat 1))) 0 ((Vector.replicate 32 0)), T_api_Op.mk 2 (((Vector.replicate 16 0)).setIfInBounds 0 ((UInt8.ofNat 1))) (T_api_Stamp.mk 0 0) 0 [] [] (((Vector.replicate 16 0)).setIfInBounds 0 ((UInt8.ofNat 2))) 0 ((Vector.replicate 32 0))] [T_api_Op.mk 1 (((Vector.replicate 16 0)).setIfInBounds 0 ((UInt8.ofNat 2))) (T_api_Stamp.mk 0 0) 0 [] [] ((Vector.replicate 16 0)) 0 ((Vector.replicate 32 0)), T_api_Op.mk 1 (((Vector.replicate 16 0)).setIfInBounds 0 ((UInt8.ofNat 1))) (T_api_Stamp.mk 0 0) 0 [] [] ((Vector.replicate 16 0)) 0 ((Vector.replicate 32 0))] = some r3) (c5 : (decide (((r1.length : Nat) : Int) = 2)) = true) (c7 : getI r1 0 = some e6) (c8 : (decide (e6.Kind = 2)) = true) (c9 : (decide (((r3.length : Nat) : Int) = 2)) = true) (c11 : getI r3 0 = some e10) (c12 : (decide (e10.Kind = 2)) = true) (c14 : getI r3 0 = some e13) (c15 : (decide (e13.ID.toList = (((Vector.replicate 16 0)).setIfInBounds 0 ((UInt8.ofNat 1))).toList)) = true) (c17 : getI r3 1 = some e16) (c18 : (decide (e16.Kind = 1)) = true) (c20 : order_Reads (T_api_Op.mk 2 (((Vector.replicate 16 0)).setIfInBounds 0 ((UInt8.ofNat 2))) (T_api_Stamp.mk 0 0) 0 [] [] (((Vector.replicate 16 0)).setIfInBounds 0 ((UInt8.ofNat 1))) 0 ((Vector.replicate 32 0))) (T_api_Op.mk 1 (((Vector.replicate 16 0)).setIfInBounds 0 ((UInt8.ofNat 1))) (T_api_Stamp.mk 0 0) 0 [] [] ((Vector.replicate 16 0)) 0 ((Vector.replicate 32 0))) = some r19) (c21 : r19 = false) (l : Nat) : Vd Try.prog l (.fn (.func 9) [] []) [] [] (vb false) [] :=
  Try_vf9 (hn := rolodexlaw17_awake_hn) (lvl := 0) (O := { an := [(4006, .call (.ret (v0 r1)) []), (5007, .call (.ret (v0 r3)) []), (6005, .pv (p1 e6)), (6017, .pv (p1 e10)), (6024, .pv (p1 e13)), (6032, .pv (p1 e16)), (6040, .call (.ret (vb r19)) [])], nv := [(6001, vi ((r1.length : Nat) : Int)), (6002, vb true), (6008, vb true), (6012, vi ((r3.length : Nat) : Int)), (6013, vb true), (6020, vb true), (6028, vb true), (6035, vb true), (6040, vb false)] }) (ps := [0 ≤ (1 : Int) ∧ (1 : Int) < 256, 0 < 16, 0 ≤ (2 : Int) ∧ (2 : Int) < 256, 0 < 16, 0 ≤ (1 : Int) ∧ (1 : Int) < 256, 0 < 16, 0 ≤ (1 : Int) ∧ (1 : Int) < 256, 0 < 16, 0 ≤ (2 : Int) ∧ (2 : Int) < 256, 0 < 16, Vd Try.prog 0 (.fn (.func 12) [] []) [v0 [T_api_Op.mk 1 (((Vector.replicate 16 0)).setIfInBounds 0 ((UInt8.ofNat 1))) (T_api_Stamp.mk 0 0) 0 [] [] ((Vector.replicate 16 0)) 0 ((Vector.replicate 32 0)), T_api_Op.mk 2 (((Vector.replicate 16 0)).setIfInBounds 0 ((UInt8.ofNat 2))) (T_api_Stamp.mk 0 0) 0 [] [] (((Vector.replicate 16 0)).setIfInBounds 0 ((UInt8.ofNat 1))) 0 ((Vector.replicate 32 0))], v0 [T_api_Op.mk 1 (((Vector.replicate 16 0)).setIfInBounds 0 ((UInt8.ofNat 1))) (T_api_Stamp.mk 0 0) 0 [] [] ((Vector.replicate 16 0)) 0 ((Vector.replicate 32 0)), T_api_Op.mk 1 (((Vector.replicate 16 0)).setIfInBounds 0 ((UInt8.ofNat 1))) (T_api_Stamp.mk 0 0) 0 [] [] ((Vector.replicate 16 0)) 0 ((Vector.replicate 32 0))]] [] (v0 r1) [], 0 ≤ (2 : Int) ∧ (2 : Int) < 256, 0 < 16, Vd Try.prog 0 (.fn (.func 12) [] []) [v0 [T_api_Op.mk 2 (((Vector.replicate 16 0)).setIfInBounds 0 ((UInt8.ofNat 2))) (T_api_Stamp.mk 0 0) 0 [] [] (((Vector.replicate 16 0)).setIfInBounds 0 ((UInt8.ofNat 1))) 0 ((Vector.replicate 32 0)), T_api_Op.mk 2 (((Vector.replicate 16 0)).setIfInBounds 0 ((UInt8.ofNat 1))) (T_api_Stamp.mk 0 0) 0 [] [] (((Vector.replicate 16 0)).setIfInBounds 0 ((UInt8.ofNat 2))) 0 ((Vector.replicate 32 0))], v0 [T_api_Op.mk 1 (((Vector.replicate 16 0)).setIfInBounds 0 ((UInt8.ofNat 2))) (T_api_Stamp.mk 0 0) 0 [] [] ((Vector.replicate 16 0)) 0 ((Vector.replicate 32 0)), T_api_Op.mk 1 (((Vector.replicate 16 0)).setIfInBounds 0 ((UInt8.ofNat 1))) (T_api_Stamp.mk 0 0) 0 [] [] ((Vector.replicate 16 0)) 0 ((Vector.replicate 32 0))]] [] (v0 r3) [], vi (((r1).map T_api_Op.enc).length : Nat) = vi ((r1.length : Nat) : Int), EB (decide (((r1.length : Nat) : Int) = 2)) true, EG (p0 r1) (0 : Int) (p1 e6), EB (decide (e6.Kind = 2)) true, vi (((r3).map T_api_Op.enc).length : Nat) = vi ((r3.length : Nat) : Int), EB (decide (((r3.length : Nat) : Int) = 2)) true, EG (p0 r3) (0 : Int) (p1 e10), EB (decide (e10.Kind = 2)) true, EG (p0 r3) (0 : Int) (p1 e13), 0 ≤ (1 : Int) ∧ (1 : Int) < 256, 0 < 16, EB (decide (e13.ID.toList = (((Vector.replicate 16 0)).setIfInBounds 0 ((UInt8.ofNat 1))).toList)) true, EG (p0 r3) (1 : Int) (p1 e16), EB (decide (e16.Kind = 1)) true, Vd Try.prog 0 (.fn (.func 17) [] []) [v1 (T_api_Op.mk 2 (((Vector.replicate 16 0)).setIfInBounds 0 ((UInt8.ofNat 2))) (T_api_Stamp.mk 0 0) 0 [] [] (((Vector.replicate 16 0)).setIfInBounds 0 ((UInt8.ofNat 1))) 0 ((Vector.replicate 32 0))), v1 (T_api_Op.mk 1 (((Vector.replicate 16 0)).setIfInBounds 0 ((UInt8.ofNat 1))) (T_api_Stamp.mk 0 0) 0 [] [] ((Vector.replicate 16 0)) 0 ((Vector.replicate 32 0)))] [] (vb r19) [], EB r19 false]) (by kernel_rfl) (Ac (by decide) (Ac (by decide) (Ac (by decide) (Ac (by decide) (Ac (by decide) (Ac (by decide) (Ac (by decide) (Ac (by decide) (Ac (by decide) (Ac (by decide) (Ac (order_SortW_valid c2 _) (Ac (by decide) (Ac (by decide) (Ac (order_SortW_valid c4 _) (Ac (nv_len _ _) (Ac (nv_b c5) (Ac (getI_ok c7 71 T_api_Op.enc) (Ac (nv_b c8) (Ac (nv_len _ _) (Ac (nv_b c9) (Ac (getI_ok c11 71 T_api_Op.enc) (Ac (nv_b c12) (Ac (getI_ok c14 71 T_api_Op.enc) (Ac (by decide) (Ac (by decide) (Ac (nv_b c15) (Ac (getI_ok c17 71 T_api_Op.enc) (Ac (nv_b c18) (Ac (order_Reads_valid c20 _) (Ac (nv_b c21) An)))))))))))))))))))))))))))))) l
theorem rolodexlaw17_awake_p2 {N : Nat} {r1 : List T_api_Op} {r3 : List T_api_Op} {e6 : T_api_Op} {e10 : T_api_Op} {e13 : T_api_Op} {e16 : T_api_Op} (c2 : order_SortW N [T_api_Op.mk 1 (((Vector.replicate 16 0)).setIfInBounds 0 ((UInt8.ofNat 1))) (T_api_Stamp.mk 0 0) 0 [] [] ((Vector.replicate 16 0)) 0 ((Vector.replicate 32 0)), T_api_Op.mk 2 (((Vector.replicate 16 0)).setIfInBounds 0 ((UInt8.ofNat 2))) (T_api_Stamp.mk 0 0) 0 [] [] (((Vector.replicate 16 0)).setIfInBounds 0 ((UInt8.ofNat 1))) 0 ((Vector.replicate 32 0))] [T_api_Op.mk 1 (((Vector.replicate 16 0)).setIfInBounds 0 ((UInt8.ofNat 1))) (T_api_Stamp.mk 0 0) 0 [] [] ((Vector.replicate 16 0)) 0 ((Vector.replicate 32 0)), T_api_Op.mk 1 (((Vector.replicate 16 0)).setIfInBounds 0 ((UInt8.ofNat 1))) (T_api_Stamp.mk 0 0) 0 [] [] ((Vector.replicate 16 0)) 0 ((Vector.replicate 32 0))] = some r1) (c4 : order_SortW N [T_api_Op.mk 2 (((Vector.replicate 16 0)).setIfInBounds 0 ((UInt8.ofNat 2))) (T_api_Stamp.mk 0 0) 0 [] [] (((Vector.replicate 16 0)).setIfInBounds 0 ((UInt8.ofNat 1))) 0 ((Vector.replicate 32 0)), T_api_Op.mk 2 (((Vector.replicate 16 0)).setIfInBounds 0 ((UInt8.ofNat 1))) (T_api_Stamp.mk 0 0) 0 [] [] (((Vector.replicate 16 0)).setIfInBounds 0 ((UInt8.ofNat 2))) 0 ((Vector.replicate 32 0))] [T_api_Op.mk 1 (((Vector.replicate 16 0)).setIfInBounds 0 ((UInt8.ofNat 2))) (T_api_Stamp.mk 0 0) 0 [] [] ((Vector.replicate 16 0)) 0 ((Vector.replicate 32 0)), T_api_Op.mk 1 (((Vector.replicate 16 0)).setIfInBounds 0 ((UInt8.ofNat 1))) (T_api_Stamp.mk 0 0) 0 [] [] ((Vector.replicate 16 0)) 0 ((Vector.replicate 32 0))] = some r3) (c5 : (decide (((r1.length : Nat) : Int) = 2)) = true) (c7 : getI r1 0 = some e6) (c8 : (decide (e6.Kind = 2)) = true) (c9 : (decide (((r3.length : Nat) : Int) = 2)) = true) (c11 : getI r3 0 = some e10) (c12 : (decide (e10.Kind = 2)) = true) (c14 : getI r3 0 = some e13) (c15 : (decide (e13.ID.toList = (((Vector.replicate 16 0)).setIfInBounds 0 ((UInt8.ofNat 1))).toList)) = true) (c17 : getI r3 1 = some e16) (c18 : (decide (e16.Kind = 1)) = false) (l : Nat) : Vd Try.prog l (.fn (.func 9) [] []) [] [] (vb false) [] :=
  Try_vf9 (hn := rolodexlaw17_awake_hn) (lvl := 0) (O := { an := [(4006, .call (.ret (v0 r1)) []), (5007, .call (.ret (v0 r3)) []), (6005, .pv (p1 e6)), (6017, .pv (p1 e10)), (6024, .pv (p1 e13)), (6032, .pv (p1 e16))], nv := [(6001, vi ((r1.length : Nat) : Int)), (6002, vb true), (6008, vb true), (6012, vi ((r3.length : Nat) : Int)), (6013, vb true), (6020, vb true), (6028, vb true), (6035, vb false)] }) (ps := [0 ≤ (1 : Int) ∧ (1 : Int) < 256, 0 < 16, 0 ≤ (2 : Int) ∧ (2 : Int) < 256, 0 < 16, 0 ≤ (1 : Int) ∧ (1 : Int) < 256, 0 < 16, 0 ≤ (1 : Int) ∧ (1 : Int) < 256, 0 < 16, 0 ≤ (2 : Int) ∧ (2 : Int) < 256, 0 < 16, Vd Try.prog 0 (.fn (.func 12) [] []) [v0 [T_api_Op.mk 1 (((Vector.replicate 16 0)).setIfInBounds 0 ((UInt8.ofNat 1))) (T_api_Stamp.mk 0 0) 0 [] [] ((Vector.replicate 16 0)) 0 ((Vector.replicate 32 0)), T_api_Op.mk 2 (((Vector.replicate 16 0)).setIfInBounds 0 ((UInt8.ofNat 2))) (T_api_Stamp.mk 0 0) 0 [] [] (((Vector.replicate 16 0)).setIfInBounds 0 ((UInt8.ofNat 1))) 0 ((Vector.replicate 32 0))], v0 [T_api_Op.mk 1 (((Vector.replicate 16 0)).setIfInBounds 0 ((UInt8.ofNat 1))) (T_api_Stamp.mk 0 0) 0 [] [] ((Vector.replicate 16 0)) 0 ((Vector.replicate 32 0)), T_api_Op.mk 1 (((Vector.replicate 16 0)).setIfInBounds 0 ((UInt8.ofNat 1))) (T_api_Stamp.mk 0 0) 0 [] [] ((Vector.replicate 16 0)) 0 ((Vector.replicate 32 0))]] [] (v0 r1) [], 0 ≤ (2 : Int) ∧ (2 : Int) < 256, 0 < 16, Vd Try.prog 0 (.fn (.func 12) [] []) [v0 [T_api_Op.mk 2 (((Vector.replicate 16 0)).setIfInBounds 0 ((UInt8.ofNat 2))) (T_api_Stamp.mk 0 0) 0 [] [] (((Vector.replicate 16 0)).setIfInBounds 0 ((UInt8.ofNat 1))) 0 ((Vector.replicate 32 0)), T_api_Op.mk 2 (((Vector.replicate 16 0)).setIfInBounds 0 ((UInt8.ofNat 1))) (T_api_Stamp.mk 0 0) 0 [] [] (((Vector.replicate 16 0)).setIfInBounds 0 ((UInt8.ofNat 2))) 0 ((Vector.replicate 32 0))], v0 [T_api_Op.mk 1 (((Vector.replicate 16 0)).setIfInBounds 0 ((UInt8.ofNat 2))) (T_api_Stamp.mk 0 0) 0 [] [] ((Vector.replicate 16 0)) 0 ((Vector.replicate 32 0)), T_api_Op.mk 1 (((Vector.replicate 16 0)).setIfInBounds 0 ((UInt8.ofNat 1))) (T_api_Stamp.mk 0 0) 0 [] [] ((Vector.replicate 16 0)) 0 ((Vector.replicate 32 0))]] [] (v0 r3) [], vi (((r1).map T_api_Op.enc).length : Nat) = vi ((r1.length : Nat) : Int), EB (decide (((r1.length : Nat) : Int) = 2)) true, EG (p0 r1) (0 : Int) (p1 e6), EB (decide (e6.Kind = 2)) true, vi (((r3).map T_api_Op.enc).length : Nat) = vi ((r3.length : Nat) : Int), EB (decide (((r3.length : Nat) : Int) = 2)) true, EG (p0 r3) (0 : Int) (p1 e10), EB (decide (e10.Kind = 2)) true, EG (p0 r3) (0 : Int) (p1 e13), 0 ≤ (1 : Int) ∧ (1 : Int) < 256, 0 < 16, EB (decide (e13.ID.toList = (((Vector.replicate 16 0)).setIfInBounds 0 ((UInt8.ofNat 1))).toList)) true, EG (p0 r3) (1 : Int) (p1 e16), EB (decide (e16.Kind = 1)) false]) (by kernel_rfl) (Ac (by decide) (Ac (by decide) (Ac (by decide) (Ac (by decide) (Ac (by decide) (Ac (by decide) (Ac (by decide) (Ac (by decide) (Ac (by decide) (Ac (by decide) (Ac (order_SortW_valid c2 _) (Ac (by decide) (Ac (by decide) (Ac (order_SortW_valid c4 _) (Ac (nv_len _ _) (Ac (nv_b c5) (Ac (getI_ok c7 71 T_api_Op.enc) (Ac (nv_b c8) (Ac (nv_len _ _) (Ac (nv_b c9) (Ac (getI_ok c11 71 T_api_Op.enc) (Ac (nv_b c12) (Ac (getI_ok c14 71 T_api_Op.enc) (Ac (by decide) (Ac (by decide) (Ac (nv_b c15) (Ac (getI_ok c17 71 T_api_Op.enc) (Ac (nv_b c18) An)))))))))))))))))))))))))))) l
theorem rolodexlaw17_awake_p3 {N : Nat} {r1 : List T_api_Op} {r3 : List T_api_Op} {e6 : T_api_Op} {e10 : T_api_Op} {e13 : T_api_Op} (c2 : order_SortW N [T_api_Op.mk 1 (((Vector.replicate 16 0)).setIfInBounds 0 ((UInt8.ofNat 1))) (T_api_Stamp.mk 0 0) 0 [] [] ((Vector.replicate 16 0)) 0 ((Vector.replicate 32 0)), T_api_Op.mk 2 (((Vector.replicate 16 0)).setIfInBounds 0 ((UInt8.ofNat 2))) (T_api_Stamp.mk 0 0) 0 [] [] (((Vector.replicate 16 0)).setIfInBounds 0 ((UInt8.ofNat 1))) 0 ((Vector.replicate 32 0))] [T_api_Op.mk 1 (((Vector.replicate 16 0)).setIfInBounds 0 ((UInt8.ofNat 1))) (T_api_Stamp.mk 0 0) 0 [] [] ((Vector.replicate 16 0)) 0 ((Vector.replicate 32 0)), T_api_Op.mk 1 (((Vector.replicate 16 0)).setIfInBounds 0 ((UInt8.ofNat 1))) (T_api_Stamp.mk 0 0) 0 [] [] ((Vector.replicate 16 0)) 0 ((Vector.replicate 32 0))] = some r1) (c4 : order_SortW N [T_api_Op.mk 2 (((Vector.replicate 16 0)).setIfInBounds 0 ((UInt8.ofNat 2))) (T_api_Stamp.mk 0 0) 0 [] [] (((Vector.replicate 16 0)).setIfInBounds 0 ((UInt8.ofNat 1))) 0 ((Vector.replicate 32 0)), T_api_Op.mk 2 (((Vector.replicate 16 0)).setIfInBounds 0 ((UInt8.ofNat 1))) (T_api_Stamp.mk 0 0) 0 [] [] (((Vector.replicate 16 0)).setIfInBounds 0 ((UInt8.ofNat 2))) 0 ((Vector.replicate 32 0))] [T_api_Op.mk 1 (((Vector.replicate 16 0)).setIfInBounds 0 ((UInt8.ofNat 2))) (T_api_Stamp.mk 0 0) 0 [] [] ((Vector.replicate 16 0)) 0 ((Vector.replicate 32 0)), T_api_Op.mk 1 (((Vector.replicate 16 0)).setIfInBounds 0 ((UInt8.ofNat 1))) (T_api_Stamp.mk 0 0) 0 [] [] ((Vector.replicate 16 0)) 0 ((Vector.replicate 32 0))] = some r3) (c5 : (decide (((r1.length : Nat) : Int) = 2)) = true) (c7 : getI r1 0 = some e6) (c8 : (decide (e6.Kind = 2)) = true) (c9 : (decide (((r3.length : Nat) : Int) = 2)) = true) (c11 : getI r3 0 = some e10) (c12 : (decide (e10.Kind = 2)) = true) (c14 : getI r3 0 = some e13) (c15 : (decide (e13.ID.toList = (((Vector.replicate 16 0)).setIfInBounds 0 ((UInt8.ofNat 1))).toList)) = false) (l : Nat) : Vd Try.prog l (.fn (.func 9) [] []) [] [] (vb false) [] :=
  Try_vf9 (hn := rolodexlaw17_awake_hn) (lvl := 0) (O := { an := [(4006, .call (.ret (v0 r1)) []), (5007, .call (.ret (v0 r3)) []), (6005, .pv (p1 e6)), (6017, .pv (p1 e10)), (6024, .pv (p1 e13))], nv := [(6001, vi ((r1.length : Nat) : Int)), (6002, vb true), (6008, vb true), (6012, vi ((r3.length : Nat) : Int)), (6013, vb true), (6020, vb true), (6028, vb false)] }) (ps := [0 ≤ (1 : Int) ∧ (1 : Int) < 256, 0 < 16, 0 ≤ (2 : Int) ∧ (2 : Int) < 256, 0 < 16, 0 ≤ (1 : Int) ∧ (1 : Int) < 256, 0 < 16, 0 ≤ (1 : Int) ∧ (1 : Int) < 256, 0 < 16, 0 ≤ (2 : Int) ∧ (2 : Int) < 256, 0 < 16, Vd Try.prog 0 (.fn (.func 12) [] []) [v0 [T_api_Op.mk 1 (((Vector.replicate 16 0)).setIfInBounds 0 ((UInt8.ofNat 1))) (T_api_Stamp.mk 0 0) 0 [] [] ((Vector.replicate 16 0)) 0 ((Vector.replicate 32 0)), T_api_Op.mk 2 (((Vector.replicate 16 0)).setIfInBounds 0 ((UInt8.ofNat 2))) (T_api_Stamp.mk 0 0) 0 [] [] (((Vector.replicate 16 0)).setIfInBounds 0 ((UInt8.ofNat 1))) 0 ((Vector.replicate 32 0))], v0 [T_api_Op.mk 1 (((Vector.replicate 16 0)).setIfInBounds 0 ((UInt8.ofNat 1))) (T_api_Stamp.mk 0 0) 0 [] [] ((Vector.replicate 16 0)) 0 ((Vector.replicate 32 0)), T_api_Op.mk 1 (((Vector.replicate 16 0)).setIfInBounds 0 ((UInt8.ofNat 1))) (T_api_Stamp.mk 0 0) 0 [] [] ((Vector.replicate 16 0)) 0 ((Vector.replicate 32 0))]] [] (v0 r1) [], 0 ≤ (2 : Int) ∧ (2 : Int) < 256, 0 < 16, Vd Try.prog 0 (.fn (.func 12) [] []) [v0 [T_api_Op.mk 2 (((Vector.replicate 16 0)).setIfInBounds 0 ((UInt8.ofNat 2))) (T_api_Stamp.mk 0 0) 0 [] [] (((Vector.replicate 16 0)).setIfInBounds 0 ((UInt8.ofNat 1))) 0 ((Vector.replicate 32 0)), T_api_Op.mk 2 (((Vector.replicate 16 0)).setIfInBounds 0 ((UInt8.ofNat 1))) (T_api_Stamp.mk 0 0) 0 [] [] (((Vector.replicate 16 0)).setIfInBounds 0 ((UInt8.ofNat 2))) 0 ((Vector.replicate 32 0))], v0 [T_api_Op.mk 1 (((Vector.replicate 16 0)).setIfInBounds 0 ((UInt8.ofNat 2))) (T_api_Stamp.mk 0 0) 0 [] [] ((Vector.replicate 16 0)) 0 ((Vector.replicate 32 0)), T_api_Op.mk 1 (((Vector.replicate 16 0)).setIfInBounds 0 ((UInt8.ofNat 1))) (T_api_Stamp.mk 0 0) 0 [] [] ((Vector.replicate 16 0)) 0 ((Vector.replicate 32 0))]] [] (v0 r3) [], vi (((r1).map T_api_Op.enc).length : Nat) = vi ((r1.length : Nat) : Int), EB (decide (((r1.length : Nat) : Int) = 2)) true, EG (p0 r1) (0 : Int) (p1 e6), EB (decide (e6.Kind = 2)) true, vi (((r3).map T_api_Op.enc).length : Nat) = vi ((r3.length : Nat) : Int), EB (decide (((r3.length : Nat) : Int) = 2)) true, EG (p0 r3) (0 : Int) (p1 e10), EB (decide (e10.Kind = 2)) true, EG (p0 r3) (0 : Int) (p1 e13), 0 ≤ (1 : Int) ∧ (1 : Int) < 256, 0 < 16, EB (decide (e13.ID.toList = (((Vector.replicate 16 0)).setIfInBounds 0 ((UInt8.ofNat 1))).toList)) false]) (by kernel_rfl) (Ac (by decide) (Ac (by decide) (Ac (by decide) (Ac (by decide) (Ac (by decide) (Ac (by decide) (Ac (by decide) (Ac (by decide) (Ac (by decide) (Ac (by decide) (Ac (order_SortW_valid c2 _) (Ac (by decide) (Ac (by decide) (Ac (order_SortW_valid c4 _) (Ac (nv_len _ _) (Ac (nv_b c5) (Ac (getI_ok c7 71 T_api_Op.enc) (Ac (nv_b c8) (Ac (nv_len _ _) (Ac (nv_b c9) (Ac (getI_ok c11 71 T_api_Op.enc) (Ac (nv_b c12) (Ac (getI_ok c14 71 T_api_Op.enc) (Ac (by decide) (Ac (by decide) (Ac (nv_b c15) An)))))))))))))))))))))))))) l
theorem rolodexlaw17_awake_p4 {N : Nat} {r1 : List T_api_Op} {r3 : List T_api_Op} {e6 : T_api_Op} {e10 : T_api_Op} (c2 : order_SortW N [T_api_Op.mk 1 (((Vector.replicate 16 0)).setIfInBounds 0 ((UInt8.ofNat 1))) (T_api_Stamp.mk 0 0) 0 [] [] ((Vector.replicate 16 0)) 0 ((Vector.replicate 32 0)), T_api_Op.mk 2 (((Vector.replicate 16 0)).setIfInBounds 0 ((UInt8.ofNat 2))) (T_api_Stamp.mk 0 0) 0 [] [] (((Vector.replicate 16 0)).setIfInBounds 0 ((UInt8.ofNat 1))) 0 ((Vector.replicate 32 0))] [T_api_Op.mk 1 (((Vector.replicate 16 0)).setIfInBounds 0 ((UInt8.ofNat 1))) (T_api_Stamp.mk 0 0) 0 [] [] ((Vector.replicate 16 0)) 0 ((Vector.replicate 32 0)), T_api_Op.mk 1 (((Vector.replicate 16 0)).setIfInBounds 0 ((UInt8.ofNat 1))) (T_api_Stamp.mk 0 0) 0 [] [] ((Vector.replicate 16 0)) 0 ((Vector.replicate 32 0))] = some r1) (c4 : order_SortW N [T_api_Op.mk 2 (((Vector.replicate 16 0)).setIfInBounds 0 ((UInt8.ofNat 2))) (T_api_Stamp.mk 0 0) 0 [] [] (((Vector.replicate 16 0)).setIfInBounds 0 ((UInt8.ofNat 1))) 0 ((Vector.replicate 32 0)), T_api_Op.mk 2 (((Vector.replicate 16 0)).setIfInBounds 0 ((UInt8.ofNat 1))) (T_api_Stamp.mk 0 0) 0 [] [] (((Vector.replicate 16 0)).setIfInBounds 0 ((UInt8.ofNat 2))) 0 ((Vector.replicate 32 0))] [T_api_Op.mk 1 (((Vector.replicate 16 0)).setIfInBounds 0 ((UInt8.ofNat 2))) (T_api_Stamp.mk 0 0) 0 [] [] ((Vector.replicate 16 0)) 0 ((Vector.replicate 32 0)), T_api_Op.mk 1 (((Vector.replicate 16 0)).setIfInBounds 0 ((UInt8.ofNat 1))) (T_api_Stamp.mk 0 0) 0 [] [] ((Vector.replicate 16 0)) 0 ((Vector.replicate 32 0))] = some r3) (c5 : (decide (((r1.length : Nat) : Int) = 2)) = true) (c7 : getI r1 0 = some e6) (c8 : (decide (e6.Kind = 2)) = true) (c9 : (decide (((r3.length : Nat) : Int) = 2)) = true) (c11 : getI r3 0 = some e10) (c12 : (decide (e10.Kind = 2)) = false) (l : Nat) : Vd Try.prog l (.fn (.func 9) [] []) [] [] (vb false) [] :=
  Try_vf9 (hn := rolodexlaw17_awake_hn) (lvl := 0) (O := { an := [(4006, .call (.ret (v0 r1)) []), (5007, .call (.ret (v0 r3)) []), (6005, .pv (p1 e6)), (6017, .pv (p1 e10))], nv := [(6001, vi ((r1.length : Nat) : Int)), (6002, vb true), (6008, vb true), (6012, vi ((r3.length : Nat) : Int)), (6013, vb true), (6020, vb false)] }) (ps := [0 ≤ (1 : Int) ∧ (1 : Int) < 256, 0 < 16, 0 ≤ (2 : Int) ∧ (2 : Int) < 256, 0 < 16, 0 ≤ (1 : Int) ∧ (1 : Int) < 256, 0 < 16, 0 ≤ (1 : Int) ∧ (1 : Int) < 256, 0 < 16, 0 ≤ (2 : Int) ∧ (2 : Int) < 256, 0 < 16, Vd Try.prog 0 (.fn (.func 12) [] []) [v0 [T_api_Op.mk 1 (((Vector.replicate 16 0)).setIfInBounds 0 ((UInt8.ofNat 1))) (T_api_Stamp.mk 0 0) 0 [] [] ((Vector.replicate 16 0)) 0 ((Vector.replicate 32 0)), T_api_Op.mk 2 (((Vector.replicate 16 0)).setIfInBounds 0 ((UInt8.ofNat 2))) (T_api_Stamp.mk 0 0) 0 [] [] (((Vector.replicate 16 0)).setIfInBounds 0 ((UInt8.ofNat 1))) 0 ((Vector.replicate 32 0))], v0 [T_api_Op.mk 1 (((Vector.replicate 16 0)).setIfInBounds 0 ((UInt8.ofNat 1))) (T_api_Stamp.mk 0 0) 0 [] [] ((Vector.replicate 16 0)) 0 ((Vector.replicate 32 0)), T_api_Op.mk 1 (((Vector.replicate 16 0)).setIfInBounds 0 ((UInt8.ofNat 1))) (T_api_Stamp.mk 0 0) 0 [] [] ((Vector.replicate 16 0)) 0 ((Vector.replicate 32 0))]] [] (v0 r1) [], 0 ≤ (2 : Int) ∧ (2 : Int) < 256, 0 < 16, Vd Try.prog 0 (.fn (.func 12) [] []) [v0 [T_api_Op.mk 2 (((Vector.replicate 16 0)).setIfInBounds 0 ((UInt8.ofNat 2))) (T_api_Stamp.mk 0 0) 0 [] [] (((Vector.replicate 16 0)).setIfInBounds 0 ((UInt8.ofNat 1))) 0 ((Vector.replicate 32 0)), T_api_Op.mk 2 (((Vector.replicate 16 0)).setIfInBounds 0 ((UInt8.ofNat 1))) (T_api_Stamp.mk 0 0) 0 [] [] (((Vector.replicate 16 0)).setIfInBounds 0 ((UInt8.ofNat 2))) 0 ((Vector.replicate 32 0))], v0 [T_api_Op.mk 1 (((Vector.replicate 16 0)).setIfInBounds 0 ((UInt8.ofNat 2))) (T_api_Stamp.mk 0 0) 0 [] [] ((Vector.replicate 16 0)) 0 ((Vector.replicate 32 0)), T_api_Op.mk 1 (((Vector.replicate 16 0)).setIfInBounds 0 ((UInt8.ofNat 1))) (T_api_Stamp.mk 0 0) 0 [] [] ((Vector.replicate 16 0)) 0 ((Vector.replicate 32 0))]] [] (v0 r3) [], vi (((r1).map T_api_Op.enc).length : Nat) = vi ((r1.length : Nat) : Int), EB (decide (((r1.length : Nat) : Int) = 2)) true, EG (p0 r1) (0 : Int) (p1 e6), EB (decide (e6.Kind = 2)) true, vi (((r3).map T_api_Op.enc).length : Nat) = vi ((r3.length : Nat) : Int), EB (decide (((r3.length : Nat) : Int) = 2)) true, EG (p0 r3) (0 : Int) (p1 e10), EB (decide (e10.Kind = 2)) false]) (by kernel_rfl) (Ac (by decide) (Ac (by decide) (Ac (by decide) (Ac (by decide) (Ac (by decide) (Ac (by decide) (Ac (by decide) (Ac (by decide) (Ac (by decide) (Ac (by decide) (Ac (order_SortW_valid c2 _) (Ac (by decide) (Ac (by decide) (Ac (order_SortW_valid c4 _) (Ac (nv_len _ _) (Ac (nv_b c5) (Ac (getI_ok c7 71 T_api_Op.enc) (Ac (nv_b c8) (Ac (nv_len _ _) (Ac (nv_b c9) (Ac (getI_ok c11 71 T_api_Op.enc) (Ac (nv_b c12) An)))))))))))))))))))))) l
theorem rolodexlaw17_awake_p5 {N : Nat} {r1 : List T_api_Op} {r3 : List T_api_Op} {e6 : T_api_Op} (c2 : order_SortW N [T_api_Op.mk 1 (((Vector.replicate 16 0)).setIfInBounds 0 ((UInt8.ofNat 1))) (T_api_Stamp.mk 0 0) 0 [] [] ((Vector.replicate 16 0)) 0 ((Vector.replicate 32 0)), T_api_Op.mk 2 (((Vector.replicate 16 0)).setIfInBounds 0 ((UInt8.ofNat 2))) (T_api_Stamp.mk 0 0) 0 [] [] (((Vector.replicate 16 0)).setIfInBounds 0 ((UInt8.ofNat 1))) 0 ((Vector.replicate 32 0))] [T_api_Op.mk 1 (((Vector.replicate 16 0)).setIfInBounds 0 ((UInt8.ofNat 1))) (T_api_Stamp.mk 0 0) 0 [] [] ((Vector.replicate 16 0)) 0 ((Vector.replicate 32 0)), T_api_Op.mk 1 (((Vector.replicate 16 0)).setIfInBounds 0 ((UInt8.ofNat 1))) (T_api_Stamp.mk 0 0) 0 [] [] ((Vector.replicate 16 0)) 0 ((Vector.replicate 32 0))] = some r1) (c4 : order_SortW N [T_api_Op.mk 2 (((Vector.replicate 16 0)).setIfInBounds 0 ((UInt8.ofNat 2))) (T_api_Stamp.mk 0 0) 0 [] [] (((Vector.replicate 16 0)).setIfInBounds 0 ((UInt8.ofNat 1))) 0 ((Vector.replicate 32 0)), T_api_Op.mk 2 (((Vector.replicate 16 0)).setIfInBounds 0 ((UInt8.ofNat 1))) (T_api_Stamp.mk 0 0) 0 [] [] (((Vector.replicate 16 0)).setIfInBounds 0 ((UInt8.ofNat 2))) 0 ((Vector.replicate 32 0))] [T_api_Op.mk 1 (((Vector.replicate 16 0)).setIfInBounds 0 ((UInt8.ofNat 2))) (T_api_Stamp.mk 0 0) 0 [] [] ((Vector.replicate 16 0)) 0 ((Vector.replicate 32 0)), T_api_Op.mk 1 (((Vector.replicate 16 0)).setIfInBounds 0 ((UInt8.ofNat 1))) (T_api_Stamp.mk 0 0) 0 [] [] ((Vector.replicate 16 0)) 0 ((Vector.replicate 32 0))] = some r3) (c5 : (decide (((r1.length : Nat) : Int) = 2)) = true) (c7 : getI r1 0 = some e6) (c8 : (decide (e6.Kind = 2)) = true) (c9 : (decide (((r3.length : Nat) : Int) = 2)) = false) (l : Nat) : Vd Try.prog l (.fn (.func 9) [] []) [] [] (vb false) [] :=
  Try_vf9 (hn := rolodexlaw17_awake_hn) (lvl := 0) (O := { an := [(4006, .call (.ret (v0 r1)) []), (5007, .call (.ret (v0 r3)) []), (6005, .pv (p1 e6))], nv := [(6001, vi ((r1.length : Nat) : Int)), (6002, vb true), (6008, vb true), (6012, vi ((r3.length : Nat) : Int)), (6013, vb false)] }) (ps := [0 ≤ (1 : Int) ∧ (1 : Int) < 256, 0 < 16, 0 ≤ (2 : Int) ∧ (2 : Int) < 256, 0 < 16, 0 ≤ (1 : Int) ∧ (1 : Int) < 256, 0 < 16, 0 ≤ (1 : Int) ∧ (1 : Int) < 256, 0 < 16, 0 ≤ (2 : Int) ∧ (2 : Int) < 256, 0 < 16, Vd Try.prog 0 (.fn (.func 12) [] []) [v0 [T_api_Op.mk 1 (((Vector.replicate 16 0)).setIfInBounds 0 ((UInt8.ofNat 1))) (T_api_Stamp.mk 0 0) 0 [] [] ((Vector.replicate 16 0)) 0 ((Vector.replicate 32 0)), T_api_Op.mk 2 (((Vector.replicate 16 0)).setIfInBounds 0 ((UInt8.ofNat 2))) (T_api_Stamp.mk 0 0) 0 [] [] (((Vector.replicate 16 0)).setIfInBounds 0 ((UInt8.ofNat 1))) 0 ((Vector.replicate 32 0))], v0 [T_api_Op.mk 1 (((Vector.replicate 16 0)).setIfInBounds 0 ((UInt8.ofNat 1))) (T_api_Stamp.mk 0 0) 0 [] [] ((Vector.replicate 16 0)) 0 ((Vector.replicate 32 0)), T_api_Op.mk 1 (((Vector.replicate 16 0)).setIfInBounds 0 ((UInt8.ofNat 1))) (T_api_Stamp.mk 0 0) 0 [] [] ((Vector.replicate 16 0)) 0 ((Vector.replicate 32 0))]] [] (v0 r1) [], 0 ≤ (2 : Int) ∧ (2 : Int) < 256, 0 < 16, Vd Try.prog 0 (.fn (.func 12) [] []) [v0 [T_api_Op.mk 2 (((Vector.replicate 16 0)).setIfInBounds 0 ((UInt8.ofNat 2))) (T_api_Stamp.mk 0 0) 0 [] [] (((Vector.replicate 16 0)).setIfInBounds 0 ((UInt8.ofNat 1))) 0 ((Vector.replicate 32 0)), T_api_Op.mk 2 (((Vector.replicate 16 0)).setIfInBounds 0 ((UInt8.ofNat 1))) (T_api_Stamp.mk 0 0) 0 [] [] (((Vector.replicate 16 0)).setIfInBounds 0 ((UInt8.ofNat 2))) 0 ((Vector.replicate 32 0))], v0 [T_api_Op.mk 1 (((Vector.replicate 16 0)).setIfInBounds 0 ((UInt8.ofNat 2))) (T_api_Stamp.mk 0 0) 0 [] [] ((Vector.replicate 16 0)) 0 ((Vector.replicate 32 0)), T_api_Op.mk 1 (((Vector.replicate 16 0)).setIfInBounds 0 ((UInt8.ofNat 1))) (T_api_Stamp.mk 0 0) 0 [] [] ((Vector.replicate 16 0)) 0 ((Vector.replicate 32 0))]] [] (v0 r3) [], vi (((r1).map T_api_Op.enc).length : Nat) = vi ((r1.length : Nat) : Int), EB (decide (((r1.length : Nat) : Int) = 2)) true, EG (p0 r1) (0 : Int) (p1 e6), EB (decide (e6.Kind = 2)) true, vi (((r3).map T_api_Op.enc).length : Nat) = vi ((r3.length : Nat) : Int), EB (decide (((r3.length : Nat) : Int) = 2)) false]) (by kernel_rfl) (Ac (by decide) (Ac (by decide) (Ac (by decide) (Ac (by decide) (Ac (by decide) (Ac (by decide) (Ac (by decide) (Ac (by decide) (Ac (by decide) (Ac (by decide) (Ac (order_SortW_valid c2 _) (Ac (by decide) (Ac (by decide) (Ac (order_SortW_valid c4 _) (Ac (nv_len _ _) (Ac (nv_b c5) (Ac (getI_ok c7 71 T_api_Op.enc) (Ac (nv_b c8) (Ac (nv_len _ _) (Ac (nv_b c9) An)))))))))))))))))))) l
theorem rolodexlaw17_awake_p6 {N : Nat} {r1 : List T_api_Op} {r3 : List T_api_Op} {e6 : T_api_Op} (c2 : order_SortW N [T_api_Op.mk 1 (((Vector.replicate 16 0)).setIfInBounds 0 ((UInt8.ofNat 1))) (T_api_Stamp.mk 0 0) 0 [] [] ((Vector.replicate 16 0)) 0 ((Vector.replicate 32 0)), T_api_Op.mk 2 (((Vector.replicate 16 0)).setIfInBounds 0 ((UInt8.ofNat 2))) (T_api_Stamp.mk 0 0) 0 [] [] (((Vector.replicate 16 0)).setIfInBounds 0 ((UInt8.ofNat 1))) 0 ((Vector.replicate 32 0))] [T_api_Op.mk 1 (((Vector.replicate 16 0)).setIfInBounds 0 ((UInt8.ofNat 1))) (T_api_Stamp.mk 0 0) 0 [] [] ((Vector.replicate 16 0)) 0 ((Vector.replicate 32 0)), T_api_Op.mk 1 (((Vector.replicate 16 0)).setIfInBounds 0 ((UInt8.ofNat 1))) (T_api_Stamp.mk 0 0) 0 [] [] ((Vector.replicate 16 0)) 0 ((Vector.replicate 32 0))] = some r1) (c4 : order_SortW N [T_api_Op.mk 2 (((Vector.replicate 16 0)).setIfInBounds 0 ((UInt8.ofNat 2))) (T_api_Stamp.mk 0 0) 0 [] [] (((Vector.replicate 16 0)).setIfInBounds 0 ((UInt8.ofNat 1))) 0 ((Vector.replicate 32 0)), T_api_Op.mk 2 (((Vector.replicate 16 0)).setIfInBounds 0 ((UInt8.ofNat 1))) (T_api_Stamp.mk 0 0) 0 [] [] (((Vector.replicate 16 0)).setIfInBounds 0 ((UInt8.ofNat 2))) 0 ((Vector.replicate 32 0))] [T_api_Op.mk 1 (((Vector.replicate 16 0)).setIfInBounds 0 ((UInt8.ofNat 2))) (T_api_Stamp.mk 0 0) 0 [] [] ((Vector.replicate 16 0)) 0 ((Vector.replicate 32 0)), T_api_Op.mk 1 (((Vector.replicate 16 0)).setIfInBounds 0 ((UInt8.ofNat 1))) (T_api_Stamp.mk 0 0) 0 [] [] ((Vector.replicate 16 0)) 0 ((Vector.replicate 32 0))] = some r3) (c5 : (decide (((r1.length : Nat) : Int) = 2)) = true) (c7 : getI r1 0 = some e6) (c8 : (decide (e6.Kind = 2)) = false) (l : Nat) : Vd Try.prog l (.fn (.func 9) [] []) [] [] (vb false) [] :=
  Try_vf9 (hn := rolodexlaw17_awake_hn) (lvl := 0) (O := { an := [(4006, .call (.ret (v0 r1)) []), (5007, .call (.ret (v0 r3)) []), (6005, .pv (p1 e6))], nv := [(6001, vi ((r1.length : Nat) : Int)), (6002, vb true), (6008, vb false)] }) (ps := [0 ≤ (1 : Int) ∧ (1 : Int) < 256, 0 < 16, 0 ≤ (2 : Int) ∧ (2 : Int) < 256, 0 < 16, 0 ≤ (1 : Int) ∧ (1 : Int) < 256, 0 < 16, 0 ≤ (1 : Int) ∧ (1 : Int) < 256, 0 < 16, 0 ≤ (2 : Int) ∧ (2 : Int) < 256, 0 < 16, Vd Try.prog 0 (.fn (.func 12) [] []) [v0 [T_api_Op.mk 1 (((Vector.replicate 16 0)).setIfInBounds 0 ((UInt8.ofNat 1))) (T_api_Stamp.mk 0 0) 0 [] [] ((Vector.replicate 16 0)) 0 ((Vector.replicate 32 0)), T_api_Op.mk 2 (((Vector.replicate 16 0)).setIfInBounds 0 ((UInt8.ofNat 2))) (T_api_Stamp.mk 0 0) 0 [] [] (((Vector.replicate 16 0)).setIfInBounds 0 ((UInt8.ofNat 1))) 0 ((Vector.replicate 32 0))], v0 [T_api_Op.mk 1 (((Vector.replicate 16 0)).setIfInBounds 0 ((UInt8.ofNat 1))) (T_api_Stamp.mk 0 0) 0 [] [] ((Vector.replicate 16 0)) 0 ((Vector.replicate 32 0)), T_api_Op.mk 1 (((Vector.replicate 16 0)).setIfInBounds 0 ((UInt8.ofNat 1))) (T_api_Stamp.mk 0 0) 0 [] [] ((Vector.replicate 16 0)) 0 ((Vector.replicate 32 0))]] [] (v0 r1) [], 0 ≤ (2 : Int) ∧ (2 : Int) < 256, 0 < 16, Vd Try.prog 0 (.fn (.func 12) [] []) [v0 [T_api_Op.mk 2 (((Vector.replicate 16 0)).setIfInBounds 0 ((UInt8.ofNat 2))) (T_api_Stamp.mk 0 0) 0 [] [] (((Vector.replicate 16 0)).setIfInBounds 0 ((UInt8.ofNat 1))) 0 ((Vector.replicate 32 0)), T_api_Op.mk 2 (((Vector.replicate 16 0)).setIfInBounds 0 ((UInt8.ofNat 1))) (T_api_Stamp.mk 0 0) 0 [] [] (((Vector.replicate 16 0)).setIfInBounds 0 ((UInt8.ofNat 2))) 0 ((Vector.replicate 32 0))], v0 [T_api_Op.mk 1 (((Vector.replicate 16 0)).setIfInBounds 0 ((UInt8.ofNat 2))) (T_api_Stamp.mk 0 0) 0 [] [] ((Vector.replicate 16 0)) 0 ((Vector.replicate 32 0)), T_api_Op.mk 1 (((Vector.replicate 16 0)).setIfInBounds 0 ((UInt8.ofNat 1))) (T_api_Stamp.mk 0 0) 0 [] [] ((Vector.replicate 16 0)) 0 ((Vector.replicate 32 0))]] [] (v0 r3) [], vi (((r1).map T_api_Op.enc).length : Nat) = vi ((r1.length : Nat) : Int), EB (decide (((r1.length : Nat) : Int) = 2)) true, EG (p0 r1) (0 : Int) (p1 e6), EB (decide (e6.Kind = 2)) false]) (by kernel_rfl) (Ac (by decide) (Ac (by decide) (Ac (by decide) (Ac (by decide) (Ac (by decide) (Ac (by decide) (Ac (by decide) (Ac (by decide) (Ac (by decide) (Ac (by decide) (Ac (order_SortW_valid c2 _) (Ac (by decide) (Ac (by decide) (Ac (order_SortW_valid c4 _) (Ac (nv_len _ _) (Ac (nv_b c5) (Ac (getI_ok c7 71 T_api_Op.enc) (Ac (nv_b c8) An)))))))))))))))))) l
theorem rolodexlaw17_awake_p7 {N : Nat} {r1 : List T_api_Op} {r3 : List T_api_Op} (c2 : order_SortW N [T_api_Op.mk 1 (((Vector.replicate 16 0)).setIfInBounds 0 ((UInt8.ofNat 1))) (T_api_Stamp.mk 0 0) 0 [] [] ((Vector.replicate 16 0)) 0 ((Vector.replicate 32 0)), T_api_Op.mk 2 (((Vector.replicate 16 0)).setIfInBounds 0 ((UInt8.ofNat 2))) (T_api_Stamp.mk 0 0) 0 [] [] (((Vector.replicate 16 0)).setIfInBounds 0 ((UInt8.ofNat 1))) 0 ((Vector.replicate 32 0))] [T_api_Op.mk 1 (((Vector.replicate 16 0)).setIfInBounds 0 ((UInt8.ofNat 1))) (T_api_Stamp.mk 0 0) 0 [] [] ((Vector.replicate 16 0)) 0 ((Vector.replicate 32 0)), T_api_Op.mk 1 (((Vector.replicate 16 0)).setIfInBounds 0 ((UInt8.ofNat 1))) (T_api_Stamp.mk 0 0) 0 [] [] ((Vector.replicate 16 0)) 0 ((Vector.replicate 32 0))] = some r1) (c4 : order_SortW N [T_api_Op.mk 2 (((Vector.replicate 16 0)).setIfInBounds 0 ((UInt8.ofNat 2))) (T_api_Stamp.mk 0 0) 0 [] [] (((Vector.replicate 16 0)).setIfInBounds 0 ((UInt8.ofNat 1))) 0 ((Vector.replicate 32 0)), T_api_Op.mk 2 (((Vector.replicate 16 0)).setIfInBounds 0 ((UInt8.ofNat 1))) (T_api_Stamp.mk 0 0) 0 [] [] (((Vector.replicate 16 0)).setIfInBounds 0 ((UInt8.ofNat 2))) 0 ((Vector.replicate 32 0))] [T_api_Op.mk 1 (((Vector.replicate 16 0)).setIfInBounds 0 ((UInt8.ofNat 2))) (T_api_Stamp.mk 0 0) 0 [] [] ((Vector.replicate 16 0)) 0 ((Vector.replicate 32 0)), T_api_Op.mk 1 (((Vector.replicate 16 0)).setIfInBounds 0 ((UInt8.ofNat 1))) (T_api_Stamp.mk 0 0) 0 [] [] ((Vector.replicate 16 0)) 0 ((Vector.replicate 32 0))] = some r3) (c5 : (decide (((r1.length : Nat) : Int) = 2)) = false) (l : Nat) : Vd Try.prog l (.fn (.func 9) [] []) [] [] (vb false) [] :=
  Try_vf9 (hn := rolodexlaw17_awake_hn) (lvl := 0) (O := { an := [(4006, .call (.ret (v0 r1)) []), (5007, .call (.ret (v0 r3)) [])], nv := [(6001, vi ((r1.length : Nat) : Int)), (6002, vb false)] }) (ps := [0 ≤ (1 : Int) ∧ (1 : Int) < 256, 0 < 16, 0 ≤ (2 : Int) ∧ (2 : Int) < 256, 0 < 16, 0 ≤ (1 : Int) ∧ (1 : Int) < 256, 0 < 16, 0 ≤ (1 : Int) ∧ (1 : Int) < 256, 0 < 16, 0 ≤ (2 : Int) ∧ (2 : Int) < 256, 0 < 16, Vd Try.prog 0 (.fn (.func 12) [] []) [v0 [T_api_Op.mk 1 (((Vector.replicate 16 0)).setIfInBounds 0 ((UInt8.ofNat 1))) (T_api_Stamp.mk 0 0) 0 [] [] ((Vector.replicate 16 0)) 0 ((Vector.replicate 32 0)), T_api_Op.mk 2 (((Vector.replicate 16 0)).setIfInBounds 0 ((UInt8.ofNat 2))) (T_api_Stamp.mk 0 0) 0 [] [] (((Vector.replicate 16 0)).setIfInBounds 0 ((UInt8.ofNat 1))) 0 ((Vector.replicate 32 0))], v0 [T_api_Op.mk 1 (((Vector.replicate 16 0)).setIfInBounds 0 ((UInt8.ofNat 1))) (T_api_Stamp.mk 0 0) 0 [] [] ((Vector.replicate 16 0)) 0 ((Vector.replicate 32 0)), T_api_Op.mk 1 (((Vector.replicate 16 0)).setIfInBounds 0 ((UInt8.ofNat 1))) (T_api_Stamp.mk 0 0) 0 [] [] ((Vector.replicate 16 0)) 0 ((Vector.replicate 32 0))]] [] (v0 r1) [], 0 ≤ (2 : Int) ∧ (2 : Int) < 256, 0 < 16, Vd Try.prog 0 (.fn (.func 12) [] []) [v0 [T_api_Op.mk 2 (((Vector.replicate 16 0)).setIfInBounds 0 ((UInt8.ofNat 2))) (T_api_Stamp.mk 0 0) 0 [] [] (((Vector.replicate 16 0)).setIfInBounds 0 ((UInt8.ofNat 1))) 0 ((Vector.replicate 32 0)), T_api_Op.mk 2 (((Vector.replicate 16 0)).setIfInBounds 0 ((UInt8.ofNat 1))) (T_api_Stamp.mk 0 0) 0 [] [] (((Vector.replicate 16 0)).setIfInBounds 0 ((UInt8.ofNat 2))) 0 ((Vector.replicate 32 0))], v0 [T_api_Op.mk 1 (((Vector.replicate 16 0)).setIfInBounds 0 ((UInt8.ofNat 2))) (T_api_Stamp.mk 0 0) 0 [] [] ((Vector.replicate 16 0)) 0 ((Vector.replicate 32 0)), T_api_Op.mk 1 (((Vector.replicate 16 0)).setIfInBounds 0 ((UInt8.ofNat 1))) (T_api_Stamp.mk 0 0) 0 [] [] ((Vector.replicate 16 0)) 0 ((Vector.replicate 32 0))]] [] (v0 r3) [], vi (((r1).map T_api_Op.enc).length : Nat) = vi ((r1.length : Nat) : Int), EB (decide (((r1.length : Nat) : Int) = 2)) false]) (by kernel_rfl) (Ac (by decide) (Ac (by decide) (Ac (by decide) (Ac (by decide) (Ac (by decide) (Ac (by decide) (Ac (by decide) (Ac (by decide) (Ac (by decide) (Ac (by decide) (Ac (order_SortW_valid c2 _) (Ac (by decide) (Ac (by decide) (Ac (order_SortW_valid c4 _) (Ac (nv_len _ _) (Ac (nv_b c5) An)))))))))))))))) l
theorem rolodexlaw17_awake_valid {N : Nat}  {z : Bool} (h : rolodexlaw17_awake N  = some z) (l : Nat) : Vd Try.prog l (.fn (.func 9) [] []) [] [] (vb z) [] := by
  unfold rolodexlaw17_awake at h
  obtain ⟨r1, c2, h⟩ := bind_some h
  obtain ⟨r3, c4, h⟩ := bind_some h
  rcases cond_some h with ⟨c5, h⟩ | ⟨c5, h⟩
  · obtain ⟨e6, c7, h⟩ := bind_some h
    rcases cond_some h with ⟨c8, h⟩ | ⟨c8, h⟩
    · rcases cond_some h with ⟨c9, h⟩ | ⟨c9, h⟩
      · obtain ⟨e10, c11, h⟩ := bind_some h
        rcases cond_some h with ⟨c12, h⟩ | ⟨c12, h⟩
        · obtain ⟨e13, c14, h⟩ := bind_some h
          rcases cond_some h with ⟨c15, h⟩ | ⟨c15, h⟩
          · obtain ⟨e16, c17, h⟩ := bind_some h
            rcases cond_some h with ⟨c18, h⟩ | ⟨c18, h⟩
            · obtain ⟨r19, c20, h⟩ := bind_some h
              rcases cond_some h with ⟨c21, h⟩ | ⟨c21, h⟩
              · obtain ⟨r22, c23, h⟩ := bind_some h
                obtain rfl := Option.some.inj h
                exact rolodexlaw17_awake_p0 c2 c4 c5 c7 c8 c9 c11 c12 c14 c15 c17 c18 c20 c21 c23 l
              · obtain rfl := Option.some.inj h
                exact rolodexlaw17_awake_p1 c2 c4 c5 c7 c8 c9 c11 c12 c14 c15 c17 c18 c20 c21 l
            · obtain rfl := Option.some.inj h
              exact rolodexlaw17_awake_p2 c2 c4 c5 c7 c8 c9 c11 c12 c14 c15 c17 c18 l
          · obtain rfl := Option.some.inj h
            exact rolodexlaw17_awake_p3 c2 c4 c5 c7 c8 c9 c11 c12 c14 c15 l
        · obtain rfl := Option.some.inj h
          exact rolodexlaw17_awake_p4 c2 c4 c5 c7 c8 c9 c11 c12 l
      · obtain rfl := Option.some.inj h
        exact rolodexlaw17_awake_p5 c2 c4 c5 c7 c8 c9 l
    · obtain rfl := Option.some.inj h
      exact rolodexlaw17_awake_p6 c2 c4 c5 c7 c8 l
  · obtain rfl := Option.some.inj h
    exact rolodexlaw17_awake_p7 c2 c4 c5 l
noncomputable def Try_b10 : Code := Try.f10.body.getD .skip
theorem Try_hb10 : Try.f10.body = some Try_b10 := by kernel_rfl
theorem Try_hf10 : Try.prog.funcs[10]? = some Try.f10 := by kernel_rfl
theorem Try_vf10 {hn : Hint} {lvl : Nat} {first cap args : List AV} {h h' : Ob} {O : Orc} {r : AV} {ps : List Prop} (hs : funO Try.prog hn (Valid Try.prog) 10 Try.f10 lvl (first ++ args ++ cap) h O = some ((.ret r, h'), ps)) (hp : All ps) (l : Nat) : Vd Try.prog l (.fn (.func 10) first cap) args h r h' :=
  valid_fun (draw_ok Try_draw) range_ok Try_hf10 Try_hb10 (by kernel_rfl) hs hp l
noncomputable def Try_c10_4 : Code := sub [1, 1, 0, 1, 0, 0] Try_b10
def rolodexlaw17_Few_hn : Hint where
  live := fun _ r => match r with
    | 0 => [0]
    | 1 => [0, 6]
    | 2 => [2]
    | 3 => [0, 3]
    | 4 => [0, 3, 10]
    | 5 => [0, 3]
    | 6 => [0, 3, 28]
    | 7 => [2]
    | 8 => [2]
    | _ => []
  esc := fun _ => false
  raw := fun k => false
  fresh := fun _ d => false
  vecs := fun _ d => false
noncomputable def rolodexlaw17_Few_f4 := codeO Try.prog rolodexlaw17_Few_hn (Valid Try.prog) 10 Try_c10_4
def rolodexlaw17_Few_l4_e : Unit ⊕ Int → Ex
  | .inl _ => .ret
  | .inr _ => .exit 0
def rolodexlaw17_Few_l4_s (a0 : List T_api_Op) : Unit ⊕ Int → St
  | .inl z => S5 0 29 [] [(2, vb false)] []
  | .inr z => S5 0 29 [] [(0, v0 a0), (3, vi z), (10, vb false)] []
def rolodexlaw17_Few_l4_h (a0 : List T_api_Op) (s3_4 : Int) : St := S5 0 29 [] [(0, v0 a0), (3, vi s3_4)] []
def rolodexlaw17_Few_l4_f (a0 : List T_api_Op) (N : Nat) (ih : Int → Option (Unit ⊕ Int)) (s3_4 : Int) : Option (Unit ⊕ Int) :=
    cond (decide (s3_4 < ((a0.length : Nat) : Int))) (
      (getI a0 s3_4).bind fun e2 =>
      cond (decide (80 < ((e2.P.length : Nat) : Int))) (
        some (.inl ())) (
        (getI a0 s3_4).bind fun e5 =>
        cond (decide (300 < ((e5.V.length : Nat) : Int))) (
          some (.inl ())) (
          chk (in64 (s3_4 + 1)) <|
          ih (s3_4 + 1)))) (
      some (.inr s3_4))
def rolodexlaw17_Few_l4 (a0 : List T_api_Op) : Nat → Int → Option (Unit ⊕ Int)
  | 0 => fun _ => none
  | N + 1 => rolodexlaw17_Few_l4_f a0 N (rolodexlaw17_Few_l4 a0 N)
theorem rolodexlaw17_Few_l4_p0 {a0 : List T_api_Op} {s3_4 : Int} {e2 : T_api_Op} (c1 : (decide (s3_4 < ((a0.length : Nat) : Int))) = true) (c3 : getI a0 s3_4 = some e2) (c4 : (decide (80 < ((e2.P.length : Nat) : Int))) = true) : Step rolodexlaw17_Few_f4 (rolodexlaw17_Few_l4_h a0 s3_4) (.ret) (S5 0 29 [] [(2, vb false)] []) :=
  ⟨{ an := [(6002, .pv (p1 e2))], nv := [(4002, vi ((a0.length : Nat) : Int)), (4003, vb true), (6005, vi ((e2.P.length : Nat) : Int)), (6006, vb true)] }, [vi (((a0).map T_api_Op.enc).length : Nat) = vi ((a0.length : Nat) : Int), EB (decide (s3_4 < ((a0.length : Nat) : Int))) true, EG (p0 a0) s3_4 (p1 e2), vi (((e2.P).map T_api_Piece.enc).length : Nat) = vi ((e2.P.length : Nat) : Int), EB (decide (80 < ((e2.P.length : Nat) : Int))) true], by kernel_rfl, (Ac (nv_len _ _) (Ac (nv_b c1) (Ac (getI_ok c3 71 T_api_Op.enc) (Ac (nv_len _ _) (Ac (nv_b c4) An)))))⟩
theorem rolodexlaw17_Few_l4_p1 {a0 : List T_api_Op} {s3_4 : Int} {e2 : T_api_Op} {e5 : T_api_Op} (c1 : (decide (s3_4 < ((a0.length : Nat) : Int))) = true) (c3 : getI a0 s3_4 = some e2) (c4 : (decide (80 < ((e2.P.length : Nat) : Int))) = false) (c6 : getI a0 s3_4 = some e5) (c7 : (decide (300 < ((e5.V.length : Nat) : Int))) = true) : Step rolodexlaw17_Few_f4 (rolodexlaw17_Few_l4_h a0 s3_4) (.ret) (S5 0 29 [] [(2, vb false)] []) :=
  ⟨{ an := [(6002, .pv (p1 e2)), (6010, .pv (p1 e5))], nv := [(4002, vi ((a0.length : Nat) : Int)), (4003, vb true), (6005, vi ((e2.P.length : Nat) : Int)), (6006, vb false), (6014, vb true)] }, [vi (((a0).map T_api_Op.enc).length : Nat) = vi ((a0.length : Nat) : Int), EB (decide (s3_4 < ((a0.length : Nat) : Int))) true, EG (p0 a0) s3_4 (p1 e2), vi (((e2.P).map T_api_Piece.enc).length : Nat) = vi ((e2.P.length : Nat) : Int), EB (decide (80 < ((e2.P.length : Nat) : Int))) false, EG (p0 a0) s3_4 (p1 e5), EB (decide (300 < ((e5.V.length : Nat) : Int))) true], by kernel_rfl, (Ac (nv_len _ _) (Ac (nv_b c1) (Ac (getI_ok c3 71 T_api_Op.enc) (Ac (nv_len _ _) (Ac (nv_b c4) (Ac (getI_ok c6 71 T_api_Op.enc) (Ac (nv_b c7) An)))))))⟩
theorem rolodexlaw17_Few_l4_p2 {a0 : List T_api_Op} {s3_4 : Int} {e2 : T_api_Op} {e5 : T_api_Op} (c1 : (decide (s3_4 < ((a0.length : Nat) : Int))) = true) (c3 : getI a0 s3_4 = some e2) (c4 : (decide (80 < ((e2.P.length : Nat) : Int))) = false) (c6 : getI a0 s3_4 = some e5) (c7 : (decide (300 < ((e5.V.length : Nat) : Int))) = false) (c8 : in64 (s3_4 + 1)) : Step rolodexlaw17_Few_f4 (rolodexlaw17_Few_l4_h a0 s3_4) (.normal) (S5 0 29 [] [(0, v0 a0), (3, vi (s3_4 + 1))] []) :=
  ⟨{ an := [(6002, .pv (p1 e2)), (6010, .pv (p1 e5))], nv := [(4002, vi ((a0.length : Nat) : Int)), (4003, vb true), (6005, vi ((e2.P.length : Nat) : Int)), (6006, vb false), (6014, vb false), (5001, vi (s3_4 + 1))] }, [vi (((a0).map T_api_Op.enc).length : Nat) = vi ((a0.length : Nat) : Int), EB (decide (s3_4 < ((a0.length : Nat) : Int))) true, EG (p0 a0) s3_4 (p1 e2), vi (((e2.P).map T_api_Piece.enc).length : Nat) = vi ((e2.P.length : Nat) : Int), EB (decide (80 < ((e2.P.length : Nat) : Int))) false, EG (p0 a0) s3_4 (p1 e5), EB (decide (300 < ((e5.V.length : Nat) : Int))) false, EW (s3_4 + 1)], by kernel_rfl, (Ac (nv_len _ _) (Ac (nv_b c1) (Ac (getI_ok c3 71 T_api_Op.enc) (Ac (nv_len _ _) (Ac (nv_b c4) (Ac (getI_ok c6 71 T_api_Op.enc) (Ac (nv_b c7) (Ac (nv_wrap c8) An))))))))⟩
theorem rolodexlaw17_Few_l4_p3 {a0 : List T_api_Op} {s3_4 : Int} (c1 : (decide (s3_4 < ((a0.length : Nat) : Int))) = false) : Step rolodexlaw17_Few_f4 (rolodexlaw17_Few_l4_h a0 s3_4) (.exit 0) (S5 0 29 [] [(0, v0 a0), (3, vi s3_4), (10, vb false)] []) :=
  ⟨{ nv := [(4002, vi ((a0.length : Nat) : Int)), (4003, vb false)] }, [vi (((a0).map T_api_Op.enc).length : Nat) = vi ((a0.length : Nat) : Int), EB (decide (s3_4 < ((a0.length : Nat) : Int))) false], by kernel_rfl, (Ac (nv_len _ _) (Ac (nv_b c1) An))⟩
theorem rolodexlaw17_Few_l4_ok {a0 : List T_api_Op} : ∀ {N : Nat} {s3_4 : Int} {z : Unit ⊕ Int}, rolodexlaw17_Few_l4 a0 N s3_4 = some z → LoopP rolodexlaw17_Few_f4 (rolodexlaw17_Few_l4_h a0 s3_4) (rolodexlaw17_Few_l4_e z) (rolodexlaw17_Few_l4_s a0 z) := by
  intro N
  induction N with
  | zero => intro s3_4 z h; simp [rolodexlaw17_Few_l4] at h
  | succ N ih =>
    intro s3_4 z h
    change rolodexlaw17_Few_l4_f a0 N (rolodexlaw17_Few_l4 a0 N) s3_4 = some z at h
    unfold rolodexlaw17_Few_l4_f at h
    rcases cond_some h with ⟨c1, h⟩ | ⟨c1, h⟩
    · obtain ⟨e2, c3, h⟩ := bind_some h
      rcases cond_some h with ⟨c4, h⟩ | ⟨c4, h⟩
      · obtain rfl := Option.some.inj h
        exact Step.ret (rolodexlaw17_Few_l4_p0 c1 c3 c4)
      · obtain ⟨e5, c6, h⟩ := bind_some h
        rcases cond_some h with ⟨c7, h⟩ | ⟨c7, h⟩
        · obtain rfl := Option.some.inj h
          exact Step.ret (rolodexlaw17_Few_l4_p1 c1 c3 c4 c6 c7)
        · obtain ⟨c8, h⟩ := chk_some h
          exact Step.next (rolodexlaw17_Few_l4_p2 c1 c3 c4 c6 c7 c8) (ih h)
    · obtain rfl := Option.some.inj h
      exact Step.exit (rolodexlaw17_Few_l4_p3 c1)
def rolodexlaw17_Few (N : Nat) (a0 : List T_api_Op) : Option (Bool) :=
  cond (decide (130 < ((a0.length : Nat) : Int))) (
    some false) (
    (rolodexlaw17_Few_l4 a0 N 0).bind fun z2 => match z2 with
    | .inl z3 =>
      some false
    | .inr z3 =>
      some true)
theorem rolodexlaw17_Few_p0 {a0 : List T_api_Op} (c1 : (decide (130 < ((a0.length : Nat) : Int))) = true) (l : Nat) : Vd Try.prog l (.fn (.func 10) [] []) [v0 a0] [] (vb false) [] :=
  Try_vf10 (hn := rolodexlaw17_Few_hn) (lvl := 0) (O := { nv := [(1001, vi ((a0.length : Nat) : Int)), (1002, vb true)] }) (ps := [vi (((a0).map T_api_Op.enc).length : Nat) = vi ((a0.length : Nat) : Int), EB (decide (130 < ((a0.length : Nat) : Int))) true]) (by kernel_rfl) (Ac (nv_len _ _) (Ac (nv_b c1) An)) l
theorem rolodexlaw17_Few_p1 {N : Nat} {a0 : List T_api_Op} {z3 : Unit} (c1 : (decide (130 < ((a0.length : Nat) : Int))) = false) (c4 : rolodexlaw17_Few_l4 a0 N 0 = some (.inl z3)) (l : Nat) : Vd Try.prog l (.fn (.func 10) [] []) [v0 a0] [] (vb false) [] :=
  Try_vf10 (hn := rolodexlaw17_Few_hn) (lvl := 0) (O := { nv := [(1001, vi ((a0.length : Nat) : Int)), (1002, vb false)], lo := [(4, .ret, S5 0 29 [] [(2, vb false)] [])] }) (ps := [vi (((a0).map T_api_Op.enc).length : Nat) = vi ((a0.length : Nat) : Int), EB (decide (130 < ((a0.length : Nat) : Int))) false, LoopP rolodexlaw17_Few_f4 (S5 0 29 [] [(0, v0 a0), (3, vi 0)] []) (.ret) (S5 0 29 [] [(2, vb false)] [])]) (by kernel_rfl) (Ac (nv_len _ _) (Ac (nv_b c1) (Ac (rolodexlaw17_Few_l4_ok c4) An))) l
theorem rolodexlaw17_Few_p2 {N : Nat} {a0 : List T_api_Op} {z3 : Int} (c1 : (decide (130 < ((a0.length : Nat) : Int))) = false) (c4 : rolodexlaw17_Few_l4 a0 N 0 = some (.inr z3)) (l : Nat) : Vd Try.prog l (.fn (.func 10) [] []) [v0 a0] [] (vb true) [] :=
  Try_vf10 (hn := rolodexlaw17_Few_hn) (lvl := 0) (O := { nv := [(1001, vi ((a0.length : Nat) : Int)), (1002, vb false)], lo := [(4, .exit 0, S5 0 29 [] [(0, v0 a0), (3, vi z3), (10, vb false)] [])] }) (ps := [vi (((a0).map T_api_Op.enc).length : Nat) = vi ((a0.length : Nat) : Int), EB (decide (130 < ((a0.length : Nat) : Int))) false, LoopP rolodexlaw17_Few_f4 (S5 0 29 [] [(0, v0 a0), (3, vi 0)] []) (.exit 0) (S5 0 29 [] [(0, v0 a0), (3, vi z3), (10, vb false)] [])]) (by kernel_rfl) (Ac (nv_len _ _) (Ac (nv_b c1) (Ac (rolodexlaw17_Few_l4_ok c4) An))) l
theorem rolodexlaw17_Few_valid {N : Nat} {a0 : List T_api_Op} {z : Bool} (h : rolodexlaw17_Few N a0 = some z) (l : Nat) : Vd Try.prog l (.fn (.func 10) [] []) [v0 a0] [] (vb z) [] := by
  unfold rolodexlaw17_Few at h
  rcases cond_some h with ⟨c1, h⟩ | ⟨c1, h⟩
  · obtain rfl := Option.some.inj h
    exact rolodexlaw17_Few_p0 c1 l
  · obtain ⟨z2, c4, h⟩ := bind_some h
    rcases z2 with z3 | z3 <;> dsimp only at h
    · obtain rfl := Option.some.inj h
      exact rolodexlaw17_Few_p1 c1 c4 l
    · obtain rfl := Option.some.inj h
      exact rolodexlaw17_Few_p2 c1 c4 l
noncomputable def Try_c6_8 : Code := sub [1, 1, 1, 1, 1, 1, 0, 1, 0, 0] Try_b6
noncomputable def Try_b11 : Code := Try.f11.body.getD .skip
theorem Try_hb11 : Try.f11.body = some Try_b11 := by kernel_rfl
theorem Try_hf11 : Try.prog.funcs[11]? = some Try.f11 := by kernel_rfl
theorem Try_vf11 {hn : Hint} {lvl : Nat} {first cap args : List AV} {h h' : Ob} {O : Orc} {r : AV} {ps : List Prop} (hs : funO Try.prog hn (Valid Try.prog) 11 Try.f11 lvl (first ++ args ++ cap) h O = some ((.ret r, h'), ps)) (hp : All ps) (l : Nat) : Vd Try.prog l (.fn (.func 11) first cap) args h r h' :=
  valid_fun (draw_ok Try_draw) range_ok Try_hf11 Try_hb11 (by kernel_rfl) hs hp l
noncomputable def Try_c11_4 : Code := sub [1, 1, 0, 1, 0, 0] Try_b11
noncomputable def Try_b18 : Code := Try.f18.body.getD .skip
theorem Try_hb18 : Try.f18.body = some Try_b18 := by kernel_rfl
theorem Try_hf18 : Try.prog.funcs[18]? = some Try.f18 := by kernel_rfl
theorem Try_vf18 {hn : Hint} {lvl : Nat} {first cap args : List AV} {h h' : Ob} {O : Orc} {r : AV} {ps : List Prop} (hs : funO Try.prog hn (Valid Try.prog) 18 Try.f18 lvl (first ++ args ++ cap) h O = some ((.ret r, h'), ps)) (hp : All ps) (l : Nat) : Vd Try.prog l (.fn (.func 18) first cap) args h r h' :=
  valid_fun (draw_ok Try_draw) range_ok Try_hf18 Try_hb18 (by kernel_rfl) hs hp l
noncomputable def Try_b30 : Code := Try.f30.body.getD .skip
theorem Try_hb30 : Try.f30.body = some Try_b30 := by kernel_rfl
theorem Try_hf30 : Try.prog.funcs[30]? = some Try.f30 := by kernel_rfl
theorem Try_vf30 {hn : Hint} {lvl : Nat} {first cap args : List AV} {h h' : Ob} {O : Orc} {r : AV} {ps : List Prop} (hs : funO Try.prog hn (Valid Try.prog) 30 Try.f30 lvl (first ++ args ++ cap) h O = some ((.ret r, h'), ps)) (hp : All ps) (l : Nat) : Vd Try.prog l (.fn (.func 30) first cap) args h r h' :=
  valid_fun (draw_ok Try_draw) range_ok Try_hf30 Try_hb30 (by kernel_rfl) hs hp l
noncomputable def Try_c30_4 : Code := sub [1, 1, 0, 1, 0, 0] Try_b30
def rolodexref11_Same_hn : Hint where
  live := fun _ r => match r with
    | 0 => [0, 1]
    | 1 => [0, 1, 10]
    | 2 => [4]
    | 3 => [0, 1, 5]
    | 4 => [0, 1, 5, 14]
    | 5 => [0, 1, 5]
    | 6 => [0, 1, 5, 25]
    | 7 => [4]
    | 8 => [4]
    | _ => []
  esc := fun _ => false
  raw := fun k => false
  fresh := fun _ d => false
  vecs := fun _ d => false
noncomputable def rolodexref11_Same_f4 := codeO Try.prog rolodexref11_Same_hn (Valid Try.prog) 30 Try_c30_4
def rolodexref11_Same_l4_e : Unit ⊕ Int → Ex
  | .inl _ => .ret
  | .inr _ => .exit 0
def rolodexref11_Same_l4_s (a0 : List T_api_Piece) (a1 : List T_api_Piece) : Unit ⊕ Int → St
  | .inl z => S5 0 26 [] [(4, vb false)] []
  | .inr z => S5 0 26 [] [(0, v3 a0), (1, v3 a1), (5, vi z), (14, vb false)] []
def rolodexref11_Same_l4_h (a0 : List T_api_Piece) (a1 : List T_api_Piece) (s5_4 : Int) : St := S5 0 26 [] [(0, v3 a0), (1, v3 a1), (5, vi s5_4)] []
def rolodexref11_Same_l4_f (a0 : List T_api_Piece) (a1 : List T_api_Piece) (N : Nat) (ih : Int → Option (Unit ⊕ Int)) (s5_4 : Int) : Option (Unit ⊕ Int) :=
    cond (decide (s5_4 < ((a0.length : Nat) : Int))) (
      (getI a0 s5_4).bind fun e2 =>
      (getI a1 s5_4).bind fun e4 =>
      cond (!((decide (e2.Copy = e4.Copy)) && ((decide (e2.From = e4.From)) && ((decide (e2.Len = e4.Len)) && ((decide (e2.Lit = e4.Lit)) && true))))) (
        some (.inl ())) (
        chk (in64 (s5_4 + 1)) <|
        ih (s5_4 + 1))) (
      some (.inr s5_4))
def rolodexref11_Same_l4 (a0 : List T_api_Piece) (a1 : List T_api_Piece) : Nat → Int → Option (Unit ⊕ Int)
  | 0 => fun _ => none
  | N + 1 => rolodexref11_Same_l4_f a0 a1 N (rolodexref11_Same_l4 a0 a1 N)
theorem rolodexref11_Same_l4_p0 {a0 : List T_api_Piece} {a1 : List T_api_Piece} {s5_4 : Int} {e2 : T_api_Piece} {e4 : T_api_Piece} (c1 : (decide (s5_4 < ((a0.length : Nat) : Int))) = true) (c3 : getI a0 s5_4 = some e2) (c5 : getI a1 s5_4 = some e4) (c6 : (!((decide (e2.Copy = e4.Copy)) && ((decide (e2.From = e4.From)) && ((decide (e2.Len = e4.Len)) && ((decide (e2.Lit = e4.Lit)) && true))))) = true) : Step rolodexref11_Same_f4 (rolodexref11_Same_l4_h a0 a1 s5_4) (.ret) (S5 0 26 [] [(4, vb false)] []) :=
  ⟨{ an := [(6002, .pv (p5 e2)), (6006, .pv (p5 e4))], nv := [(4002, vi ((a0.length : Nat) : Int)), (4003, vb true), (6008, vb true)] }, [vi (((a0).map T_api_Piece.enc).length : Nat) = vi ((a0.length : Nat) : Int), EB (decide (s5_4 < ((a0.length : Nat) : Int))) true, EG (p3 a0) s5_4 (p5 e2), EG (p3 a1) s5_4 (p5 e4), EB (!((decide (e2.Copy = e4.Copy)) && ((decide (e2.From = e4.From)) && ((decide (e2.Len = e4.Len)) && ((decide (e2.Lit = e4.Lit)) && true))))) true], by kernel_rfl, (Ac (nv_len _ _) (Ac (nv_b c1) (Ac (getI_ok c3 4 T_api_Piece.enc) (Ac (getI_ok c5 4 T_api_Piece.enc) (Ac (nv_b c6) An)))))⟩
theorem rolodexref11_Same_l4_p1 {a0 : List T_api_Piece} {a1 : List T_api_Piece} {s5_4 : Int} {e2 : T_api_Piece} {e4 : T_api_Piece} (c1 : (decide (s5_4 < ((a0.length : Nat) : Int))) = true) (c3 : getI a0 s5_4 = some e2) (c5 : getI a1 s5_4 = some e4) (c6 : (!((decide (e2.Copy = e4.Copy)) && ((decide (e2.From = e4.From)) && ((decide (e2.Len = e4.Len)) && ((decide (e2.Lit = e4.Lit)) && true))))) = false) (c7 : in64 (s5_4 + 1)) : Step rolodexref11_Same_f4 (rolodexref11_Same_l4_h a0 a1 s5_4) (.normal) (S5 0 26 [] [(0, v3 a0), (1, v3 a1), (5, vi (s5_4 + 1))] []) :=
  ⟨{ an := [(6002, .pv (p5 e2)), (6006, .pv (p5 e4))], nv := [(4002, vi ((a0.length : Nat) : Int)), (4003, vb true), (6008, vb false), (5001, vi (s5_4 + 1))] }, [vi (((a0).map T_api_Piece.enc).length : Nat) = vi ((a0.length : Nat) : Int), EB (decide (s5_4 < ((a0.length : Nat) : Int))) true, EG (p3 a0) s5_4 (p5 e2), EG (p3 a1) s5_4 (p5 e4), EB (!((decide (e2.Copy = e4.Copy)) && ((decide (e2.From = e4.From)) && ((decide (e2.Len = e4.Len)) && ((decide (e2.Lit = e4.Lit)) && true))))) false, EW (s5_4 + 1)], by kernel_rfl, (Ac (nv_len _ _) (Ac (nv_b c1) (Ac (getI_ok c3 4 T_api_Piece.enc) (Ac (getI_ok c5 4 T_api_Piece.enc) (Ac (nv_b c6) (Ac (nv_wrap c7) An))))))⟩
theorem rolodexref11_Same_l4_p2 {a0 : List T_api_Piece} {a1 : List T_api_Piece} {s5_4 : Int} (c1 : (decide (s5_4 < ((a0.length : Nat) : Int))) = false) : Step rolodexref11_Same_f4 (rolodexref11_Same_l4_h a0 a1 s5_4) (.exit 0) (S5 0 26 [] [(0, v3 a0), (1, v3 a1), (5, vi s5_4), (14, vb false)] []) :=
  ⟨{ nv := [(4002, vi ((a0.length : Nat) : Int)), (4003, vb false)] }, [vi (((a0).map T_api_Piece.enc).length : Nat) = vi ((a0.length : Nat) : Int), EB (decide (s5_4 < ((a0.length : Nat) : Int))) false], by kernel_rfl, (Ac (nv_len _ _) (Ac (nv_b c1) An))⟩
theorem rolodexref11_Same_l4_ok {a0 : List T_api_Piece} {a1 : List T_api_Piece} : ∀ {N : Nat} {s5_4 : Int} {z : Unit ⊕ Int}, rolodexref11_Same_l4 a0 a1 N s5_4 = some z → LoopP rolodexref11_Same_f4 (rolodexref11_Same_l4_h a0 a1 s5_4) (rolodexref11_Same_l4_e z) (rolodexref11_Same_l4_s a0 a1 z) := by
  intro N
  induction N with
  | zero => intro s5_4 z h; simp [rolodexref11_Same_l4] at h
  | succ N ih =>
    intro s5_4 z h
    change rolodexref11_Same_l4_f a0 a1 N (rolodexref11_Same_l4 a0 a1 N) s5_4 = some z at h
    unfold rolodexref11_Same_l4_f at h
    rcases cond_some h with ⟨c1, h⟩ | ⟨c1, h⟩
    · obtain ⟨e2, c3, h⟩ := bind_some h
      obtain ⟨e4, c5, h⟩ := bind_some h
      rcases cond_some h with ⟨c6, h⟩ | ⟨c6, h⟩
      · obtain rfl := Option.some.inj h
        exact Step.ret (rolodexref11_Same_l4_p0 c1 c3 c5 c6)
      · obtain ⟨c7, h⟩ := chk_some h
        exact Step.next (rolodexref11_Same_l4_p1 c1 c3 c5 c6 c7) (ih h)
    · obtain rfl := Option.some.inj h
      exact Step.exit (rolodexref11_Same_l4_p2 c1)
def rolodexref11_Same (N : Nat) (a0 : List T_api_Piece) (a1 : List T_api_Piece) : Option (Bool) :=
  cond (!decide (((a0.length : Nat) : Int) = ((a1.length : Nat) : Int))) (
    some false) (
    (rolodexref11_Same_l4 a0 a1 N 0).bind fun z2 => match z2 with
    | .inl z3 =>
      some false
    | .inr z3 =>
      some true)
theorem rolodexref11_Same_p0 {a0 : List T_api_Piece} {a1 : List T_api_Piece} (c1 : (!decide (((a0.length : Nat) : Int) = ((a1.length : Nat) : Int))) = true) (l : Nat) : Vd Try.prog l (.fn (.func 30) [] []) [v3 a0, v3 a1] [] (vb false) [] :=
  Try_vf30 (hn := rolodexref11_Same_hn) (lvl := 0) (O := { nv := [(1001, vi ((a0.length : Nat) : Int)), (1003, vi ((a1.length : Nat) : Int)), (1004, vb true)] }) (ps := [vi (((a0).map T_api_Piece.enc).length : Nat) = vi ((a0.length : Nat) : Int), vi (((a1).map T_api_Piece.enc).length : Nat) = vi ((a1.length : Nat) : Int), EB (!decide (((a0.length : Nat) : Int) = ((a1.length : Nat) : Int))) true]) (by kernel_rfl) (Ac (nv_len _ _) (Ac (nv_len _ _) (Ac (nv_b c1) An))) l
theorem rolodexref11_Same_p1 {N : Nat} {a0 : List T_api_Piece} {a1 : List T_api_Piece} {z3 : Unit} (c1 : (!decide (((a0.length : Nat) : Int) = ((a1.length : Nat) : Int))) = false) (c4 : rolodexref11_Same_l4 a0 a1 N 0 = some (.inl z3)) (l : Nat) : Vd Try.prog l (.fn (.func 30) [] []) [v3 a0, v3 a1] [] (vb false) [] :=
  Try_vf30 (hn := rolodexref11_Same_hn) (lvl := 0) (O := { nv := [(1001, vi ((a0.length : Nat) : Int)), (1003, vi ((a1.length : Nat) : Int)), (1004, vb false)], lo := [(4, .ret, S5 0 26 [] [(4, vb false)] [])] }) (ps := [vi (((a0).map T_api_Piece.enc).length : Nat) = vi ((a0.length : Nat) : Int), vi (((a1).map T_api_Piece.enc).length : Nat) = vi ((a1.length : Nat) : Int), EB (!decide (((a0.length : Nat) : Int) = ((a1.length : Nat) : Int))) false, LoopP rolodexref11_Same_f4 (S5 0 26 [] [(0, v3 a0), (1, v3 a1), (5, vi 0)] []) (.ret) (S5 0 26 [] [(4, vb false)] [])]) (by kernel_rfl) (Ac (nv_len _ _) (Ac (nv_len _ _) (Ac (nv_b c1) (Ac (rolodexref11_Same_l4_ok c4) An)))) l
theorem rolodexref11_Same_p2 {N : Nat} {a0 : List T_api_Piece} {a1 : List T_api_Piece} {z3 : Int} (c1 : (!decide (((a0.length : Nat) : Int) = ((a1.length : Nat) : Int))) = false) (c4 : rolodexref11_Same_l4 a0 a1 N 0 = some (.inr z3)) (l : Nat) : Vd Try.prog l (.fn (.func 30) [] []) [v3 a0, v3 a1] [] (vb true) [] :=
  Try_vf30 (hn := rolodexref11_Same_hn) (lvl := 0) (O := { nv := [(1001, vi ((a0.length : Nat) : Int)), (1003, vi ((a1.length : Nat) : Int)), (1004, vb false)], lo := [(4, .exit 0, S5 0 26 [] [(0, v3 a0), (1, v3 a1), (5, vi z3), (14, vb false)] [])] }) (ps := [vi (((a0).map T_api_Piece.enc).length : Nat) = vi ((a0.length : Nat) : Int), vi (((a1).map T_api_Piece.enc).length : Nat) = vi ((a1.length : Nat) : Int), EB (!decide (((a0.length : Nat) : Int) = ((a1.length : Nat) : Int))) false, LoopP rolodexref11_Same_f4 (S5 0 26 [] [(0, v3 a0), (1, v3 a1), (5, vi 0)] []) (.exit 0) (S5 0 26 [] [(0, v3 a0), (1, v3 a1), (5, vi z3), (14, vb false)] [])]) (by kernel_rfl) (Ac (nv_len _ _) (Ac (nv_len _ _) (Ac (nv_b c1) (Ac (rolodexref11_Same_l4_ok c4) An)))) l
theorem rolodexref11_Same_valid {N : Nat} {a0 : List T_api_Piece} {a1 : List T_api_Piece} {z : Bool} (h : rolodexref11_Same N a0 a1 = some z) (l : Nat) : Vd Try.prog l (.fn (.func 30) [] []) [v3 a0, v3 a1] [] (vb z) [] := by
  unfold rolodexref11_Same at h
  rcases cond_some h with ⟨c1, h⟩ | ⟨c1, h⟩
  · obtain rfl := Option.some.inj h
    exact rolodexref11_Same_p0 c1 l
  · obtain ⟨z2, c4, h⟩ := bind_some h
    rcases z2 with z3 | z3 <;> dsimp only at h
    · obtain rfl := Option.some.inj h
      exact rolodexref11_Same_p1 c1 c4 l
    · obtain rfl := Option.some.inj h
      exact rolodexref11_Same_p2 c1 c4 l
def rolodexref15_Same_hn : Hint where
  live := fun _ r => match r with
    | 0 => [2, 3]
    | 1 => [2, 3, 5]
    | 2 => [4]
    | _ => []
  esc := fun _ => false
  raw := fun k => false
  fresh := fun _ d => false
  vecs := fun _ d => false
def rolodexref15_Same (N : Nat) (a0 : T_api_Op) (a1 : T_api_Op) : Option (Bool) :=
  (rolodexref11_Same N a0.P a1.P).bind fun r1 =>
  cond (r1) (
    cond (decide (a0.Kind = a1.Kind)) (
      cond (decide (a0.ID.toList = a1.ID.toList)) (
        cond ((decide (a0.S.N = a1.S.N)) && ((decide (a0.S.Rep = a1.S.Rep)) && true)) (
          cond (decide (a0.No = a1.No)) (
            cond (decide (a0.V = a1.V)) (
              cond (decide (a0.From.toList = a1.From.toList)) (
                cond (decide (a0.FromNo = a1.FromNo)) (
                  some (decide (a0.D.toList = a1.D.toList))) (
                  some false)) (
                some false)) (
              some false)) (
            some false)) (
          some false)) (
        some false)) (
      some false)) (
    some false)
theorem rolodexref15_Same_p0 {N : Nat} {a0 : T_api_Op} {a1 : T_api_Op} {r1 : Bool} (c2 : rolodexref11_Same N a0.P a1.P = some r1) (c3 : r1 = true) (c4 : (decide (a0.Kind = a1.Kind)) = true) (c5 : (decide (a0.ID.toList = a1.ID.toList)) = true) (c6 : ((decide (a0.S.N = a1.S.N)) && ((decide (a0.S.Rep = a1.S.Rep)) && true)) = true) (c7 : (decide (a0.No = a1.No)) = true) (c8 : (decide (a0.V = a1.V)) = true) (c9 : (decide (a0.From.toList = a1.From.toList)) = true) (c10 : (decide (a0.FromNo = a1.FromNo)) = true) (l : Nat) : Vd Try.prog l (.fn (.func 18) [] []) [v1 a0, v1 a1] [] (vb (decide (a0.D.toList = a1.D.toList))) [] :=
  Try_vf18 (hn := rolodexref15_Same_hn) (lvl := 0) (O := { an := [(1004, .call (.ret (vb r1)) [])], nv := [(1004, vb true), (2006, vb true), (2013, vb true), (2020, vb true), (2027, vb true), (2034, vb true), (2041, vb true), (2048, vb true)] }) (ps := [Vd Try.prog 0 (.fn (.func 30) [] []) [v3 a0.P, v3 a1.P] [] (vb r1) [], EB r1 true, EB (decide (a0.Kind = a1.Kind)) true, EB (decide (a0.ID.toList = a1.ID.toList)) true, EB ((decide (a0.S.N = a1.S.N)) && ((decide (a0.S.Rep = a1.S.Rep)) && true)) true, EB (decide (a0.No = a1.No)) true, EB (decide (a0.V = a1.V)) true, EB (decide (a0.From.toList = a1.From.toList)) true, EB (decide (a0.FromNo = a1.FromNo)) true]) (by kernel_rfl) (Ac (rolodexref11_Same_valid c2 _) (Ac (nv_b c3) (Ac (nv_b c4) (Ac (nv_b c5) (Ac (nv_b c6) (Ac (nv_b c7) (Ac (nv_b c8) (Ac (nv_b c9) (Ac (nv_b c10) An))))))))) l
theorem rolodexref15_Same_p1 {N : Nat} {a0 : T_api_Op} {a1 : T_api_Op} {r1 : Bool} (c2 : rolodexref11_Same N a0.P a1.P = some r1) (c3 : r1 = true) (c4 : (decide (a0.Kind = a1.Kind)) = true) (c5 : (decide (a0.ID.toList = a1.ID.toList)) = true) (c6 : ((decide (a0.S.N = a1.S.N)) && ((decide (a0.S.Rep = a1.S.Rep)) && true)) = true) (c7 : (decide (a0.No = a1.No)) = true) (c8 : (decide (a0.V = a1.V)) = true) (c9 : (decide (a0.From.toList = a1.From.toList)) = true) (c10 : (decide (a0.FromNo = a1.FromNo)) = false) (l : Nat) : Vd Try.prog l (.fn (.func 18) [] []) [v1 a0, v1 a1] [] (vb false) [] :=
  Try_vf18 (hn := rolodexref15_Same_hn) (lvl := 0) (O := { an := [(1004, .call (.ret (vb r1)) [])], nv := [(1004, vb true), (2006, vb true), (2013, vb true), (2020, vb true), (2027, vb true), (2034, vb true), (2041, vb true), (2048, vb false)] }) (ps := [Vd Try.prog 0 (.fn (.func 30) [] []) [v3 a0.P, v3 a1.P] [] (vb r1) [], EB r1 true, EB (decide (a0.Kind = a1.Kind)) true, EB (decide (a0.ID.toList = a1.ID.toList)) true, EB ((decide (a0.S.N = a1.S.N)) && ((decide (a0.S.Rep = a1.S.Rep)) && true)) true, EB (decide (a0.No = a1.No)) true, EB (decide (a0.V = a1.V)) true, EB (decide (a0.From.toList = a1.From.toList)) true, EB (decide (a0.FromNo = a1.FromNo)) false]) (by kernel_rfl) (Ac (rolodexref11_Same_valid c2 _) (Ac (nv_b c3) (Ac (nv_b c4) (Ac (nv_b c5) (Ac (nv_b c6) (Ac (nv_b c7) (Ac (nv_b c8) (Ac (nv_b c9) (Ac (nv_b c10) An))))))))) l
theorem rolodexref15_Same_p2 {N : Nat} {a0 : T_api_Op} {a1 : T_api_Op} {r1 : Bool} (c2 : rolodexref11_Same N a0.P a1.P = some r1) (c3 : r1 = true) (c4 : (decide (a0.Kind = a1.Kind)) = true) (c5 : (decide (a0.ID.toList = a1.ID.toList)) = true) (c6 : ((decide (a0.S.N = a1.S.N)) && ((decide (a0.S.Rep = a1.S.Rep)) && true)) = true) (c7 : (decide (a0.No = a1.No)) = true) (c8 : (decide (a0.V = a1.V)) = true) (c9 : (decide (a0.From.toList = a1.From.toList)) = false) (l : Nat) : Vd Try.prog l (.fn (.func 18) [] []) [v1 a0, v1 a1] [] (vb false) [] :=
  Try_vf18 (hn := rolodexref15_Same_hn) (lvl := 0) (O := { an := [(1004, .call (.ret (vb r1)) [])], nv := [(1004, vb true), (2006, vb true), (2013, vb true), (2020, vb true), (2027, vb true), (2034, vb true), (2041, vb false)] }) (ps := [Vd Try.prog 0 (.fn (.func 30) [] []) [v3 a0.P, v3 a1.P] [] (vb r1) [], EB r1 true, EB (decide (a0.Kind = a1.Kind)) true, EB (decide (a0.ID.toList = a1.ID.toList)) true, EB ((decide (a0.S.N = a1.S.N)) && ((decide (a0.S.Rep = a1.S.Rep)) && true)) true, EB (decide (a0.No = a1.No)) true, EB (decide (a0.V = a1.V)) true, EB (decide (a0.From.toList = a1.From.toList)) false]) (by kernel_rfl) (Ac (rolodexref11_Same_valid c2 _) (Ac (nv_b c3) (Ac (nv_b c4) (Ac (nv_b c5) (Ac (nv_b c6) (Ac (nv_b c7) (Ac (nv_b c8) (Ac (nv_b c9) An)))))))) l
theorem rolodexref15_Same_p3 {N : Nat} {a0 : T_api_Op} {a1 : T_api_Op} {r1 : Bool} (c2 : rolodexref11_Same N a0.P a1.P = some r1) (c3 : r1 = true) (c4 : (decide (a0.Kind = a1.Kind)) = true) (c5 : (decide (a0.ID.toList = a1.ID.toList)) = true) (c6 : ((decide (a0.S.N = a1.S.N)) && ((decide (a0.S.Rep = a1.S.Rep)) && true)) = true) (c7 : (decide (a0.No = a1.No)) = true) (c8 : (decide (a0.V = a1.V)) = false) (l : Nat) : Vd Try.prog l (.fn (.func 18) [] []) [v1 a0, v1 a1] [] (vb false) [] :=
  Try_vf18 (hn := rolodexref15_Same_hn) (lvl := 0) (O := { an := [(1004, .call (.ret (vb r1)) [])], nv := [(1004, vb true), (2006, vb true), (2013, vb true), (2020, vb true), (2027, vb true), (2034, vb false)] }) (ps := [Vd Try.prog 0 (.fn (.func 30) [] []) [v3 a0.P, v3 a1.P] [] (vb r1) [], EB r1 true, EB (decide (a0.Kind = a1.Kind)) true, EB (decide (a0.ID.toList = a1.ID.toList)) true, EB ((decide (a0.S.N = a1.S.N)) && ((decide (a0.S.Rep = a1.S.Rep)) && true)) true, EB (decide (a0.No = a1.No)) true, EB (decide (a0.V = a1.V)) false]) (by kernel_rfl) (Ac (rolodexref11_Same_valid c2 _) (Ac (nv_b c3) (Ac (nv_b c4) (Ac (nv_b c5) (Ac (nv_b c6) (Ac (nv_b c7) (Ac (nv_b c8) An))))))) l
theorem rolodexref15_Same_p4 {N : Nat} {a0 : T_api_Op} {a1 : T_api_Op} {r1 : Bool} (c2 : rolodexref11_Same N a0.P a1.P = some r1) (c3 : r1 = true) (c4 : (decide (a0.Kind = a1.Kind)) = true) (c5 : (decide (a0.ID.toList = a1.ID.toList)) = true) (c6 : ((decide (a0.S.N = a1.S.N)) && ((decide (a0.S.Rep = a1.S.Rep)) && true)) = true) (c7 : (decide (a0.No = a1.No)) = false) (l : Nat) : Vd Try.prog l (.fn (.func 18) [] []) [v1 a0, v1 a1] [] (vb false) [] :=
  Try_vf18 (hn := rolodexref15_Same_hn) (lvl := 0) (O := { an := [(1004, .call (.ret (vb r1)) [])], nv := [(1004, vb true), (2006, vb true), (2013, vb true), (2020, vb true), (2027, vb false)] }) (ps := [Vd Try.prog 0 (.fn (.func 30) [] []) [v3 a0.P, v3 a1.P] [] (vb r1) [], EB r1 true, EB (decide (a0.Kind = a1.Kind)) true, EB (decide (a0.ID.toList = a1.ID.toList)) true, EB ((decide (a0.S.N = a1.S.N)) && ((decide (a0.S.Rep = a1.S.Rep)) && true)) true, EB (decide (a0.No = a1.No)) false]) (by kernel_rfl) (Ac (rolodexref11_Same_valid c2 _) (Ac (nv_b c3) (Ac (nv_b c4) (Ac (nv_b c5) (Ac (nv_b c6) (Ac (nv_b c7) An)))))) l
theorem rolodexref15_Same_p5 {N : Nat} {a0 : T_api_Op} {a1 : T_api_Op} {r1 : Bool} (c2 : rolodexref11_Same N a0.P a1.P = some r1) (c3 : r1 = true) (c4 : (decide (a0.Kind = a1.Kind)) = true) (c5 : (decide (a0.ID.toList = a1.ID.toList)) = true) (c6 : ((decide (a0.S.N = a1.S.N)) && ((decide (a0.S.Rep = a1.S.Rep)) && true)) = false) (l : Nat) : Vd Try.prog l (.fn (.func 18) [] []) [v1 a0, v1 a1] [] (vb false) [] :=
  Try_vf18 (hn := rolodexref15_Same_hn) (lvl := 0) (O := { an := [(1004, .call (.ret (vb r1)) [])], nv := [(1004, vb true), (2006, vb true), (2013, vb true), (2020, vb false)] }) (ps := [Vd Try.prog 0 (.fn (.func 30) [] []) [v3 a0.P, v3 a1.P] [] (vb r1) [], EB r1 true, EB (decide (a0.Kind = a1.Kind)) true, EB (decide (a0.ID.toList = a1.ID.toList)) true, EB ((decide (a0.S.N = a1.S.N)) && ((decide (a0.S.Rep = a1.S.Rep)) && true)) false]) (by kernel_rfl) (Ac (rolodexref11_Same_valid c2 _) (Ac (nv_b c3) (Ac (nv_b c4) (Ac (nv_b c5) (Ac (nv_b c6) An))))) l
theorem rolodexref15_Same_p6 {N : Nat} {a0 : T_api_Op} {a1 : T_api_Op} {r1 : Bool} (c2 : rolodexref11_Same N a0.P a1.P = some r1) (c3 : r1 = true) (c4 : (decide (a0.Kind = a1.Kind)) = true) (c5 : (decide (a0.ID.toList = a1.ID.toList)) = false) (l : Nat) : Vd Try.prog l (.fn (.func 18) [] []) [v1 a0, v1 a1] [] (vb false) [] :=
  Try_vf18 (hn := rolodexref15_Same_hn) (lvl := 0) (O := { an := [(1004, .call (.ret (vb r1)) [])], nv := [(1004, vb true), (2006, vb true), (2013, vb false)] }) (ps := [Vd Try.prog 0 (.fn (.func 30) [] []) [v3 a0.P, v3 a1.P] [] (vb r1) [], EB r1 true, EB (decide (a0.Kind = a1.Kind)) true, EB (decide (a0.ID.toList = a1.ID.toList)) false]) (by kernel_rfl) (Ac (rolodexref11_Same_valid c2 _) (Ac (nv_b c3) (Ac (nv_b c4) (Ac (nv_b c5) An)))) l
theorem rolodexref15_Same_p7 {N : Nat} {a0 : T_api_Op} {a1 : T_api_Op} {r1 : Bool} (c2 : rolodexref11_Same N a0.P a1.P = some r1) (c3 : r1 = true) (c4 : (decide (a0.Kind = a1.Kind)) = false) (l : Nat) : Vd Try.prog l (.fn (.func 18) [] []) [v1 a0, v1 a1] [] (vb false) [] :=
  Try_vf18 (hn := rolodexref15_Same_hn) (lvl := 0) (O := { an := [(1004, .call (.ret (vb r1)) [])], nv := [(1004, vb true), (2006, vb false)] }) (ps := [Vd Try.prog 0 (.fn (.func 30) [] []) [v3 a0.P, v3 a1.P] [] (vb r1) [], EB r1 true, EB (decide (a0.Kind = a1.Kind)) false]) (by kernel_rfl) (Ac (rolodexref11_Same_valid c2 _) (Ac (nv_b c3) (Ac (nv_b c4) An))) l
theorem rolodexref15_Same_p8 {N : Nat} {a0 : T_api_Op} {a1 : T_api_Op} {r1 : Bool} (c2 : rolodexref11_Same N a0.P a1.P = some r1) (c3 : r1 = false) (l : Nat) : Vd Try.prog l (.fn (.func 18) [] []) [v1 a0, v1 a1] [] (vb false) [] :=
  Try_vf18 (hn := rolodexref15_Same_hn) (lvl := 0) (O := { an := [(1004, .call (.ret (vb r1)) [])], nv := [(1004, vb false)] }) (ps := [Vd Try.prog 0 (.fn (.func 30) [] []) [v3 a0.P, v3 a1.P] [] (vb r1) [], EB r1 false]) (by kernel_rfl) (Ac (rolodexref11_Same_valid c2 _) (Ac (nv_b c3) An)) l
theorem rolodexref15_Same_valid {N : Nat} {a0 : T_api_Op} {a1 : T_api_Op} {z : Bool} (h : rolodexref15_Same N a0 a1 = some z) (l : Nat) : Vd Try.prog l (.fn (.func 18) [] []) [v1 a0, v1 a1] [] (vb z) [] := by
  unfold rolodexref15_Same at h
  obtain ⟨r1, c2, h⟩ := bind_some h
  rcases cond_some h with ⟨c3, h⟩ | ⟨c3, h⟩
  · rcases cond_some h with ⟨c4, h⟩ | ⟨c4, h⟩
    · rcases cond_some h with ⟨c5, h⟩ | ⟨c5, h⟩
      · rcases cond_some h with ⟨c6, h⟩ | ⟨c6, h⟩
        · rcases cond_some h with ⟨c7, h⟩ | ⟨c7, h⟩
          · rcases cond_some h with ⟨c8, h⟩ | ⟨c8, h⟩
            · rcases cond_some h with ⟨c9, h⟩ | ⟨c9, h⟩
              · rcases cond_some h with ⟨c10, h⟩ | ⟨c10, h⟩
                · obtain rfl := Option.some.inj h
                  exact rolodexref15_Same_p0 c2 c3 c4 c5 c6 c7 c8 c9 c10 l
                · obtain rfl := Option.some.inj h
                  exact rolodexref15_Same_p1 c2 c3 c4 c5 c6 c7 c8 c9 c10 l
              · obtain rfl := Option.some.inj h
                exact rolodexref15_Same_p2 c2 c3 c4 c5 c6 c7 c8 c9 l
            · obtain rfl := Option.some.inj h
              exact rolodexref15_Same_p3 c2 c3 c4 c5 c6 c7 c8 l
          · obtain rfl := Option.some.inj h
            exact rolodexref15_Same_p4 c2 c3 c4 c5 c6 c7 l
        · obtain rfl := Option.some.inj h
          exact rolodexref15_Same_p5 c2 c3 c4 c5 c6 l
      · obtain rfl := Option.some.inj h
        exact rolodexref15_Same_p6 c2 c3 c4 c5 l
    · obtain rfl := Option.some.inj h
      exact rolodexref15_Same_p7 c2 c3 c4 l
  · obtain rfl := Option.some.inj h
    exact rolodexref15_Same_p8 c2 c3 l
def rolodexref16_Same_hn : Hint where
  live := fun _ r => match r with
    | 0 => [0, 1]
    | 1 => [0, 1, 11]
    | 2 => [4]
    | 3 => [0, 1, 5]
    | 4 => [0, 1, 5, 15]
    | 5 => [0, 1, 5]
    | 6 => [0, 1, 5, 6]
    | 7 => [0, 1, 5, 28]
    | 8 => [4]
    | 9 => [4]
    | _ => []
  esc := fun _ => false
  raw := fun k => false
  fresh := fun _ d => false
  vecs := fun _ d => false
noncomputable def rolodexref16_Same_f4 := codeO Try.prog rolodexref16_Same_hn (Valid Try.prog) 11 Try_c11_4
def rolodexref16_Same_l4_e : Int ⊕ Unit → Ex
  | .inl _ => .exit 0
  | .inr _ => .ret
def rolodexref16_Same_l4_s (a0 : List T_api_Op) (a1 : List T_api_Op) : Int ⊕ Unit → St
  | .inl z => S5 0 29 [] [(0, v0 a0), (1, v0 a1), (5, vi z), (15, vb false)] []
  | .inr z => S5 0 29 [] [(4, vb false)] []
def rolodexref16_Same_l4_h (a0 : List T_api_Op) (a1 : List T_api_Op) (s5_4 : Int) : St := S5 0 29 [] [(0, v0 a0), (1, v0 a1), (5, vi s5_4)] []
def rolodexref16_Same_l4_f (a0 : List T_api_Op) (a1 : List T_api_Op) (N : Nat) (ih : Int → Option (Int ⊕ Unit)) (s5_4 : Int) : Option (Int ⊕ Unit) :=
    cond (decide (s5_4 < ((a0.length : Nat) : Int))) (
      (getI a0 s5_4).bind fun e2 =>
      (getI a1 s5_4).bind fun e4 =>
      (rolodexref15_Same N e2 e4).bind fun r6 =>
      cond (r6) (
        chk (in64 (s5_4 + 1)) <|
        ih (s5_4 + 1)) (
        some (.inr ()))) (
      some (.inl s5_4))
def rolodexref16_Same_l4 (a0 : List T_api_Op) (a1 : List T_api_Op) : Nat → Int → Option (Int ⊕ Unit)
  | 0 => fun _ => none
  | N + 1 => rolodexref16_Same_l4_f a0 a1 N (rolodexref16_Same_l4 a0 a1 N)
theorem rolodexref16_Same_l4_p0 {N : Nat} {a0 : List T_api_Op} {a1 : List T_api_Op} {s5_4 : Int} {e2 : T_api_Op} {e4 : T_api_Op} {r6 : Bool} (c1 : (decide (s5_4 < ((a0.length : Nat) : Int))) = true) (c3 : getI a0 s5_4 = some e2) (c5 : getI a1 s5_4 = some e4) (c7 : rolodexref15_Same N e2 e4 = some r6) (c8 : r6 = true) (c9 : in64 (s5_4 + 1)) : Step rolodexref16_Same_f4 (rolodexref16_Same_l4_h a0 a1 s5_4) (.normal) (S5 0 29 [] [(0, v0 a0), (1, v0 a1), (5, vi (s5_4 + 1))] []) :=
  ⟨{ an := [(6002, .pv (p1 e2)), (6006, .pv (p1 e4)), (6008, .call (.ret (vb r6)) [])], nv := [(4002, vi ((a0.length : Nat) : Int)), (4003, vb true), (6008, vb true), (5001, vi (s5_4 + 1))] }, [vi (((a0).map T_api_Op.enc).length : Nat) = vi ((a0.length : Nat) : Int), EB (decide (s5_4 < ((a0.length : Nat) : Int))) true, EG (p0 a0) s5_4 (p1 e2), EG (p0 a1) s5_4 (p1 e4), Vd Try.prog 0 (.fn (.func 18) [] []) [v1 e2, v1 e4] [] (vb r6) [], EB r6 true, EW (s5_4 + 1)], by kernel_rfl, (Ac (nv_len _ _) (Ac (nv_b c1) (Ac (getI_ok c3 71 T_api_Op.enc) (Ac (getI_ok c5 71 T_api_Op.enc) (Ac (rolodexref15_Same_valid c7 _) (Ac (nv_b c8) (Ac (nv_wrap c9) An)))))))⟩
theorem rolodexref16_Same_l4_p1 {N : Nat} {a0 : List T_api_Op} {a1 : List T_api_Op} {s5_4 : Int} {e2 : T_api_Op} {e4 : T_api_Op} {r6 : Bool} (c1 : (decide (s5_4 < ((a0.length : Nat) : Int))) = true) (c3 : getI a0 s5_4 = some e2) (c5 : getI a1 s5_4 = some e4) (c7 : rolodexref15_Same N e2 e4 = some r6) (c8 : r6 = false) : Step rolodexref16_Same_f4 (rolodexref16_Same_l4_h a0 a1 s5_4) (.ret) (S5 0 29 [] [(4, vb false)] []) :=
  ⟨{ an := [(6002, .pv (p1 e2)), (6006, .pv (p1 e4)), (6008, .call (.ret (vb r6)) [])], nv := [(4002, vi ((a0.length : Nat) : Int)), (4003, vb true), (6008, vb false)] }, [vi (((a0).map T_api_Op.enc).length : Nat) = vi ((a0.length : Nat) : Int), EB (decide (s5_4 < ((a0.length : Nat) : Int))) true, EG (p0 a0) s5_4 (p1 e2), EG (p0 a1) s5_4 (p1 e4), Vd Try.prog 0 (.fn (.func 18) [] []) [v1 e2, v1 e4] [] (vb r6) [], EB r6 false], by kernel_rfl, (Ac (nv_len _ _) (Ac (nv_b c1) (Ac (getI_ok c3 71 T_api_Op.enc) (Ac (getI_ok c5 71 T_api_Op.enc) (Ac (rolodexref15_Same_valid c7 _) (Ac (nv_b c8) An))))))⟩
theorem rolodexref16_Same_l4_p2 {a0 : List T_api_Op} {a1 : List T_api_Op} {s5_4 : Int} (c1 : (decide (s5_4 < ((a0.length : Nat) : Int))) = false) : Step rolodexref16_Same_f4 (rolodexref16_Same_l4_h a0 a1 s5_4) (.exit 0) (S5 0 29 [] [(0, v0 a0), (1, v0 a1), (5, vi s5_4), (15, vb false)] []) :=
  ⟨{ nv := [(4002, vi ((a0.length : Nat) : Int)), (4003, vb false)] }, [vi (((a0).map T_api_Op.enc).length : Nat) = vi ((a0.length : Nat) : Int), EB (decide (s5_4 < ((a0.length : Nat) : Int))) false], by kernel_rfl, (Ac (nv_len _ _) (Ac (nv_b c1) An))⟩
theorem rolodexref16_Same_l4_ok {a0 : List T_api_Op} {a1 : List T_api_Op} : ∀ {N : Nat} {s5_4 : Int} {z : Int ⊕ Unit}, rolodexref16_Same_l4 a0 a1 N s5_4 = some z → LoopP rolodexref16_Same_f4 (rolodexref16_Same_l4_h a0 a1 s5_4) (rolodexref16_Same_l4_e z) (rolodexref16_Same_l4_s a0 a1 z) := by
  intro N
  induction N with
  | zero => intro s5_4 z h; simp [rolodexref16_Same_l4] at h
  | succ N ih =>
    intro s5_4 z h
    change rolodexref16_Same_l4_f a0 a1 N (rolodexref16_Same_l4 a0 a1 N) s5_4 = some z at h
    unfold rolodexref16_Same_l4_f at h
    rcases cond_some h with ⟨c1, h⟩ | ⟨c1, h⟩
    · obtain ⟨e2, c3, h⟩ := bind_some h
      obtain ⟨e4, c5, h⟩ := bind_some h
      obtain ⟨r6, c7, h⟩ := bind_some h
      rcases cond_some h with ⟨c8, h⟩ | ⟨c8, h⟩
      · obtain ⟨c9, h⟩ := chk_some h
        exact Step.next (rolodexref16_Same_l4_p0 c1 c3 c5 c7 c8 c9) (ih h)
      · obtain rfl := Option.some.inj h
        exact Step.ret (rolodexref16_Same_l4_p1 c1 c3 c5 c7 c8)
    · obtain rfl := Option.some.inj h
      exact Step.exit (rolodexref16_Same_l4_p2 c1)
def rolodexref16_Same (N : Nat) (a0 : List T_api_Op) (a1 : List T_api_Op) : Option (Bool) :=
  cond (!decide (((a0.length : Nat) : Int) = ((a1.length : Nat) : Int))) (
    some false) (
    (rolodexref16_Same_l4 a0 a1 N 0).bind fun z2 => match z2 with
    | .inl z3 =>
      some true
    | .inr z3 =>
      some false)
theorem rolodexref16_Same_p0 {a0 : List T_api_Op} {a1 : List T_api_Op} (c1 : (!decide (((a0.length : Nat) : Int) = ((a1.length : Nat) : Int))) = true) (l : Nat) : Vd Try.prog l (.fn (.func 11) [] []) [v0 a0, v0 a1] [] (vb false) [] :=
  Try_vf11 (hn := rolodexref16_Same_hn) (lvl := 0) (O := { nv := [(1001, vi ((a0.length : Nat) : Int)), (1003, vi ((a1.length : Nat) : Int)), (1004, vb true)] }) (ps := [vi (((a0).map T_api_Op.enc).length : Nat) = vi ((a0.length : Nat) : Int), vi (((a1).map T_api_Op.enc).length : Nat) = vi ((a1.length : Nat) : Int), EB (!decide (((a0.length : Nat) : Int) = ((a1.length : Nat) : Int))) true]) (by kernel_rfl) (Ac (nv_len _ _) (Ac (nv_len _ _) (Ac (nv_b c1) An))) l
theorem rolodexref16_Same_p1 {N : Nat} {a0 : List T_api_Op} {a1 : List T_api_Op} {z3 : Int} (c1 : (!decide (((a0.length : Nat) : Int) = ((a1.length : Nat) : Int))) = false) (c4 : rolodexref16_Same_l4 a0 a1 N 0 = some (.inl z3)) (l : Nat) : Vd Try.prog l (.fn (.func 11) [] []) [v0 a0, v0 a1] [] (vb true) [] :=
  Try_vf11 (hn := rolodexref16_Same_hn) (lvl := 0) (O := { nv := [(1001, vi ((a0.length : Nat) : Int)), (1003, vi ((a1.length : Nat) : Int)), (1004, vb false)], lo := [(4, .exit 0, S5 0 29 [] [(0, v0 a0), (1, v0 a1), (5, vi z3), (15, vb false)] [])] }) (ps := [vi (((a0).map T_api_Op.enc).length : Nat) = vi ((a0.length : Nat) : Int), vi (((a1).map T_api_Op.enc).length : Nat) = vi ((a1.length : Nat) : Int), EB (!decide (((a0.length : Nat) : Int) = ((a1.length : Nat) : Int))) false, LoopP rolodexref16_Same_f4 (S5 0 29 [] [(0, v0 a0), (1, v0 a1), (5, vi 0)] []) (.exit 0) (S5 0 29 [] [(0, v0 a0), (1, v0 a1), (5, vi z3), (15, vb false)] [])]) (by kernel_rfl) (Ac (nv_len _ _) (Ac (nv_len _ _) (Ac (nv_b c1) (Ac (rolodexref16_Same_l4_ok c4) An)))) l
theorem rolodexref16_Same_p2 {N : Nat} {a0 : List T_api_Op} {a1 : List T_api_Op} {z3 : Unit} (c1 : (!decide (((a0.length : Nat) : Int) = ((a1.length : Nat) : Int))) = false) (c4 : rolodexref16_Same_l4 a0 a1 N 0 = some (.inr z3)) (l : Nat) : Vd Try.prog l (.fn (.func 11) [] []) [v0 a0, v0 a1] [] (vb false) [] :=
  Try_vf11 (hn := rolodexref16_Same_hn) (lvl := 0) (O := { nv := [(1001, vi ((a0.length : Nat) : Int)), (1003, vi ((a1.length : Nat) : Int)), (1004, vb false)], lo := [(4, .ret, S5 0 29 [] [(4, vb false)] [])] }) (ps := [vi (((a0).map T_api_Op.enc).length : Nat) = vi ((a0.length : Nat) : Int), vi (((a1).map T_api_Op.enc).length : Nat) = vi ((a1.length : Nat) : Int), EB (!decide (((a0.length : Nat) : Int) = ((a1.length : Nat) : Int))) false, LoopP rolodexref16_Same_f4 (S5 0 29 [] [(0, v0 a0), (1, v0 a1), (5, vi 0)] []) (.ret) (S5 0 29 [] [(4, vb false)] [])]) (by kernel_rfl) (Ac (nv_len _ _) (Ac (nv_len _ _) (Ac (nv_b c1) (Ac (rolodexref16_Same_l4_ok c4) An)))) l
theorem rolodexref16_Same_valid {N : Nat} {a0 : List T_api_Op} {a1 : List T_api_Op} {z : Bool} (h : rolodexref16_Same N a0 a1 = some z) (l : Nat) : Vd Try.prog l (.fn (.func 11) [] []) [v0 a0, v0 a1] [] (vb z) [] := by
  unfold rolodexref16_Same at h
  rcases cond_some h with ⟨c1, h⟩ | ⟨c1, h⟩
  · obtain rfl := Option.some.inj h
    exact rolodexref16_Same_p0 c1 l
  · obtain ⟨z2, c4, h⟩ := bind_some h
    rcases z2 with z3 | z3 <;> dsimp only at h
    · obtain rfl := Option.some.inj h
      exact rolodexref16_Same_p1 c1 c4 l
    · obtain rfl := Option.some.inj h
      exact rolodexref16_Same_p2 c1 c4 l
def rolodexlaw17_OrderBatches_hn : Hint where
  live := fun _ r => match r with
    | 0 => [0]
    | 1 => [0, 3]
    | 2 => [0, 3, 4]
    | 3 => [0, 3, 17]
    | 4 => [2]
    | 5 => [0, 5]
    | 6 => [0, 5, 6]
    | 7 => [0, 5, 6, 7]
    | 8 => [0, 5, 6, 7, 24]
    | 9 => [0, 5, 6, 7]
    | 10 => [0, 5, 6, 7, 55]
    | 11 => [2]
    | 12 => [0, 5, 6, 7]
    | 13 => [0, 5, 8]
    | 14 => [2]
    | _ => []
  esc := fun _ => false
  raw := fun k => false
  fresh := fun _ d => false
  vecs := fun _ d => false
noncomputable def rolodexlaw17_OrderBatches_f8 := codeO Try.prog rolodexlaw17_OrderBatches_hn (Valid Try.prog) 6 Try_c6_8
def rolodexlaw17_OrderBatches_l8_e : Unit ⊕ Int ⊕ (Int × List T_api_Op) → Ex
  | .inl _ => .ret
  | .inr (.inl _) => .exit 0
  | .inr (.inr _) => .exit 0
def rolodexlaw17_OrderBatches_l8_s (a0 : List T_api_Op) (r7 : List (List T_api_Op)) : Unit ⊕ Int ⊕ (Int × List T_api_Op) → St
  | .inl z => S5 0 75 [] [(2, vb false)] []
  | .inr (.inl z) => S5 0 75 [] [(0, v0 a0), (5, v4 r7), (6, .nils), (7, vi z), (24, vb false)] []
  | .inr (.inr z) => S5 0 75 [] [(0, v0 a0), (5, v4 r7), (6, .v 610 z.2.length), (7, vi z.1), (24, vb false)] [(610, w0 z.2)]
def rolodexlaw17_OrderBatches_l8_s1_h (a0 : List T_api_Op) (r7 : List (List T_api_Op)) (s7_8 : Int) (o610_8 : List T_api_Op) : St := S5 0 75 [] [(0, v0 a0), (5, v4 r7), (6, .v 610 o610_8.length), (7, vi s7_8)] [(610, w0 o610_8)]
def rolodexlaw17_OrderBatches_l8_s1_f (a0 : List T_api_Op) (r7 : List (List T_api_Op)) (N : Nat) (ih : Int → List T_api_Op → Option (Unit ⊕ Int ⊕ (Int × List T_api_Op))) (s7_8 : Int) (o610_8 : List T_api_Op) : Option (Unit ⊕ Int ⊕ (Int × List T_api_Op)) :=
    cond (decide (s7_8 < ((r7.length : Nat) : Int))) (
      (getI r7 s7_8).bind fun e2 =>
      cond (!decide (((e2.length : Nat) : Int) = 20)) (
        chk (in64 (((r7.length : Nat) : Int) - 1)) <|
        cond (decide (s7_8 < (((r7.length : Nat) : Int) - 1))) (
          some (.inl ())) (
          (getI r7 s7_8).bind fun e7 =>
          cond (decide (((e7.length : Nat) : Int) = 0)) (
            some (.inl ())) (
            (getI r7 s7_8).bind fun e10 =>
            cond (decide (20 < ((e10.length : Nat) : Int))) (
              some (.inl ())) (
              (getI r7 s7_8).bind fun e13 =>
              chk (capOK (o610_8 ++ e13).length 144) <|
              chk (in64 (s7_8 + 1)) <|
              ih (s7_8 + 1) (o610_8 ++ e13))))) (
        (getI r7 s7_8).bind fun e5 =>
        cond (decide (((e5.length : Nat) : Int) = 0)) (
          some (.inl ())) (
          (getI r7 s7_8).bind fun e8 =>
          cond (decide (20 < ((e8.length : Nat) : Int))) (
            some (.inl ())) (
            (getI r7 s7_8).bind fun e11 =>
            chk (capOK (o610_8 ++ e11).length 144) <|
            chk (in64 (s7_8 + 1)) <|
            ih (s7_8 + 1) (o610_8 ++ e11))))) (
      some (.inr (.inr ((s7_8, o610_8)))))
def rolodexlaw17_OrderBatches_l8_s1 (a0 : List T_api_Op) (r7 : List (List T_api_Op)) : Nat → Int → List T_api_Op → Option (Unit ⊕ Int ⊕ (Int × List T_api_Op))
  | 0 => fun _ _ => none
  | N + 1 => rolodexlaw17_OrderBatches_l8_s1_f a0 r7 N (rolodexlaw17_OrderBatches_l8_s1 a0 r7 N)
theorem rolodexlaw17_OrderBatches_l8_s1_p0 {a0 : List T_api_Op} {r7 : List (List T_api_Op)} {s7_8 : Int} {o610_8 : List T_api_Op} {e2 : List T_api_Op} (c1 : (decide (s7_8 < ((r7.length : Nat) : Int))) = true) (c3 : getI r7 s7_8 = some e2) (c4 : (!decide (((e2.length : Nat) : Int) = 20)) = true) (c5 : in64 (((r7.length : Nat) : Int) - 1)) (c6 : (decide (s7_8 < (((r7.length : Nat) : Int) - 1))) = true) : Step rolodexlaw17_OrderBatches_f8 (rolodexlaw17_OrderBatches_l8_s1_h a0 r7 s7_8 o610_8) (.ret) (S5 0 75 [] [(2, vb false)] []) :=
  ⟨{ an := [(10002, .pv (p0 e2))], nv := [(8002, vi ((r7.length : Nat) : Int)), (8003, vb true), (10004, vi ((e2.length : Nat) : Int)), (10005, vb true), (10009, vi ((r7.length : Nat) : Int)), (10010, vi (((r7.length : Nat) : Int) - 1)), (10011, vb true)] }, [vi (((r7).map (encL 71 T_api_Op.enc)).length : Nat) = vi ((r7.length : Nat) : Int), EB (decide (s7_8 < ((r7.length : Nat) : Int))) true, EG (p4 r7) s7_8 (p0 e2), vi (((e2).map T_api_Op.enc).length : Nat) = vi ((e2.length : Nat) : Int), EB (!decide (((e2.length : Nat) : Int) = 20)) true, vi (((r7).map (encL 71 T_api_Op.enc)).length : Nat) = vi ((r7.length : Nat) : Int), EW (((r7.length : Nat) : Int) - 1), EB (decide (s7_8 < (((r7.length : Nat) : Int) - 1))) true], by kernel_rfl, (Ac (nv_len _ _) (Ac (nv_b c1) (Ac (getI_ok c3 1 (encL 71 T_api_Op.enc)) (Ac (nv_len _ _) (Ac (nv_b c4) (Ac (nv_len _ _) (Ac (nv_wrap c5) (Ac (nv_b c6) An))))))))⟩
theorem rolodexlaw17_OrderBatches_l8_s1_p1 {a0 : List T_api_Op} {r7 : List (List T_api_Op)} {s7_8 : Int} {o610_8 : List T_api_Op} {e2 : List T_api_Op} {e7 : List T_api_Op} (c1 : (decide (s7_8 < ((r7.length : Nat) : Int))) = true) (c3 : getI r7 s7_8 = some e2) (c4 : (!decide (((e2.length : Nat) : Int) = 20)) = true) (c5 : in64 (((r7.length : Nat) : Int) - 1)) (c6 : (decide (s7_8 < (((r7.length : Nat) : Int) - 1))) = false) (c8 : getI r7 s7_8 = some e7) (c9 : (decide (((e7.length : Nat) : Int) = 0)) = true) : Step rolodexlaw17_OrderBatches_f8 (rolodexlaw17_OrderBatches_l8_s1_h a0 r7 s7_8 o610_8) (.ret) (S5 0 75 [] [(2, vb false)] []) :=
  ⟨{ an := [(10002, .pv (p0 e2)), (10016, .pv (p0 e7))], nv := [(8002, vi ((r7.length : Nat) : Int)), (8003, vb true), (10004, vi ((e2.length : Nat) : Int)), (10005, vb true), (10009, vi ((r7.length : Nat) : Int)), (10010, vi (((r7.length : Nat) : Int) - 1)), (10011, vb false), (10018, vi ((e7.length : Nat) : Int)), (10019, vb true)] }, [vi (((r7).map (encL 71 T_api_Op.enc)).length : Nat) = vi ((r7.length : Nat) : Int), EB (decide (s7_8 < ((r7.length : Nat) : Int))) true, EG (p4 r7) s7_8 (p0 e2), vi (((e2).map T_api_Op.enc).length : Nat) = vi ((e2.length : Nat) : Int), EB (!decide (((e2.length : Nat) : Int) = 20)) true, vi (((r7).map (encL 71 T_api_Op.enc)).length : Nat) = vi ((r7.length : Nat) : Int), EW (((r7.length : Nat) : Int) - 1), EB (decide (s7_8 < (((r7.length : Nat) : Int) - 1))) false, EG (p4 r7) s7_8 (p0 e7), vi (((e7).map T_api_Op.enc).length : Nat) = vi ((e7.length : Nat) : Int), EB (decide (((e7.length : Nat) : Int) = 0)) true], by kernel_rfl, (Ac (nv_len _ _) (Ac (nv_b c1) (Ac (getI_ok c3 1 (encL 71 T_api_Op.enc)) (Ac (nv_len _ _) (Ac (nv_b c4) (Ac (nv_len _ _) (Ac (nv_wrap c5) (Ac (nv_b c6) (Ac (getI_ok c8 1 (encL 71 T_api_Op.enc)) (Ac (nv_len _ _) (Ac (nv_b c9) An)))))))))))⟩
theorem rolodexlaw17_OrderBatches_l8_s1_p2 {a0 : List T_api_Op} {r7 : List (List T_api_Op)} {s7_8 : Int} {o610_8 : List T_api_Op} {e2 : List T_api_Op} {e7 : List T_api_Op} {e10 : List T_api_Op} (c1 : (decide (s7_8 < ((r7.length : Nat) : Int))) = true) (c3 : getI r7 s7_8 = some e2) (c4 : (!decide (((e2.length : Nat) : Int) = 20)) = true) (c5 : in64 (((r7.length : Nat) : Int) - 1)) (c6 : (decide (s7_8 < (((r7.length : Nat) : Int) - 1))) = false) (c8 : getI r7 s7_8 = some e7) (c9 : (decide (((e7.length : Nat) : Int) = 0)) = false) (c11 : getI r7 s7_8 = some e10) (c12 : (decide (20 < ((e10.length : Nat) : Int))) = true) : Step rolodexlaw17_OrderBatches_f8 (rolodexlaw17_OrderBatches_l8_s1_h a0 r7 s7_8 o610_8) (.ret) (S5 0 75 [] [(2, vb false)] []) :=
  ⟨{ an := [(10002, .pv (p0 e2)), (10016, .pv (p0 e7)), (10024, .pv (p0 e10))], nv := [(8002, vi ((r7.length : Nat) : Int)), (8003, vb true), (10004, vi ((e2.length : Nat) : Int)), (10005, vb true), (10009, vi ((r7.length : Nat) : Int)), (10010, vi (((r7.length : Nat) : Int) - 1)), (10011, vb false), (10018, vi ((e7.length : Nat) : Int)), (10019, vb false), (10026, vi ((e10.length : Nat) : Int)), (10027, vb true)] }, [vi (((r7).map (encL 71 T_api_Op.enc)).length : Nat) = vi ((r7.length : Nat) : Int), EB (decide (s7_8 < ((r7.length : Nat) : Int))) true, EG (p4 r7) s7_8 (p0 e2), vi (((e2).map T_api_Op.enc).length : Nat) = vi ((e2.length : Nat) : Int), EB (!decide (((e2.length : Nat) : Int) = 20)) true, vi (((r7).map (encL 71 T_api_Op.enc)).length : Nat) = vi ((r7.length : Nat) : Int), EW (((r7.length : Nat) : Int) - 1), EB (decide (s7_8 < (((r7.length : Nat) : Int) - 1))) false, EG (p4 r7) s7_8 (p0 e7), vi (((e7).map T_api_Op.enc).length : Nat) = vi ((e7.length : Nat) : Int), EB (decide (((e7.length : Nat) : Int) = 0)) false, EG (p4 r7) s7_8 (p0 e10), vi (((e10).map T_api_Op.enc).length : Nat) = vi ((e10.length : Nat) : Int), EB (decide (20 < ((e10.length : Nat) : Int))) true], by kernel_rfl, (Ac (nv_len _ _) (Ac (nv_b c1) (Ac (getI_ok c3 1 (encL 71 T_api_Op.enc)) (Ac (nv_len _ _) (Ac (nv_b c4) (Ac (nv_len _ _) (Ac (nv_wrap c5) (Ac (nv_b c6) (Ac (getI_ok c8 1 (encL 71 T_api_Op.enc)) (Ac (nv_len _ _) (Ac (nv_b c9) (Ac (getI_ok c11 1 (encL 71 T_api_Op.enc)) (Ac (nv_len _ _) (Ac (nv_b c12) An))))))))))))))⟩
theorem rolodexlaw17_OrderBatches_l8_s1_p3 {a0 : List T_api_Op} {r7 : List (List T_api_Op)} {s7_8 : Int} {o610_8 : List T_api_Op} {e2 : List T_api_Op} {e7 : List T_api_Op} {e10 : List T_api_Op} {e13 : List T_api_Op} (c1 : (decide (s7_8 < ((r7.length : Nat) : Int))) = true) (c3 : getI r7 s7_8 = some e2) (c4 : (!decide (((e2.length : Nat) : Int) = 20)) = true) (c5 : in64 (((r7.length : Nat) : Int) - 1)) (c6 : (decide (s7_8 < (((r7.length : Nat) : Int) - 1))) = false) (c8 : getI r7 s7_8 = some e7) (c9 : (decide (((e7.length : Nat) : Int) = 0)) = false) (c11 : getI r7 s7_8 = some e10) (c12 : (decide (20 < ((e10.length : Nat) : Int))) = false) (c14 : getI r7 s7_8 = some e13) (c15 : capOK (o610_8 ++ e13).length 144) (c16 : in64 (s7_8 + 1)) : Step rolodexlaw17_OrderBatches_f8 (rolodexlaw17_OrderBatches_l8_s1_h a0 r7 s7_8 o610_8) (.normal) (S5 0 75 [] [(0, v0 a0), (5, v4 r7), (6, .v 610 ((o610_8 ++ e13).length)), (7, vi (s7_8 + 1))] [(610, w0 (o610_8 ++ e13))]) :=
  ⟨{ an := [(10002, .pv (p0 e2)), (10016, .pv (p0 e7)), (10024, .pv (p0 e10)), (12003, .pv (p0 e13))], nv := [(8002, vi ((r7.length : Nat) : Int)), (8003, vb true), (10004, vi ((e2.length : Nat) : Int)), (10005, vb true), (10009, vi ((r7.length : Nat) : Int)), (10010, vi (((r7.length : Nat) : Int) - 1)), (10011, vb false), (10018, vi ((e7.length : Nat) : Int)), (10019, vb false), (10026, vi ((e10.length : Nat) : Int)), (10027, vb false), (12005, .v 610 ((o610_8 ++ e13).length)), (9001, vi (s7_8 + 1))], no := [(12005, 610, w0 (o610_8 ++ e13))] }, [vi (((r7).map (encL 71 T_api_Op.enc)).length : Nat) = vi ((r7.length : Nat) : Int), EB (decide (s7_8 < ((r7.length : Nat) : Int))) true, EG (p4 r7) s7_8 (p0 e2), vi (((e2).map T_api_Op.enc).length : Nat) = vi ((e2.length : Nat) : Int), EB (!decide (((e2.length : Nat) : Int) = 20)) true, vi (((r7).map (encL 71 T_api_Op.enc)).length : Nat) = vi ((r7.length : Nat) : Int), EW (((r7.length : Nat) : Int) - 1), EB (decide (s7_8 < (((r7.length : Nat) : Int) - 1))) false, EG (p4 r7) s7_8 (p0 e7), vi (((e7).map T_api_Op.enc).length : Nat) = vi ((e7.length : Nat) : Int), EB (decide (((e7.length : Nat) : Int) = 0)) false, EG (p4 r7) s7_8 (p0 e10), vi (((e10).map T_api_Op.enc).length : Nat) = vi ((e10.length : Nat) : Int), EB (decide (20 < ((e10.length : Nat) : Int))) false, EG (p4 r7) s7_8 (p0 e13), (p0 o610_8).len = o610_8.length, (PV.l 71 ((o610_8).map T_api_Op.enc ++ (e13).map T_api_Op.enc)).len * 144 ≤ 140737488355328, AObj.vec false 71 (.l 71 ((o610_8).map T_api_Op.enc ++ (e13).map T_api_Op.enc)) = w0 (o610_8 ++ e13), AV.v 610 ((o610_8).map T_api_Op.enc ++ (e13).map T_api_Op.enc).length = AV.v 610 ((o610_8 ++ e13).length), EW (s7_8 + 1)], by kernel_rfl, (Ac (nv_len _ _) (Ac (nv_b c1) (Ac (getI_ok c3 1 (encL 71 T_api_Op.enc)) (Ac (nv_len _ _) (Ac (nv_b c4) (Ac (nv_len _ _) (Ac (nv_wrap c5) (Ac (nv_b c6) (Ac (getI_ok c8 1 (encL 71 T_api_Op.enc)) (Ac (nv_len _ _) (Ac (nv_b c9) (Ac (getI_ok c11 1 (encL 71 T_api_Op.enc)) (Ac (nv_len _ _) (Ac (nv_b c12) (Ac (getI_ok c14 1 (encL 71 T_api_Op.enc)) (Ac (len_ok _ _ _) (Ac (len_le2 c15) (Ac (ob_app _ _ _ _ _) (Ac (nv_app _ _ _ _) (Ac (nv_wrap c16) An))))))))))))))))))))⟩
theorem rolodexlaw17_OrderBatches_l8_s1_p4 {a0 : List T_api_Op} {r7 : List (List T_api_Op)} {s7_8 : Int} {o610_8 : List T_api_Op} {e2 : List T_api_Op} {e5 : List T_api_Op} (c1 : (decide (s7_8 < ((r7.length : Nat) : Int))) = true) (c3 : getI r7 s7_8 = some e2) (c4 : (!decide (((e2.length : Nat) : Int) = 20)) = false) (c6 : getI r7 s7_8 = some e5) (c7 : (decide (((e5.length : Nat) : Int) = 0)) = true) : Step rolodexlaw17_OrderBatches_f8 (rolodexlaw17_OrderBatches_l8_s1_h a0 r7 s7_8 o610_8) (.ret) (S5 0 75 [] [(2, vb false)] []) :=
  ⟨{ an := [(10002, .pv (p0 e2)), (10016, .pv (p0 e5))], nv := [(8002, vi ((r7.length : Nat) : Int)), (8003, vb true), (10004, vi ((e2.length : Nat) : Int)), (10005, vb false), (10018, vi ((e5.length : Nat) : Int)), (10019, vb true)] }, [vi (((r7).map (encL 71 T_api_Op.enc)).length : Nat) = vi ((r7.length : Nat) : Int), EB (decide (s7_8 < ((r7.length : Nat) : Int))) true, EG (p4 r7) s7_8 (p0 e2), vi (((e2).map T_api_Op.enc).length : Nat) = vi ((e2.length : Nat) : Int), EB (!decide (((e2.length : Nat) : Int) = 20)) false, EG (p4 r7) s7_8 (p0 e5), vi (((e5).map T_api_Op.enc).length : Nat) = vi ((e5.length : Nat) : Int), EB (decide (((e5.length : Nat) : Int) = 0)) true], by kernel_rfl, (Ac (nv_len _ _) (Ac (nv_b c1) (Ac (getI_ok c3 1 (encL 71 T_api_Op.enc)) (Ac (nv_len _ _) (Ac (nv_b c4) (Ac (getI_ok c6 1 (encL 71 T_api_Op.enc)) (Ac (nv_len _ _) (Ac (nv_b c7) An))))))))⟩
theorem rolodexlaw17_OrderBatches_l8_s1_p5 {a0 : List T_api_Op} {r7 : List (List T_api_Op)} {s7_8 : Int} {o610_8 : List T_api_Op} {e2 : List T_api_Op} {e5 : List T_api_Op} {e8 : List T_api_Op} (c1 : (decide (s7_8 < ((r7.length : Nat) : Int))) = true) (c3 : getI r7 s7_8 = some e2) (c4 : (!decide (((e2.length : Nat) : Int) = 20)) = false) (c6 : getI r7 s7_8 = some e5) (c7 : (decide (((e5.length : Nat) : Int) = 0)) = false) (c9 : getI r7 s7_8 = some e8) (c10 : (decide (20 < ((e8.length : Nat) : Int))) = true) : Step rolodexlaw17_OrderBatches_f8 (rolodexlaw17_OrderBatches_l8_s1_h a0 r7 s7_8 o610_8) (.ret) (S5 0 75 [] [(2, vb false)] []) :=
  ⟨{ an := [(10002, .pv (p0 e2)), (10016, .pv (p0 e5)), (10024, .pv (p0 e8))], nv := [(8002, vi ((r7.length : Nat) : Int)), (8003, vb true), (10004, vi ((e2.length : Nat) : Int)), (10005, vb false), (10018, vi ((e5.length : Nat) : Int)), (10019, vb false), (10026, vi ((e8.length : Nat) : Int)), (10027, vb true)] }, [vi (((r7).map (encL 71 T_api_Op.enc)).length : Nat) = vi ((r7.length : Nat) : Int), EB (decide (s7_8 < ((r7.length : Nat) : Int))) true, EG (p4 r7) s7_8 (p0 e2), vi (((e2).map T_api_Op.enc).length : Nat) = vi ((e2.length : Nat) : Int), EB (!decide (((e2.length : Nat) : Int) = 20)) false, EG (p4 r7) s7_8 (p0 e5), vi (((e5).map T_api_Op.enc).length : Nat) = vi ((e5.length : Nat) : Int), EB (decide (((e5.length : Nat) : Int) = 0)) false, EG (p4 r7) s7_8 (p0 e8), vi (((e8).map T_api_Op.enc).length : Nat) = vi ((e8.length : Nat) : Int), EB (decide (20 < ((e8.length : Nat) : Int))) true], by kernel_rfl, (Ac (nv_len _ _) (Ac (nv_b c1) (Ac (getI_ok c3 1 (encL 71 T_api_Op.enc)) (Ac (nv_len _ _) (Ac (nv_b c4) (Ac (getI_ok c6 1 (encL 71 T_api_Op.enc)) (Ac (nv_len _ _) (Ac (nv_b c7) (Ac (getI_ok c9 1 (encL 71 T_api_Op.enc)) (Ac (nv_len _ _) (Ac (nv_b c10) An)))))))))))⟩
theorem rolodexlaw17_OrderBatches_l8_s1_p6 {a0 : List T_api_Op} {r7 : List (List T_api_Op)} {s7_8 : Int} {o610_8 : List T_api_Op} {e2 : List T_api_Op} {e5 : List T_api_Op} {e8 : List T_api_Op} {e11 : List T_api_Op} (c1 : (decide (s7_8 < ((r7.length : Nat) : Int))) = true) (c3 : getI r7 s7_8 = some e2) (c4 : (!decide (((e2.length : Nat) : Int) = 20)) = false) (c6 : getI r7 s7_8 = some e5) (c7 : (decide (((e5.length : Nat) : Int) = 0)) = false) (c9 : getI r7 s7_8 = some e8) (c10 : (decide (20 < ((e8.length : Nat) : Int))) = false) (c12 : getI r7 s7_8 = some e11) (c13 : capOK (o610_8 ++ e11).length 144) (c14 : in64 (s7_8 + 1)) : Step rolodexlaw17_OrderBatches_f8 (rolodexlaw17_OrderBatches_l8_s1_h a0 r7 s7_8 o610_8) (.normal) (S5 0 75 [] [(0, v0 a0), (5, v4 r7), (6, .v 610 ((o610_8 ++ e11).length)), (7, vi (s7_8 + 1))] [(610, w0 (o610_8 ++ e11))]) :=
  ⟨{ an := [(10002, .pv (p0 e2)), (10016, .pv (p0 e5)), (10024, .pv (p0 e8)), (12003, .pv (p0 e11))], nv := [(8002, vi ((r7.length : Nat) : Int)), (8003, vb true), (10004, vi ((e2.length : Nat) : Int)), (10005, vb false), (10018, vi ((e5.length : Nat) : Int)), (10019, vb false), (10026, vi ((e8.length : Nat) : Int)), (10027, vb false), (12005, .v 610 ((o610_8 ++ e11).length)), (9001, vi (s7_8 + 1))], no := [(12005, 610, w0 (o610_8 ++ e11))] }, [vi (((r7).map (encL 71 T_api_Op.enc)).length : Nat) = vi ((r7.length : Nat) : Int), EB (decide (s7_8 < ((r7.length : Nat) : Int))) true, EG (p4 r7) s7_8 (p0 e2), vi (((e2).map T_api_Op.enc).length : Nat) = vi ((e2.length : Nat) : Int), EB (!decide (((e2.length : Nat) : Int) = 20)) false, EG (p4 r7) s7_8 (p0 e5), vi (((e5).map T_api_Op.enc).length : Nat) = vi ((e5.length : Nat) : Int), EB (decide (((e5.length : Nat) : Int) = 0)) false, EG (p4 r7) s7_8 (p0 e8), vi (((e8).map T_api_Op.enc).length : Nat) = vi ((e8.length : Nat) : Int), EB (decide (20 < ((e8.length : Nat) : Int))) false, EG (p4 r7) s7_8 (p0 e11), (p0 o610_8).len = o610_8.length, (PV.l 71 ((o610_8).map T_api_Op.enc ++ (e11).map T_api_Op.enc)).len * 144 ≤ 140737488355328, AObj.vec false 71 (.l 71 ((o610_8).map T_api_Op.enc ++ (e11).map T_api_Op.enc)) = w0 (o610_8 ++ e11), AV.v 610 ((o610_8).map T_api_Op.enc ++ (e11).map T_api_Op.enc).length = AV.v 610 ((o610_8 ++ e11).length), EW (s7_8 + 1)], by kernel_rfl, (Ac (nv_len _ _) (Ac (nv_b c1) (Ac (getI_ok c3 1 (encL 71 T_api_Op.enc)) (Ac (nv_len _ _) (Ac (nv_b c4) (Ac (getI_ok c6 1 (encL 71 T_api_Op.enc)) (Ac (nv_len _ _) (Ac (nv_b c7) (Ac (getI_ok c9 1 (encL 71 T_api_Op.enc)) (Ac (nv_len _ _) (Ac (nv_b c10) (Ac (getI_ok c12 1 (encL 71 T_api_Op.enc)) (Ac (len_ok _ _ _) (Ac (len_le2 c13) (Ac (ob_app _ _ _ _ _) (Ac (nv_app _ _ _ _) (Ac (nv_wrap c14) An)))))))))))))))))⟩
theorem rolodexlaw17_OrderBatches_l8_s1_p7 {a0 : List T_api_Op} {r7 : List (List T_api_Op)} {s7_8 : Int} {o610_8 : List T_api_Op} (c1 : (decide (s7_8 < ((r7.length : Nat) : Int))) = false) : Step rolodexlaw17_OrderBatches_f8 (rolodexlaw17_OrderBatches_l8_s1_h a0 r7 s7_8 o610_8) (.exit 0) (S5 0 75 [] [(0, v0 a0), (5, v4 r7), (6, .v 610 o610_8.length), (7, vi s7_8), (24, vb false)] [(610, w0 o610_8)]) :=
  ⟨{ nv := [(8002, vi ((r7.length : Nat) : Int)), (8003, vb false)] }, [vi (((r7).map (encL 71 T_api_Op.enc)).length : Nat) = vi ((r7.length : Nat) : Int), EB (decide (s7_8 < ((r7.length : Nat) : Int))) false], by kernel_rfl, (Ac (nv_len _ _) (Ac (nv_b c1) An))⟩
theorem rolodexlaw17_OrderBatches_l8_s1_ok {a0 : List T_api_Op} {r7 : List (List T_api_Op)} : ∀ {N : Nat} {s7_8 : Int} {o610_8 : List T_api_Op} {z : Unit ⊕ Int ⊕ (Int × List T_api_Op)}, rolodexlaw17_OrderBatches_l8_s1 a0 r7 N s7_8 o610_8 = some z → LoopP rolodexlaw17_OrderBatches_f8 (rolodexlaw17_OrderBatches_l8_s1_h a0 r7 s7_8 o610_8) (rolodexlaw17_OrderBatches_l8_e z) (rolodexlaw17_OrderBatches_l8_s a0 r7 z) := by
  intro N
  induction N with
  | zero => intro s7_8 o610_8 z h; simp [rolodexlaw17_OrderBatches_l8_s1] at h
  | succ N ih =>
    intro s7_8 o610_8 z h
    change rolodexlaw17_OrderBatches_l8_s1_f a0 r7 N (rolodexlaw17_OrderBatches_l8_s1 a0 r7 N) s7_8 o610_8 = some z at h
    unfold rolodexlaw17_OrderBatches_l8_s1_f at h
    rcases cond_some h with ⟨c1, h⟩ | ⟨c1, h⟩
    · obtain ⟨e2, c3, h⟩ := bind_some h
      rcases cond_some h with ⟨c4, h⟩ | ⟨c4, h⟩
      · obtain ⟨c5, h⟩ := chk_some h
        rcases cond_some h with ⟨c6, h⟩ | ⟨c6, h⟩
        · obtain rfl := Option.some.inj h
          exact Step.ret (rolodexlaw17_OrderBatches_l8_s1_p0 c1 c3 c4 c5 c6)
        · obtain ⟨e7, c8, h⟩ := bind_some h
          rcases cond_some h with ⟨c9, h⟩ | ⟨c9, h⟩
          · obtain rfl := Option.some.inj h
            exact Step.ret (rolodexlaw17_OrderBatches_l8_s1_p1 c1 c3 c4 c5 c6 c8 c9)
          · obtain ⟨e10, c11, h⟩ := bind_some h
            rcases cond_some h with ⟨c12, h⟩ | ⟨c12, h⟩
            · obtain rfl := Option.some.inj h
              exact Step.ret (rolodexlaw17_OrderBatches_l8_s1_p2 c1 c3 c4 c5 c6 c8 c9 c11 c12)
            · obtain ⟨e13, c14, h⟩ := bind_some h
              obtain ⟨c15, h⟩ := chk_some h
              obtain ⟨c16, h⟩ := chk_some h
              exact Step.next (rolodexlaw17_OrderBatches_l8_s1_p3 c1 c3 c4 c5 c6 c8 c9 c11 c12 c14 c15 c16) (ih h)
      · obtain ⟨e5, c6, h⟩ := bind_some h
        rcases cond_some h with ⟨c7, h⟩ | ⟨c7, h⟩
        · obtain rfl := Option.some.inj h
          exact Step.ret (rolodexlaw17_OrderBatches_l8_s1_p4 c1 c3 c4 c6 c7)
        · obtain ⟨e8, c9, h⟩ := bind_some h
          rcases cond_some h with ⟨c10, h⟩ | ⟨c10, h⟩
          · obtain rfl := Option.some.inj h
            exact Step.ret (rolodexlaw17_OrderBatches_l8_s1_p5 c1 c3 c4 c6 c7 c9 c10)
          · obtain ⟨e11, c12, h⟩ := bind_some h
            obtain ⟨c13, h⟩ := chk_some h
            obtain ⟨c14, h⟩ := chk_some h
            exact Step.next (rolodexlaw17_OrderBatches_l8_s1_p6 c1 c3 c4 c6 c7 c9 c10 c12 c13 c14) (ih h)
    · obtain rfl := Option.some.inj h
      exact Step.exit (rolodexlaw17_OrderBatches_l8_s1_p7 c1)
def rolodexlaw17_OrderBatches_l8_h (a0 : List T_api_Op) (r7 : List (List T_api_Op)) (s7_8 : Int) : St := S5 0 75 [] [(0, v0 a0), (5, v4 r7), (6, .nils), (7, vi s7_8)] []
def rolodexlaw17_OrderBatches_l8_f (a0 : List T_api_Op) (r7 : List (List T_api_Op)) (N : Nat) (ih : Int → Option (Unit ⊕ Int ⊕ (Int × List T_api_Op))) (s7_8 : Int) : Option (Unit ⊕ Int ⊕ (Int × List T_api_Op)) :=
    cond (decide (s7_8 < ((r7.length : Nat) : Int))) (
      (getI r7 s7_8).bind fun e2 =>
      cond (!decide (((e2.length : Nat) : Int) = 20)) (
        chk (in64 (((r7.length : Nat) : Int) - 1)) <|
        cond (decide (s7_8 < (((r7.length : Nat) : Int) - 1))) (
          some (.inl ())) (
          (getI r7 s7_8).bind fun e7 =>
          cond (decide (((e7.length : Nat) : Int) = 0)) (
            some (.inl ())) (
            (getI r7 s7_8).bind fun e10 =>
            cond (decide (20 < ((e10.length : Nat) : Int))) (
              some (.inl ())) (
              (getI r7 s7_8).bind fun e13 =>
              cond (e13.isEmpty) (
                chk (in64 (s7_8 + 1)) <|
                ih (s7_8 + 1)) (
                chk (capOK e13.length 144) <|
                chk (in64 (s7_8 + 1)) <|
                rolodexlaw17_OrderBatches_l8_s1 a0 r7 N (s7_8 + 1) e13))))) (
        (getI r7 s7_8).bind fun e5 =>
        cond (decide (((e5.length : Nat) : Int) = 0)) (
          some (.inl ())) (
          (getI r7 s7_8).bind fun e8 =>
          cond (decide (20 < ((e8.length : Nat) : Int))) (
            some (.inl ())) (
            (getI r7 s7_8).bind fun e11 =>
            cond (e11.isEmpty) (
              chk (in64 (s7_8 + 1)) <|
              ih (s7_8 + 1)) (
              chk (capOK e11.length 144) <|
              chk (in64 (s7_8 + 1)) <|
              rolodexlaw17_OrderBatches_l8_s1 a0 r7 N (s7_8 + 1) e11))))) (
      some (.inr (.inl s7_8)))
def rolodexlaw17_OrderBatches_l8 (a0 : List T_api_Op) (r7 : List (List T_api_Op)) : Nat → Int → Option (Unit ⊕ Int ⊕ (Int × List T_api_Op))
  | 0 => fun _ => none
  | N + 1 => rolodexlaw17_OrderBatches_l8_f a0 r7 N (rolodexlaw17_OrderBatches_l8 a0 r7 N)
theorem rolodexlaw17_OrderBatches_l8_p0 {a0 : List T_api_Op} {r7 : List (List T_api_Op)} {s7_8 : Int} {e2 : List T_api_Op} (c1 : (decide (s7_8 < ((r7.length : Nat) : Int))) = true) (c3 : getI r7 s7_8 = some e2) (c4 : (!decide (((e2.length : Nat) : Int) = 20)) = true) (c5 : in64 (((r7.length : Nat) : Int) - 1)) (c6 : (decide (s7_8 < (((r7.length : Nat) : Int) - 1))) = true) : Step rolodexlaw17_OrderBatches_f8 (rolodexlaw17_OrderBatches_l8_h a0 r7 s7_8) (.ret) (S5 0 75 [] [(2, vb false)] []) :=
  ⟨{ an := [(10002, .pv (p0 e2))], nv := [(8002, vi ((r7.length : Nat) : Int)), (8003, vb true), (10004, vi ((e2.length : Nat) : Int)), (10005, vb true), (10009, vi ((r7.length : Nat) : Int)), (10010, vi (((r7.length : Nat) : Int) - 1)), (10011, vb true)] }, [vi (((r7).map (encL 71 T_api_Op.enc)).length : Nat) = vi ((r7.length : Nat) : Int), EB (decide (s7_8 < ((r7.length : Nat) : Int))) true, EG (p4 r7) s7_8 (p0 e2), vi (((e2).map T_api_Op.enc).length : Nat) = vi ((e2.length : Nat) : Int), EB (!decide (((e2.length : Nat) : Int) = 20)) true, vi (((r7).map (encL 71 T_api_Op.enc)).length : Nat) = vi ((r7.length : Nat) : Int), EW (((r7.length : Nat) : Int) - 1), EB (decide (s7_8 < (((r7.length : Nat) : Int) - 1))) true], by kernel_rfl, (Ac (nv_len _ _) (Ac (nv_b c1) (Ac (getI_ok c3 1 (encL 71 T_api_Op.enc)) (Ac (nv_len _ _) (Ac (nv_b c4) (Ac (nv_len _ _) (Ac (nv_wrap c5) (Ac (nv_b c6) An))))))))⟩
theorem rolodexlaw17_OrderBatches_l8_p1 {a0 : List T_api_Op} {r7 : List (List T_api_Op)} {s7_8 : Int} {e2 : List T_api_Op} {e7 : List T_api_Op} (c1 : (decide (s7_8 < ((r7.length : Nat) : Int))) = true) (c3 : getI r7 s7_8 = some e2) (c4 : (!decide (((e2.length : Nat) : Int) = 20)) = true) (c5 : in64 (((r7.length : Nat) : Int) - 1)) (c6 : (decide (s7_8 < (((r7.length : Nat) : Int) - 1))) = false) (c8 : getI r7 s7_8 = some e7) (c9 : (decide (((e7.length : Nat) : Int) = 0)) = true) : Step rolodexlaw17_OrderBatches_f8 (rolodexlaw17_OrderBatches_l8_h a0 r7 s7_8) (.ret) (S5 0 75 [] [(2, vb false)] []) :=
  ⟨{ an := [(10002, .pv (p0 e2)), (10016, .pv (p0 e7))], nv := [(8002, vi ((r7.length : Nat) : Int)), (8003, vb true), (10004, vi ((e2.length : Nat) : Int)), (10005, vb true), (10009, vi ((r7.length : Nat) : Int)), (10010, vi (((r7.length : Nat) : Int) - 1)), (10011, vb false), (10018, vi ((e7.length : Nat) : Int)), (10019, vb true)] }, [vi (((r7).map (encL 71 T_api_Op.enc)).length : Nat) = vi ((r7.length : Nat) : Int), EB (decide (s7_8 < ((r7.length : Nat) : Int))) true, EG (p4 r7) s7_8 (p0 e2), vi (((e2).map T_api_Op.enc).length : Nat) = vi ((e2.length : Nat) : Int), EB (!decide (((e2.length : Nat) : Int) = 20)) true, vi (((r7).map (encL 71 T_api_Op.enc)).length : Nat) = vi ((r7.length : Nat) : Int), EW (((r7.length : Nat) : Int) - 1), EB (decide (s7_8 < (((r7.length : Nat) : Int) - 1))) false, EG (p4 r7) s7_8 (p0 e7), vi (((e7).map T_api_Op.enc).length : Nat) = vi ((e7.length : Nat) : Int), EB (decide (((e7.length : Nat) : Int) = 0)) true], by kernel_rfl, (Ac (nv_len _ _) (Ac (nv_b c1) (Ac (getI_ok c3 1 (encL 71 T_api_Op.enc)) (Ac (nv_len _ _) (Ac (nv_b c4) (Ac (nv_len _ _) (Ac (nv_wrap c5) (Ac (nv_b c6) (Ac (getI_ok c8 1 (encL 71 T_api_Op.enc)) (Ac (nv_len _ _) (Ac (nv_b c9) An)))))))))))⟩
theorem rolodexlaw17_OrderBatches_l8_p2 {a0 : List T_api_Op} {r7 : List (List T_api_Op)} {s7_8 : Int} {e2 : List T_api_Op} {e7 : List T_api_Op} {e10 : List T_api_Op} (c1 : (decide (s7_8 < ((r7.length : Nat) : Int))) = true) (c3 : getI r7 s7_8 = some e2) (c4 : (!decide (((e2.length : Nat) : Int) = 20)) = true) (c5 : in64 (((r7.length : Nat) : Int) - 1)) (c6 : (decide (s7_8 < (((r7.length : Nat) : Int) - 1))) = false) (c8 : getI r7 s7_8 = some e7) (c9 : (decide (((e7.length : Nat) : Int) = 0)) = false) (c11 : getI r7 s7_8 = some e10) (c12 : (decide (20 < ((e10.length : Nat) : Int))) = true) : Step rolodexlaw17_OrderBatches_f8 (rolodexlaw17_OrderBatches_l8_h a0 r7 s7_8) (.ret) (S5 0 75 [] [(2, vb false)] []) :=
  ⟨{ an := [(10002, .pv (p0 e2)), (10016, .pv (p0 e7)), (10024, .pv (p0 e10))], nv := [(8002, vi ((r7.length : Nat) : Int)), (8003, vb true), (10004, vi ((e2.length : Nat) : Int)), (10005, vb true), (10009, vi ((r7.length : Nat) : Int)), (10010, vi (((r7.length : Nat) : Int) - 1)), (10011, vb false), (10018, vi ((e7.length : Nat) : Int)), (10019, vb false), (10026, vi ((e10.length : Nat) : Int)), (10027, vb true)] }, [vi (((r7).map (encL 71 T_api_Op.enc)).length : Nat) = vi ((r7.length : Nat) : Int), EB (decide (s7_8 < ((r7.length : Nat) : Int))) true, EG (p4 r7) s7_8 (p0 e2), vi (((e2).map T_api_Op.enc).length : Nat) = vi ((e2.length : Nat) : Int), EB (!decide (((e2.length : Nat) : Int) = 20)) true, vi (((r7).map (encL 71 T_api_Op.enc)).length : Nat) = vi ((r7.length : Nat) : Int), EW (((r7.length : Nat) : Int) - 1), EB (decide (s7_8 < (((r7.length : Nat) : Int) - 1))) false, EG (p4 r7) s7_8 (p0 e7), vi (((e7).map T_api_Op.enc).length : Nat) = vi ((e7.length : Nat) : Int), EB (decide (((e7.length : Nat) : Int) = 0)) false, EG (p4 r7) s7_8 (p0 e10), vi (((e10).map T_api_Op.enc).length : Nat) = vi ((e10.length : Nat) : Int), EB (decide (20 < ((e10.length : Nat) : Int))) true], by kernel_rfl, (Ac (nv_len _ _) (Ac (nv_b c1) (Ac (getI_ok c3 1 (encL 71 T_api_Op.enc)) (Ac (nv_len _ _) (Ac (nv_b c4) (Ac (nv_len _ _) (Ac (nv_wrap c5) (Ac (nv_b c6) (Ac (getI_ok c8 1 (encL 71 T_api_Op.enc)) (Ac (nv_len _ _) (Ac (nv_b c9) (Ac (getI_ok c11 1 (encL 71 T_api_Op.enc)) (Ac (nv_len _ _) (Ac (nv_b c12) An))))))))))))))⟩
theorem rolodexlaw17_OrderBatches_l8_p3 {a0 : List T_api_Op} {r7 : List (List T_api_Op)} {s7_8 : Int} {e2 : List T_api_Op} {e7 : List T_api_Op} {e10 : List T_api_Op} {e13 : List T_api_Op} (c1 : (decide (s7_8 < ((r7.length : Nat) : Int))) = true) (c3 : getI r7 s7_8 = some e2) (c4 : (!decide (((e2.length : Nat) : Int) = 20)) = true) (c5 : in64 (((r7.length : Nat) : Int) - 1)) (c6 : (decide (s7_8 < (((r7.length : Nat) : Int) - 1))) = false) (c8 : getI r7 s7_8 = some e7) (c9 : (decide (((e7.length : Nat) : Int) = 0)) = false) (c11 : getI r7 s7_8 = some e10) (c12 : (decide (20 < ((e10.length : Nat) : Int))) = false) (c14 : getI r7 s7_8 = some e13) (c15 : e13.isEmpty = true) (c16 : in64 (s7_8 + 1)) : Step rolodexlaw17_OrderBatches_f8 (rolodexlaw17_OrderBatches_l8_h a0 r7 s7_8) (.normal) (S5 0 75 [] [(0, v0 a0), (5, v4 r7), (6, .nils), (7, vi (s7_8 + 1))] []) :=
  ⟨{ an := [(10002, .pv (p0 e2)), (10016, .pv (p0 e7)), (10024, .pv (p0 e10)), (12003, .pv (p0 e13)), (12005, .nat 0)], nv := [(8002, vi ((r7.length : Nat) : Int)), (8003, vb true), (10004, vi ((e2.length : Nat) : Int)), (10005, vb true), (10009, vi ((r7.length : Nat) : Int)), (10010, vi (((r7.length : Nat) : Int) - 1)), (10011, vb false), (10018, vi ((e7.length : Nat) : Int)), (10019, vb false), (10026, vi ((e10.length : Nat) : Int)), (10027, vb false), (9001, vi (s7_8 + 1))] }, [vi (((r7).map (encL 71 T_api_Op.enc)).length : Nat) = vi ((r7.length : Nat) : Int), EB (decide (s7_8 < ((r7.length : Nat) : Int))) true, EG (p4 r7) s7_8 (p0 e2), vi (((e2).map T_api_Op.enc).length : Nat) = vi ((e2.length : Nat) : Int), EB (!decide (((e2.length : Nat) : Int) = 20)) true, vi (((r7).map (encL 71 T_api_Op.enc)).length : Nat) = vi ((r7.length : Nat) : Int), EW (((r7.length : Nat) : Int) - 1), EB (decide (s7_8 < (((r7.length : Nat) : Int) - 1))) false, EG (p4 r7) s7_8 (p0 e7), vi (((e7).map T_api_Op.enc).length : Nat) = vi ((e7.length : Nat) : Int), EB (decide (((e7.length : Nat) : Int) = 0)) false, EG (p4 r7) s7_8 (p0 e10), vi (((e10).map T_api_Op.enc).length : Nat) = vi ((e10.length : Nat) : Int), EB (decide (20 < ((e10.length : Nat) : Int))) false, EG (p4 r7) s7_8 (p0 e13), (p0 e13).len = 0, EW (s7_8 + 1)], by kernel_rfl, (Ac (nv_len _ _) (Ac (nv_b c1) (Ac (getI_ok c3 1 (encL 71 T_api_Op.enc)) (Ac (nv_len _ _) (Ac (nv_b c4) (Ac (nv_len _ _) (Ac (nv_wrap c5) (Ac (nv_b c6) (Ac (getI_ok c8 1 (encL 71 T_api_Op.enc)) (Ac (nv_len _ _) (Ac (nv_b c9) (Ac (getI_ok c11 1 (encL 71 T_api_Op.enc)) (Ac (nv_len _ _) (Ac (nv_b c12) (Ac (getI_ok c14 1 (encL 71 T_api_Op.enc)) (Ac (len_e c15) (Ac (nv_wrap c16) An)))))))))))))))))⟩
theorem rolodexlaw17_OrderBatches_l8_p4 {a0 : List T_api_Op} {r7 : List (List T_api_Op)} {s7_8 : Int} {e2 : List T_api_Op} {e7 : List T_api_Op} {e10 : List T_api_Op} {e13 : List T_api_Op} (c1 : (decide (s7_8 < ((r7.length : Nat) : Int))) = true) (c3 : getI r7 s7_8 = some e2) (c4 : (!decide (((e2.length : Nat) : Int) = 20)) = true) (c5 : in64 (((r7.length : Nat) : Int) - 1)) (c6 : (decide (s7_8 < (((r7.length : Nat) : Int) - 1))) = false) (c8 : getI r7 s7_8 = some e7) (c9 : (decide (((e7.length : Nat) : Int) = 0)) = false) (c11 : getI r7 s7_8 = some e10) (c12 : (decide (20 < ((e10.length : Nat) : Int))) = false) (c14 : getI r7 s7_8 = some e13) (c15 : e13.isEmpty = false) (c16 : capOK e13.length 144) (c17 : in64 (s7_8 + 1)) : Step rolodexlaw17_OrderBatches_f8 (rolodexlaw17_OrderBatches_l8_h a0 r7 s7_8) (.normal) (S5 0 75 [] [(0, v0 a0), (5, v4 r7), (6, .v 610 e13.length), (7, vi (s7_8 + 1))] [(610, w0 e13)]) :=
  ⟨{ an := [(10002, .pv (p0 e2)), (10016, .pv (p0 e7)), (10024, .pv (p0 e10)), (12003, .pv (p0 e13))], nv := [(8002, vi ((r7.length : Nat) : Int)), (8003, vb true), (10004, vi ((e2.length : Nat) : Int)), (10005, vb true), (10009, vi ((r7.length : Nat) : Int)), (10010, vi (((r7.length : Nat) : Int) - 1)), (10011, vb false), (10018, vi ((e7.length : Nat) : Int)), (10019, vb false), (10026, vi ((e10.length : Nat) : Int)), (10027, vb false), (12005, .v 610 e13.length), (9001, vi (s7_8 + 1))] }, [vi (((r7).map (encL 71 T_api_Op.enc)).length : Nat) = vi ((r7.length : Nat) : Int), EB (decide (s7_8 < ((r7.length : Nat) : Int))) true, EG (p4 r7) s7_8 (p0 e2), vi (((e2).map T_api_Op.enc).length : Nat) = vi ((e2.length : Nat) : Int), EB (!decide (((e2.length : Nat) : Int) = 20)) true, vi (((r7).map (encL 71 T_api_Op.enc)).length : Nat) = vi ((r7.length : Nat) : Int), EW (((r7.length : Nat) : Int) - 1), EB (decide (s7_8 < (((r7.length : Nat) : Int) - 1))) false, EG (p4 r7) s7_8 (p0 e7), vi (((e7).map T_api_Op.enc).length : Nat) = vi ((e7.length : Nat) : Int), EB (decide (((e7.length : Nat) : Int) = 0)) false, EG (p4 r7) s7_8 (p0 e10), vi (((e10).map T_api_Op.enc).length : Nat) = vi ((e10.length : Nat) : Int), EB (decide (20 < ((e10.length : Nat) : Int))) false, EG (p4 r7) s7_8 (p0 e13), (p0 e13).len * 144 ≤ 140737488355328, (p0 e13).len ≠ 0, AV.v 610 ((e13).map T_api_Op.enc).length = AV.v 610 e13.length, EW (s7_8 + 1)], by kernel_rfl, (Ac (nv_len _ _) (Ac (nv_b c1) (Ac (getI_ok c3 1 (encL 71 T_api_Op.enc)) (Ac (nv_len _ _) (Ac (nv_b c4) (Ac (nv_len _ _) (Ac (nv_wrap c5) (Ac (nv_b c6) (Ac (getI_ok c8 1 (encL 71 T_api_Op.enc)) (Ac (nv_len _ _) (Ac (nv_b c9) (Ac (getI_ok c11 1 (encL 71 T_api_Op.enc)) (Ac (nv_len _ _) (Ac (nv_b c12) (Ac (getI_ok c14 1 (encL 71 T_api_Op.enc)) (Ac (len_le c16) (Ac (len_ne c15) (Ac (nv_len1 _ _ _) (Ac (nv_wrap c17) An)))))))))))))))))))⟩
theorem rolodexlaw17_OrderBatches_l8_p5 {a0 : List T_api_Op} {r7 : List (List T_api_Op)} {s7_8 : Int} {e2 : List T_api_Op} {e5 : List T_api_Op} (c1 : (decide (s7_8 < ((r7.length : Nat) : Int))) = true) (c3 : getI r7 s7_8 = some e2) (c4 : (!decide (((e2.length : Nat) : Int) = 20)) = false) (c6 : getI r7 s7_8 = some e5) (c7 : (decide (((e5.length : Nat) : Int) = 0)) = true) : Step rolodexlaw17_OrderBatches_f8 (rolodexlaw17_OrderBatches_l8_h a0 r7 s7_8) (.ret) (S5 0 75 [] [(2, vb false)] []) :=
  ⟨{ an := [(10002, .pv (p0 e2)), (10016, .pv (p0 e5))], nv := [(8002, vi ((r7.length : Nat) : Int)), (8003, vb true), (10004, vi ((e2.length : Nat) : Int)), (10005, vb false), (10018, vi ((e5.length : Nat) : Int)), (10019, vb true)] }, [vi (((r7).map (encL 71 T_api_Op.enc)).length : Nat) = vi ((r7.length : Nat) : Int), EB (decide (s7_8 < ((r7.length : Nat) : Int))) true, EG (p4 r7) s7_8 (p0 e2), vi (((e2).map T_api_Op.enc).length : Nat) = vi ((e2.length : Nat) : Int), EB (!decide (((e2.length : Nat) : Int) = 20)) false, EG (p4 r7) s7_8 (p0 e5), vi (((e5).map T_api_Op.enc).length : Nat) = vi ((e5.length : Nat) : Int), EB (decide (((e5.length : Nat) : Int) = 0)) true], by kernel_rfl, (Ac (nv_len _ _) (Ac (nv_b c1) (Ac (getI_ok c3 1 (encL 71 T_api_Op.enc)) (Ac (nv_len _ _) (Ac (nv_b c4) (Ac (getI_ok c6 1 (encL 71 T_api_Op.enc)) (Ac (nv_len _ _) (Ac (nv_b c7) An))))))))⟩
theorem rolodexlaw17_OrderBatches_l8_p6 {a0 : List T_api_Op} {r7 : List (List T_api_Op)} {s7_8 : Int} {e2 : List T_api_Op} {e5 : List T_api_Op} {e8 : List T_api_Op} (c1 : (decide (s7_8 < ((r7.length : Nat) : Int))) = true) (c3 : getI r7 s7_8 = some e2) (c4 : (!decide (((e2.length : Nat) : Int) = 20)) = false) (c6 : getI r7 s7_8 = some e5) (c7 : (decide (((e5.length : Nat) : Int) = 0)) = false) (c9 : getI r7 s7_8 = some e8) (c10 : (decide (20 < ((e8.length : Nat) : Int))) = true) : Step rolodexlaw17_OrderBatches_f8 (rolodexlaw17_OrderBatches_l8_h a0 r7 s7_8) (.ret) (S5 0 75 [] [(2, vb false)] []) :=
  ⟨{ an := [(10002, .pv (p0 e2)), (10016, .pv (p0 e5)), (10024, .pv (p0 e8))], nv := [(8002, vi ((r7.length : Nat) : Int)), (8003, vb true), (10004, vi ((e2.length : Nat) : Int)), (10005, vb false), (10018, vi ((e5.length : Nat) : Int)), (10019, vb false), (10026, vi ((e8.length : Nat) : Int)), (10027, vb true)] }, [vi (((r7).map (encL 71 T_api_Op.enc)).length : Nat) = vi ((r7.length : Nat) : Int), EB (decide (s7_8 < ((r7.length : Nat) : Int))) true, EG (p4 r7) s7_8 (p0 e2), vi (((e2).map T_api_Op.enc).length : Nat) = vi ((e2.length : Nat) : Int), EB (!decide (((e2.length : Nat) : Int) = 20)) false, EG (p4 r7) s7_8 (p0 e5), vi (((e5).map T_api_Op.enc).length : Nat) = vi ((e5.length : Nat) : Int), EB (decide (((e5.length : Nat) : Int) = 0)) false, EG (p4 r7) s7_8 (p0 e8), vi (((e8).map T_api_Op.enc).length : Nat) = vi ((e8.length : Nat) : Int), EB (decide (20 < ((e8.length : Nat) : Int))) true], by kernel_rfl, (Ac (nv_len _ _) (Ac (nv_b c1) (Ac (getI_ok c3 1 (encL 71 T_api_Op.enc)) (Ac (nv_len _ _) (Ac (nv_b c4) (Ac (getI_ok c6 1 (encL 71 T_api_Op.enc)) (Ac (nv_len _ _) (Ac (nv_b c7) (Ac (getI_ok c9 1 (encL 71 T_api_Op.enc)) (Ac (nv_len _ _) (Ac (nv_b c10) An)))))))))))⟩
theorem rolodexlaw17_OrderBatches_l8_p7 {a0 : List T_api_Op} {r7 : List (List T_api_Op)} {s7_8 : Int} {e2 : List T_api_Op} {e5 : List T_api_Op} {e8 : List T_api_Op} {e11 : List T_api_Op} (c1 : (decide (s7_8 < ((r7.length : Nat) : Int))) = true) (c3 : getI r7 s7_8 = some e2) (c4 : (!decide (((e2.length : Nat) : Int) = 20)) = false) (c6 : getI r7 s7_8 = some e5) (c7 : (decide (((e5.length : Nat) : Int) = 0)) = false) (c9 : getI r7 s7_8 = some e8) (c10 : (decide (20 < ((e8.length : Nat) : Int))) = false) (c12 : getI r7 s7_8 = some e11) (c13 : e11.isEmpty = true) (c14 : in64 (s7_8 + 1)) : Step rolodexlaw17_OrderBatches_f8 (rolodexlaw17_OrderBatches_l8_h a0 r7 s7_8) (.normal) (S5 0 75 [] [(0, v0 a0), (5, v4 r7), (6, .nils), (7, vi (s7_8 + 1))] []) :=
  ⟨{ an := [(10002, .pv (p0 e2)), (10016, .pv (p0 e5)), (10024, .pv (p0 e8)), (12003, .pv (p0 e11)), (12005, .nat 0)], nv := [(8002, vi ((r7.length : Nat) : Int)), (8003, vb true), (10004, vi ((e2.length : Nat) : Int)), (10005, vb false), (10018, vi ((e5.length : Nat) : Int)), (10019, vb false), (10026, vi ((e8.length : Nat) : Int)), (10027, vb false), (9001, vi (s7_8 + 1))] }, [vi (((r7).map (encL 71 T_api_Op.enc)).length : Nat) = vi ((r7.length : Nat) : Int), EB (decide (s7_8 < ((r7.length : Nat) : Int))) true, EG (p4 r7) s7_8 (p0 e2), vi (((e2).map T_api_Op.enc).length : Nat) = vi ((e2.length : Nat) : Int), EB (!decide (((e2.length : Nat) : Int) = 20)) false, EG (p4 r7) s7_8 (p0 e5), vi (((e5).map T_api_Op.enc).length : Nat) = vi ((e5.length : Nat) : Int), EB (decide (((e5.length : Nat) : Int) = 0)) false, EG (p4 r7) s7_8 (p0 e8), vi (((e8).map T_api_Op.enc).length : Nat) = vi ((e8.length : Nat) : Int), EB (decide (20 < ((e8.length : Nat) : Int))) false, EG (p4 r7) s7_8 (p0 e11), (p0 e11).len = 0, EW (s7_8 + 1)], by kernel_rfl, (Ac (nv_len _ _) (Ac (nv_b c1) (Ac (getI_ok c3 1 (encL 71 T_api_Op.enc)) (Ac (nv_len _ _) (Ac (nv_b c4) (Ac (getI_ok c6 1 (encL 71 T_api_Op.enc)) (Ac (nv_len _ _) (Ac (nv_b c7) (Ac (getI_ok c9 1 (encL 71 T_api_Op.enc)) (Ac (nv_len _ _) (Ac (nv_b c10) (Ac (getI_ok c12 1 (encL 71 T_api_Op.enc)) (Ac (len_e c13) (Ac (nv_wrap c14) An))))))))))))))⟩
theorem rolodexlaw17_OrderBatches_l8_p8 {a0 : List T_api_Op} {r7 : List (List T_api_Op)} {s7_8 : Int} {e2 : List T_api_Op} {e5 : List T_api_Op} {e8 : List T_api_Op} {e11 : List T_api_Op} (c1 : (decide (s7_8 < ((r7.length : Nat) : Int))) = true) (c3 : getI r7 s7_8 = some e2) (c4 : (!decide (((e2.length : Nat) : Int) = 20)) = false) (c6 : getI r7 s7_8 = some e5) (c7 : (decide (((e5.length : Nat) : Int) = 0)) = false) (c9 : getI r7 s7_8 = some e8) (c10 : (decide (20 < ((e8.length : Nat) : Int))) = false) (c12 : getI r7 s7_8 = some e11) (c13 : e11.isEmpty = false) (c14 : capOK e11.length 144) (c15 : in64 (s7_8 + 1)) : Step rolodexlaw17_OrderBatches_f8 (rolodexlaw17_OrderBatches_l8_h a0 r7 s7_8) (.normal) (S5 0 75 [] [(0, v0 a0), (5, v4 r7), (6, .v 610 e11.length), (7, vi (s7_8 + 1))] [(610, w0 e11)]) :=
  ⟨{ an := [(10002, .pv (p0 e2)), (10016, .pv (p0 e5)), (10024, .pv (p0 e8)), (12003, .pv (p0 e11))], nv := [(8002, vi ((r7.length : Nat) : Int)), (8003, vb true), (10004, vi ((e2.length : Nat) : Int)), (10005, vb false), (10018, vi ((e5.length : Nat) : Int)), (10019, vb false), (10026, vi ((e8.length : Nat) : Int)), (10027, vb false), (12005, .v 610 e11.length), (9001, vi (s7_8 + 1))] }, [vi (((r7).map (encL 71 T_api_Op.enc)).length : Nat) = vi ((r7.length : Nat) : Int), EB (decide (s7_8 < ((r7.length : Nat) : Int))) true, EG (p4 r7) s7_8 (p0 e2), vi (((e2).map T_api_Op.enc).length : Nat) = vi ((e2.length : Nat) : Int), EB (!decide (((e2.length : Nat) : Int) = 20)) false, EG (p4 r7) s7_8 (p0 e5), vi (((e5).map T_api_Op.enc).length : Nat) = vi ((e5.length : Nat) : Int), EB (decide (((e5.length : Nat) : Int) = 0)) false, EG (p4 r7) s7_8 (p0 e8), vi (((e8).map T_api_Op.enc).length : Nat) = vi ((e8.length : Nat) : Int), EB (decide (20 < ((e8.length : Nat) : Int))) false, EG (p4 r7) s7_8 (p0 e11), (p0 e11).len * 144 ≤ 140737488355328, (p0 e11).len ≠ 0, AV.v 610 ((e11).map T_api_Op.enc).length = AV.v 610 e11.length, EW (s7_8 + 1)], by kernel_rfl, (Ac (nv_len _ _) (Ac (nv_b c1) (Ac (getI_ok c3 1 (encL 71 T_api_Op.enc)) (Ac (nv_len _ _) (Ac (nv_b c4) (Ac (getI_ok c6 1 (encL 71 T_api_Op.enc)) (Ac (nv_len _ _) (Ac (nv_b c7) (Ac (getI_ok c9 1 (encL 71 T_api_Op.enc)) (Ac (nv_len _ _) (Ac (nv_b c10) (Ac (getI_ok c12 1 (encL 71 T_api_Op.enc)) (Ac (len_le c14) (Ac (len_ne c13) (Ac (nv_len1 _ _ _) (Ac (nv_wrap c15) An))))))))))))))))⟩
theorem rolodexlaw17_OrderBatches_l8_p9 {a0 : List T_api_Op} {r7 : List (List T_api_Op)} {s7_8 : Int} (c1 : (decide (s7_8 < ((r7.length : Nat) : Int))) = false) : Step rolodexlaw17_OrderBatches_f8 (rolodexlaw17_OrderBatches_l8_h a0 r7 s7_8) (.exit 0) (S5 0 75 [] [(0, v0 a0), (5, v4 r7), (6, .nils), (7, vi s7_8), (24, vb false)] []) :=
  ⟨{ nv := [(8002, vi ((r7.length : Nat) : Int)), (8003, vb false)] }, [vi (((r7).map (encL 71 T_api_Op.enc)).length : Nat) = vi ((r7.length : Nat) : Int), EB (decide (s7_8 < ((r7.length : Nat) : Int))) false], by kernel_rfl, (Ac (nv_len _ _) (Ac (nv_b c1) An))⟩
theorem rolodexlaw17_OrderBatches_l8_ok {a0 : List T_api_Op} {r7 : List (List T_api_Op)} : ∀ {N : Nat} {s7_8 : Int} {z : Unit ⊕ Int ⊕ (Int × List T_api_Op)}, rolodexlaw17_OrderBatches_l8 a0 r7 N s7_8 = some z → LoopP rolodexlaw17_OrderBatches_f8 (rolodexlaw17_OrderBatches_l8_h a0 r7 s7_8) (rolodexlaw17_OrderBatches_l8_e z) (rolodexlaw17_OrderBatches_l8_s a0 r7 z) := by
  intro N
  induction N with
  | zero => intro s7_8 z h; simp [rolodexlaw17_OrderBatches_l8] at h
  | succ N ih =>
    intro s7_8 z h
    change rolodexlaw17_OrderBatches_l8_f a0 r7 N (rolodexlaw17_OrderBatches_l8 a0 r7 N) s7_8 = some z at h
    unfold rolodexlaw17_OrderBatches_l8_f at h
    rcases cond_some h with ⟨c1, h⟩ | ⟨c1, h⟩
    · obtain ⟨e2, c3, h⟩ := bind_some h
      rcases cond_some h with ⟨c4, h⟩ | ⟨c4, h⟩
      · obtain ⟨c5, h⟩ := chk_some h
        rcases cond_some h with ⟨c6, h⟩ | ⟨c6, h⟩
        · obtain rfl := Option.some.inj h
          exact Step.ret (rolodexlaw17_OrderBatches_l8_p0 c1 c3 c4 c5 c6)
        · obtain ⟨e7, c8, h⟩ := bind_some h
          rcases cond_some h with ⟨c9, h⟩ | ⟨c9, h⟩
          · obtain rfl := Option.some.inj h
            exact Step.ret (rolodexlaw17_OrderBatches_l8_p1 c1 c3 c4 c5 c6 c8 c9)
          · obtain ⟨e10, c11, h⟩ := bind_some h
            rcases cond_some h with ⟨c12, h⟩ | ⟨c12, h⟩
            · obtain rfl := Option.some.inj h
              exact Step.ret (rolodexlaw17_OrderBatches_l8_p2 c1 c3 c4 c5 c6 c8 c9 c11 c12)
            · obtain ⟨e13, c14, h⟩ := bind_some h
              rcases cond_some h with ⟨c15, h⟩ | ⟨c15, h⟩
              · obtain ⟨c16, h⟩ := chk_some h
                exact Step.next (rolodexlaw17_OrderBatches_l8_p3 c1 c3 c4 c5 c6 c8 c9 c11 c12 c14 c15 c16) (ih h)
              · obtain ⟨c16, h⟩ := chk_some h
                obtain ⟨c17, h⟩ := chk_some h
                exact Step.next (rolodexlaw17_OrderBatches_l8_p4 c1 c3 c4 c5 c6 c8 c9 c11 c12 c14 c15 c16 c17) (rolodexlaw17_OrderBatches_l8_s1_ok h)
      · obtain ⟨e5, c6, h⟩ := bind_some h
        rcases cond_some h with ⟨c7, h⟩ | ⟨c7, h⟩
        · obtain rfl := Option.some.inj h
          exact Step.ret (rolodexlaw17_OrderBatches_l8_p5 c1 c3 c4 c6 c7)
        · obtain ⟨e8, c9, h⟩ := bind_some h
          rcases cond_some h with ⟨c10, h⟩ | ⟨c10, h⟩
          · obtain rfl := Option.some.inj h
            exact Step.ret (rolodexlaw17_OrderBatches_l8_p6 c1 c3 c4 c6 c7 c9 c10)
          · obtain ⟨e11, c12, h⟩ := bind_some h
            rcases cond_some h with ⟨c13, h⟩ | ⟨c13, h⟩
            · obtain ⟨c14, h⟩ := chk_some h
              exact Step.next (rolodexlaw17_OrderBatches_l8_p7 c1 c3 c4 c6 c7 c9 c10 c12 c13 c14) (ih h)
            · obtain ⟨c14, h⟩ := chk_some h
              obtain ⟨c15, h⟩ := chk_some h
              exact Step.next (rolodexlaw17_OrderBatches_l8_p8 c1 c3 c4 c6 c7 c9 c10 c12 c13 c14 c15) (rolodexlaw17_OrderBatches_l8_s1_ok h)
    · obtain rfl := Option.some.inj h
      exact Step.exit (rolodexlaw17_OrderBatches_l8_p9 c1)
def rolodexlaw17_OrderBatches (N : Nat) (a0 : List T_api_Op) : Option (Bool) :=
  (rolodexlaw17_awake N).bind fun r1 =>
  cond (r1) (
    (rolodexlaw17_Few N a0).bind fun r4 =>
    cond (r4) (
      (order_Split N a0).bind fun r7 =>
      (rolodexlaw17_OrderBatches_l8 a0 r7 N 0).bind fun z9 => match z9 with
      | .inl z10 =>
        some false
      | .inr (.inl z10) =>
        (rolodexref16_Same N [] a0).bind fun r12 =>
        cond (r12) (
          chk (in64 (((a0.length : Nat) : Int) + 19)) <|
          chk (in64 ((((a0.length : Nat) : Int) + 19).tdiv 20)) <|
          some (decide (((r7.length : Nat) : Int) = ((((a0.length : Nat) : Int) + 19).tdiv 20)))) (
          some false)
      | .inr (.inr z10) =>
        (rolodexref16_Same N z10.2 a0).bind fun r12 =>
        cond (r12) (
          chk (in64 (((a0.length : Nat) : Int) + 19)) <|
          chk (in64 ((((a0.length : Nat) : Int) + 19).tdiv 20)) <|
          some (decide (((r7.length : Nat) : Int) = ((((a0.length : Nat) : Int) + 19).tdiv 20)))) (
          some false)) (
      some true)) (
    (rolodexlaw17_Few N a0).bind fun r4 =>
    cond (r4) (
      some false) (
      some false))
theorem rolodexlaw17_OrderBatches_p0 {N : Nat} {a0 : List T_api_Op} {r1 : Bool} {r4 : Bool} {r7 : List (List T_api_Op)} {z10 : Unit} (c2 : rolodexlaw17_awake N = some r1) (c3 : r1 = true) (c5 : rolodexlaw17_Few N a0 = some r4) (c6 : r4 = true) (c8 : order_Split N a0 = some r7) (c11 : rolodexlaw17_OrderBatches_l8 a0 r7 N 0 = some (.inl z10)) (l : Nat) : Vd Try.prog l (.fn (.func 6) [] []) [v0 a0] [] (vb false) [] :=
  Try_vf6 (hn := rolodexlaw17_OrderBatches_hn) (lvl := 0) (O := { an := [(1000, .call (.ret (vb r1)) []), (2001, .call (.ret (vb r4)) []), (5001, .call (.ret (v4 r7)) [])], nv := [(1000, vb true), (2001, vb true)], lo := [(8, .ret, S5 0 75 [] [(2, vb false)] [])] }) (ps := [Vd Try.prog 0 (.fn (.func 9) [] []) [] [] (vb r1) [], EB r1 true, Vd Try.prog 0 (.fn (.func 10) [] []) [v0 a0] [] (vb r4) [], EB r4 true, Vd Try.prog 0 (.fn (.func 14) [] []) [v0 a0] [] (v4 r7) [], LoopP rolodexlaw17_OrderBatches_f8 (S5 0 75 [] [(0, v0 a0), (5, v4 r7), (6, .nils), (7, vi 0)] []) (.ret) (S5 0 75 [] [(2, vb false)] [])]) (by kernel_rfl) (Ac (rolodexlaw17_awake_valid c2 _) (Ac (nv_b c3) (Ac (rolodexlaw17_Few_valid c5 _) (Ac (nv_b c6) (Ac (order_Split_valid c8 _) (Ac (rolodexlaw17_OrderBatches_l8_ok c11) An)))))) l
theorem rolodexlaw17_OrderBatches_p1 {N : Nat} {a0 : List T_api_Op} {r1 : Bool} {r4 : Bool} {r7 : List (List T_api_Op)} {z10 : Int} {r12 : Bool} (c2 : rolodexlaw17_awake N = some r1) (c3 : r1 = true) (c5 : rolodexlaw17_Few N a0 = some r4) (c6 : r4 = true) (c8 : order_Split N a0 = some r7) (c11 : rolodexlaw17_OrderBatches_l8 a0 r7 N 0 = some (.inr (.inl z10))) (c13 : rolodexref16_Same N [] a0 = some r12) (c14 : r12 = true) (c15 : in64 (((a0.length : Nat) : Int) + 19)) (c16 : in64 ((((a0.length : Nat) : Int) + 19).tdiv 20)) (l : Nat) : Vd Try.prog l (.fn (.func 6) [] []) [v0 a0] [] (vb (decide (((r7.length : Nat) : Int) = ((((a0.length : Nat) : Int) + 19).tdiv 20)))) [] :=
  Try_vf6 (hn := rolodexlaw17_OrderBatches_hn) (lvl := 0) (O := { an := [(1000, .call (.ret (vb r1)) []), (2001, .call (.ret (vb r4)) []), (5001, .call (.ret (v4 r7)) []), (13002, .call (.ret (vb r12)) [])], nv := [(1000, vb true), (2001, vb true), (13002, vb true), (14003, vi ((r7.length : Nat) : Int)), (14005, vi ((a0.length : Nat) : Int)), (14006, vi (((a0.length : Nat) : Int) + 19)), (14007, vi ((((a0.length : Nat) : Int) + 19).tdiv 20))], lo := [(8, .exit 0, S5 0 75 [] [(0, v0 a0), (5, v4 r7), (6, .nils), (7, vi z10), (24, vb false)] [])] }) (ps := [Vd Try.prog 0 (.fn (.func 9) [] []) [] [] (vb r1) [], EB r1 true, Vd Try.prog 0 (.fn (.func 10) [] []) [v0 a0] [] (vb r4) [], EB r4 true, Vd Try.prog 0 (.fn (.func 14) [] []) [v0 a0] [] (v4 r7) [], LoopP rolodexlaw17_OrderBatches_f8 (S5 0 75 [] [(0, v0 a0), (5, v4 r7), (6, .nils), (7, vi 0)] []) (.exit 0) (S5 0 75 [] [(0, v0 a0), (5, v4 r7), (6, .nils), (7, vi z10), (24, vb false)] []), Vd Try.prog 0 (.fn (.func 11) [] []) [v0 [], v0 a0] [] (vb r12) [], EB r12 true, vi (((r7).map (encL 71 T_api_Op.enc)).length : Nat) = vi ((r7.length : Nat) : Int), vi (((a0).map T_api_Op.enc).length : Nat) = vi ((a0.length : Nat) : Int), EW (((a0.length : Nat) : Int) + 19), (20 : Int) ≠ 0, EW ((((a0.length : Nat) : Int) + 19).tdiv 20)]) (by kernel_rfl) (Ac (rolodexlaw17_awake_valid c2 _) (Ac (nv_b c3) (Ac (rolodexlaw17_Few_valid c5 _) (Ac (nv_b c6) (Ac (order_Split_valid c8 _) (Ac (rolodexlaw17_OrderBatches_l8_ok c11) (Ac (rolodexref16_Same_valid c13 _) (Ac (nv_b c14) (Ac (nv_len _ _) (Ac (nv_len _ _) (Ac (nv_wrap c15) (Ac (by decide) (Ac (nv_wrap c16) An))))))))))))) l
theorem rolodexlaw17_OrderBatches_p2 {N : Nat} {a0 : List T_api_Op} {r1 : Bool} {r4 : Bool} {r7 : List (List T_api_Op)} {z10 : Int} {r12 : Bool} (c2 : rolodexlaw17_awake N = some r1) (c3 : r1 = true) (c5 : rolodexlaw17_Few N a0 = some r4) (c6 : r4 = true) (c8 : order_Split N a0 = some r7) (c11 : rolodexlaw17_OrderBatches_l8 a0 r7 N 0 = some (.inr (.inl z10))) (c13 : rolodexref16_Same N [] a0 = some r12) (c14 : r12 = false) (l : Nat) : Vd Try.prog l (.fn (.func 6) [] []) [v0 a0] [] (vb false) [] :=
  Try_vf6 (hn := rolodexlaw17_OrderBatches_hn) (lvl := 0) (O := { an := [(1000, .call (.ret (vb r1)) []), (2001, .call (.ret (vb r4)) []), (5001, .call (.ret (v4 r7)) []), (13002, .call (.ret (vb r12)) [])], nv := [(1000, vb true), (2001, vb true), (13002, vb false)], lo := [(8, .exit 0, S5 0 75 [] [(0, v0 a0), (5, v4 r7), (6, .nils), (7, vi z10), (24, vb false)] [])] }) (ps := [Vd Try.prog 0 (.fn (.func 9) [] []) [] [] (vb r1) [], EB r1 true, Vd Try.prog 0 (.fn (.func 10) [] []) [v0 a0] [] (vb r4) [], EB r4 true, Vd Try.prog 0 (.fn (.func 14) [] []) [v0 a0] [] (v4 r7) [], LoopP rolodexlaw17_OrderBatches_f8 (S5 0 75 [] [(0, v0 a0), (5, v4 r7), (6, .nils), (7, vi 0)] []) (.exit 0) (S5 0 75 [] [(0, v0 a0), (5, v4 r7), (6, .nils), (7, vi z10), (24, vb false)] []), Vd Try.prog 0 (.fn (.func 11) [] []) [v0 [], v0 a0] [] (vb r12) [], EB r12 false]) (by kernel_rfl) (Ac (rolodexlaw17_awake_valid c2 _) (Ac (nv_b c3) (Ac (rolodexlaw17_Few_valid c5 _) (Ac (nv_b c6) (Ac (order_Split_valid c8 _) (Ac (rolodexlaw17_OrderBatches_l8_ok c11) (Ac (rolodexref16_Same_valid c13 _) (Ac (nv_b c14) An)))))))) l
theorem rolodexlaw17_OrderBatches_p3 {N : Nat} {a0 : List T_api_Op} {r1 : Bool} {r4 : Bool} {r7 : List (List T_api_Op)} {z10 : Int × List T_api_Op} {r12 : Bool} (c2 : rolodexlaw17_awake N = some r1) (c3 : r1 = true) (c5 : rolodexlaw17_Few N a0 = some r4) (c6 : r4 = true) (c8 : order_Split N a0 = some r7) (c11 : rolodexlaw17_OrderBatches_l8 a0 r7 N 0 = some (.inr (.inr z10))) (c13 : rolodexref16_Same N z10.2 a0 = some r12) (c14 : r12 = true) (c15 : in64 (((a0.length : Nat) : Int) + 19)) (c16 : in64 ((((a0.length : Nat) : Int) + 19).tdiv 20)) (l : Nat) : Vd Try.prog l (.fn (.func 6) [] []) [v0 a0] [] (vb (decide (((r7.length : Nat) : Int) = ((((a0.length : Nat) : Int) + 19).tdiv 20)))) [] :=
  Try_vf6 (hn := rolodexlaw17_OrderBatches_hn) (lvl := 0) (O := { an := [(1000, .call (.ret (vb r1)) []), (2001, .call (.ret (vb r4)) []), (5001, .call (.ret (v4 r7)) []), (13002, .call (.ret (vb r12)) [(610, .vec true 71 (p0 z10.2))])], nv := [(1000, vb true), (2001, vb true), (13002, vb true), (14003, vi ((r7.length : Nat) : Int)), (14005, vi ((a0.length : Nat) : Int)), (14006, vi (((a0.length : Nat) : Int) + 19)), (14007, vi ((((a0.length : Nat) : Int) + 19).tdiv 20))], lo := [(8, .exit 0, S5 0 75 [] [(0, v0 a0), (5, v4 r7), (6, .v 610 z10.2.length), (7, vi z10.1), (24, vb false)] [(610, w0 z10.2)])] }) (ps := [Vd Try.prog 0 (.fn (.func 9) [] []) [] [] (vb r1) [], EB r1 true, Vd Try.prog 0 (.fn (.func 10) [] []) [v0 a0] [] (vb r4) [], EB r4 true, Vd Try.prog 0 (.fn (.func 14) [] []) [v0 a0] [] (v4 r7) [], LoopP rolodexlaw17_OrderBatches_f8 (S5 0 75 [] [(0, v0 a0), (5, v4 r7), (6, .nils), (7, vi 0)] []) (.exit 0) (S5 0 75 [] [(0, v0 a0), (5, v4 r7), (6, .v 610 z10.2.length), (7, vi z10.1), (24, vb false)] [(610, w0 z10.2)]), (p0 z10.2).len = z10.2.length, Vd Try.prog 0 (.fn (.func 11) [] []) [v0 z10.2, v0 a0] [(610, .vec true 71 (p0 z10.2))] (vb r12) [(610, .vec true 71 (p0 z10.2))], EB r12 true, vi (((r7).map (encL 71 T_api_Op.enc)).length : Nat) = vi ((r7.length : Nat) : Int), vi (((a0).map T_api_Op.enc).length : Nat) = vi ((a0.length : Nat) : Int), EW (((a0.length : Nat) : Int) + 19), (20 : Int) ≠ 0, EW ((((a0.length : Nat) : Int) + 19).tdiv 20)]) (by kernel_rfl) (Ac (rolodexlaw17_awake_valid c2 _) (Ac (nv_b c3) (Ac (rolodexlaw17_Few_valid c5 _) (Ac (nv_b c6) (Ac (order_Split_valid c8 _) (Ac (rolodexlaw17_OrderBatches_l8_ok c11) (Ac (len_ok _ _ _) (Ac (Vd.frame [] (rolodexref16_Same_valid c13 _) (by kernel_rfl) (by kernel_rfl) (by kernel_rfl) (by kernel_rfl)) (Ac (nv_b c14) (Ac (nv_len _ _) (Ac (nv_len _ _) (Ac (nv_wrap c15) (Ac (by decide) (Ac (nv_wrap c16) An)))))))))))))) l
theorem rolodexlaw17_OrderBatches_p4 {N : Nat} {a0 : List T_api_Op} {r1 : Bool} {r4 : Bool} {r7 : List (List T_api_Op)} {z10 : Int × List T_api_Op} {r12 : Bool} (c2 : rolodexlaw17_awake N = some r1) (c3 : r1 = true) (c5 : rolodexlaw17_Few N a0 = some r4) (c6 : r4 = true) (c8 : order_Split N a0 = some r7) (c11 : rolodexlaw17_OrderBatches_l8 a0 r7 N 0 = some (.inr (.inr z10))) (c13 : rolodexref16_Same N z10.2 a0 = some r12) (c14 : r12 = false) (l : Nat) : Vd Try.prog l (.fn (.func 6) [] []) [v0 a0] [] (vb false) [] :=
  Try_vf6 (hn := rolodexlaw17_OrderBatches_hn) (lvl := 0) (O := { an := [(1000, .call (.ret (vb r1)) []), (2001, .call (.ret (vb r4)) []), (5001, .call (.ret (v4 r7)) []), (13002, .call (.ret (vb r12)) [(610, .vec true 71 (p0 z10.2))])], nv := [(1000, vb true), (2001, vb true), (13002, vb false)], lo := [(8, .exit 0, S5 0 75 [] [(0, v0 a0), (5, v4 r7), (6, .v 610 z10.2.length), (7, vi z10.1), (24, vb false)] [(610, w0 z10.2)])] }) (ps := [Vd Try.prog 0 (.fn (.func 9) [] []) [] [] (vb r1) [], EB r1 true, Vd Try.prog 0 (.fn (.func 10) [] []) [v0 a0] [] (vb r4) [], EB r4 true, Vd Try.prog 0 (.fn (.func 14) [] []) [v0 a0] [] (v4 r7) [], LoopP rolodexlaw17_OrderBatches_f8 (S5 0 75 [] [(0, v0 a0), (5, v4 r7), (6, .nils), (7, vi 0)] []) (.exit 0) (S5 0 75 [] [(0, v0 a0), (5, v4 r7), (6, .v 610 z10.2.length), (7, vi z10.1), (24, vb false)] [(610, w0 z10.2)]), (p0 z10.2).len = z10.2.length, Vd Try.prog 0 (.fn (.func 11) [] []) [v0 z10.2, v0 a0] [(610, .vec true 71 (p0 z10.2))] (vb r12) [(610, .vec true 71 (p0 z10.2))], EB r12 false]) (by kernel_rfl) (Ac (rolodexlaw17_awake_valid c2 _) (Ac (nv_b c3) (Ac (rolodexlaw17_Few_valid c5 _) (Ac (nv_b c6) (Ac (order_Split_valid c8 _) (Ac (rolodexlaw17_OrderBatches_l8_ok c11) (Ac (len_ok _ _ _) (Ac (Vd.frame [] (rolodexref16_Same_valid c13 _) (by kernel_rfl) (by kernel_rfl) (by kernel_rfl) (by kernel_rfl)) (Ac (nv_b c14) An))))))))) l
end Go.Rx
