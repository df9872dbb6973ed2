/- A part of the proof of OrderBatches: the law returns true for every input, and its arguments read as before. No condition. -/
import Derived.Test.YtlfoomimcbobbaaProg
import Derived.ProofKit
import Derived.Test.YtlfoomimcbobbaaRows
import Derived.Test.YtlfoomimcbobbaaOrderBatchesE
set_option linter.unusedSimpArgs false
set_option linter.unusedVariables false
set_option linter.unusedSectionVars false
set_option maxRecDepth 100000
namespace Go.Rx
open Go.Proofs
theorem rolodexlaw17_OrderBatches_p5 {N : Nat} {a0 : List T_api_Op} {r1 : Bool} {r4 : Bool} (c2 : rolodexlaw17_awake N = some r1) (c3 : r1 = true) (c5 : rolodexlaw17_Few N a0 = some r4) (c6 : r4 = false) (l : Nat) : Vd Try.prog l (.fn (.func 6) [] []) [v0 a0] [] (vb true) [] :=
  Try_vf6 (hn := rolodexlaw17_OrderBatches_hn) (lvl := 0) (O := { an := [(1000, .call (.ret (vb r1)) []), (2001, .call (.ret (vb r4)) [])], nv := [(1000, vb true), (2001, vb false)] }) (ps := [Vd Try.prog 0 (.fn (.func 9) [] []) [] [] (vb r1) [], EB r1 true, Vd Try.prog 0 (.fn (.func 10) [] []) [v0 a0] [] (vb r4) [], EB r4 false]) (by kernel_rfl) (Ac (rolodexlaw17_awake_valid c2 _) (Ac (nv_b c3) (Ac (rolodexlaw17_Few_valid c5 _) (Ac (nv_b c6) An)))) l
theorem rolodexlaw17_OrderBatches_p6 {N : Nat} {a0 : List T_api_Op} {r1 : Bool} {r4 : Bool} (c2 : rolodexlaw17_awake N = some r1) (c3 : r1 = false) (c5 : rolodexlaw17_Few N a0 = some r4) (c6 : r4 = true) (l : Nat) : Vd Try.prog l (.fn (.func 6) [] []) [v0 a0] [] (vb false) [] :=
  Try_vf6 (hn := rolodexlaw17_OrderBatches_hn) (lvl := 0) (O := { an := [(1000, .call (.ret (vb r1)) []), (2001, .call (.ret (vb r4)) [])], nv := [(1000, vb false), (2001, vb true)] }) (ps := [Vd Try.prog 0 (.fn (.func 9) [] []) [] [] (vb r1) [], EB r1 false, Vd Try.prog 0 (.fn (.func 10) [] []) [v0 a0] [] (vb r4) [], EB r4 true]) (by kernel_rfl) (Ac (rolodexlaw17_awake_valid c2 _) (Ac (nv_b c3) (Ac (rolodexlaw17_Few_valid c5 _) (Ac (nv_b c6) An)))) l
theorem rolodexlaw17_OrderBatches_p7 {N : Nat} {a0 : List T_api_Op} {r1 : Bool} {r4 : Bool} (c2 : rolodexlaw17_awake N = some r1) (c3 : r1 = false) (c5 : rolodexlaw17_Few N a0 = some r4) (c6 : r4 = false) (l : Nat) : Vd Try.prog l (.fn (.func 6) [] []) [v0 a0] [] (vb false) [] :=
  Try_vf6 (hn := rolodexlaw17_OrderBatches_hn) (lvl := 0) (O := { an := [(1000, .call (.ret (vb r1)) []), (2001, .call (.ret (vb r4)) [])], nv := [(1000, vb false), (2001, vb false)] }) (ps := [Vd Try.prog 0 (.fn (.func 9) [] []) [] [] (vb r1) [], EB r1 false, Vd Try.prog 0 (.fn (.func 10) [] []) [v0 a0] [] (vb r4) [], EB r4 false]) (by kernel_rfl) (Ac (rolodexlaw17_awake_valid c2 _) (Ac (nv_b c3) (Ac (rolodexlaw17_Few_valid c5 _) (Ac (nv_b c6) An)))) l
theorem rolodexlaw17_OrderBatches_valid {N : Nat} {a0 : List T_api_Op} {z : Bool} (h : rolodexlaw17_OrderBatches N a0 = some z) (l : Nat) : Vd Try.prog l (.fn (.func 6) [] []) [v0 a0] [] (vb z) [] := by
  unfold rolodexlaw17_OrderBatches at h
  obtain ⟨r1, c2, h⟩ := bind_some h
  rcases cond_some h with ⟨c3, h⟩ | ⟨c3, h⟩
  · obtain ⟨r4, c5, h⟩ := bind_some h
    rcases cond_some h with ⟨c6, h⟩ | ⟨c6, h⟩
    · obtain ⟨r7, c8, h⟩ := bind_some h
      obtain ⟨z9, c11, h⟩ := bind_some h
      rcases z9 with z10 | z10 | z10 <;> dsimp only at h
      · obtain rfl := Option.some.inj h
        exact rolodexlaw17_OrderBatches_p0 c2 c3 c5 c6 c8 c11 l
      · obtain ⟨r12, c13, h⟩ := bind_some h
        rcases cond_some h with ⟨c14, h⟩ | ⟨c14, h⟩
        · obtain ⟨c15, h⟩ := chk_some h
          obtain ⟨c16, h⟩ := chk_some h
          obtain rfl := Option.some.inj h
          exact rolodexlaw17_OrderBatches_p1 c2 c3 c5 c6 c8 c11 c13 c14 c15 c16 l
        · obtain rfl := Option.some.inj h
          exact rolodexlaw17_OrderBatches_p2 c2 c3 c5 c6 c8 c11 c13 c14 l
      · obtain ⟨r12, c13, h⟩ := bind_some h
        rcases cond_some h with ⟨c14, h⟩ | ⟨c14, h⟩
        · obtain ⟨c15, h⟩ := chk_some h
          obtain ⟨c16, h⟩ := chk_some h
          obtain rfl := Option.some.inj h
          exact rolodexlaw17_OrderBatches_p3 c2 c3 c5 c6 c8 c11 c13 c14 c15 c16 l
        · obtain rfl := Option.some.inj h
          exact rolodexlaw17_OrderBatches_p4 c2 c3 c5 c6 c8 c11 c13 c14 l
    · obtain rfl := Option.some.inj h
      exact rolodexlaw17_OrderBatches_p5 c2 c3 c5 c6 l
  · obtain ⟨r4, c5, h⟩ := bind_some h
    rcases cond_some h with ⟨c6, h⟩ | ⟨c6, h⟩
    · obtain rfl := Option.some.inj h
      exact rolodexlaw17_OrderBatches_p6 c2 c3 c5 c6 l
    · obtain rfl := Option.some.inj h
      exact rolodexlaw17_OrderBatches_p7 c2 c3 c5 c6 l
end Go.Rx
namespace Go.Rx
theorem getI_nat {α : Type} (l : List α) (k : Nat) : getI l (k : Int) = l[k]? := by simp [getI]
theorem getI_lt {α : Type} {l : List α} {k : Nat} (h : k < l.length) : getI l (k : Int) = some l[k] := by rw [getI_nat, List.getElem?_eq_getElem h]
theorem int_succ (k : Nat) : (k : Int) + 1 = ((k + 1 : Nat) : Int) := by omega
theorem dec_lt {a b : Nat} (h : a < b) : decide ((a : Int) < (b : Int)) = true := decide_eq_true (by omega)
theorem dec_nlt {a b : Nat} (h : ¬ a < b) : decide ((a : Int) < (b : Int)) = false := decide_eq_false (by omega)
theorem in64_nat {n : Nat} (h : n ≤ 1000000) : in64 ((n : Int) + 1) := by unfold in64; omega
theorem in64_max {k n : Nat} (hk : k < n) (h : n ≤ maxLen) : in64 ((k : Int) + 1) := by
  have h2 : maxLen ≤ 9223372036854775807 := by decide +kernel
  unfold in64; omega
theorem app_drop {α : Type} {l o : List α} {k : Nat} (h : k < l.length) : (o ++ [l[k]]) ++ l.drop (k + 1) = o ++ l.drop k := by
  rw [List.drop_eq_getElem_cons h]; simp
def chunks {α : Type} (c : Nat) : Nat → List α → List (List α)
  | 0, _ => []
  | f + 1, l => match l with
    | [] => []
    | _ => l.take c :: chunks c f (l.drop c)
theorem chunks_nil {α : Type} (c f : Nat) : chunks c f ([] : List α) = [] := by cases f <;> rfl
theorem chunks_cons {α : Type} {c f : Nat} {l : List α} (h : l ≠ []) : chunks c (f + 1) l = l.take c :: chunks c f (l.drop c) := by
  cases l with
  | nil => exact (h rfl).elim
  | cons x l => rfl
theorem chunks_flat {α : Type} {c : Nat} (hc : 0 < c) : ∀ (f : Nat) (l : List α), l.length ≤ c * f → (chunks c f l).flatten = l
  | 0, l, h => by
    have : l = [] := by cases l <;> simp_all
    subst this; rfl
  | f + 1, l, h => by
    by_cases hl : l = []
    · subst hl; rfl
    · rw [chunks_cons hl, List.flatten_cons, chunks_flat hc f (l.drop c) (by rw [List.length_drop, Nat.mul_add] at *; omega), List.take_append_drop]
theorem chunks_len {α : Type} {c : Nat} (hc : 0 < c) : ∀ (f : Nat) (l : List α), l.length ≤ c * f → (chunks c f l).length = (l.length + (c - 1)) / c
  | 0, l, h => by
    have : l = [] := by cases l <;> simp_all
    subst this
    simp only [chunks, List.length_nil]
    rw [Nat.div_eq_of_lt (by omega)]
  | f + 1, l, h => by
    by_cases hl : l = []
    · subst hl
      simp only [chunks, List.length_nil]
      rw [Nat.div_eq_of_lt (by omega)]
    · rw [chunks_cons hl, List.length_cons, chunks_len hc f (l.drop c) (by rw [List.length_drop, Nat.mul_add] at *; omega), List.length_drop]
      have hp : 0 < l.length := by cases l <;> simp_all
      by_cases hcl : c ≤ l.length
      · rw [← Nat.add_div_right _ hc]; congr 1; omega
      · have h0 : l.length - c = 0 := by omega
        rw [h0, Nat.zero_add, Nat.div_eq_of_lt (by omega)]
        rw [Nat.div_eq_of_lt_le (k := 1)] <;> omega
theorem chunks_get {α : Type} {c : Nat} (hc : 0 < c) : ∀ (f : Nat) (l : List α) (i : Nat) (x : List α), (chunks c f l)[i]? = some x → x ≠ [] ∧ x.length ≤ c ∧ (i + 1 < (chunks c f l).length → x.length = c)
  | 0, l, i, x, h => by simp [chunks] at h
  | f + 1, l, i, x, h => by
    by_cases hl : l = []
    · subst hl; simp [chunks] at h
    · rw [chunks_cons hl] at h ⊢
      have hp : 0 < l.length := by cases l <;> simp_all
      cases i with
      | zero =>
        simp at h; subst h
        refine ⟨fun h0 => ?_, by rw [List.length_take]; omega, fun h1 => ?_⟩
        · have := congrArg List.length h0; rw [List.length_take, List.length_nil] at this; omega
        · simp only [List.length_cons] at h1
          have : l.drop c ≠ [] := by
            intro h0; rw [h0, chunks_nil] at h1; simp at h1
          have hd : 0 < (l.drop c).length := by cases hh : l.drop c <;> simp_all
          rw [List.length_drop] at hd
          rw [List.length_take]; omega
      | succ i =>
        simp at h
        obtain ⟨h1, h2, h3⟩ := chunks_get hc f (l.drop c) i x h
        exact ⟨h1, h2, fun h4 => h3 (by simpa using h4)⟩
theorem take_min_len {α : Type} {n : Nat} {l : List α} : l.take (min n l.length) = l.take n := by
  by_cases h : n ≤ l.length
  · rw [Nat.min_eq_left h]
  · rw [Nat.min_eq_right (by omega), List.take_of_length_le (Nat.le_refl _), List.take_of_length_le (by omega)]
theorem take_drop_seg {α : Type} (l : List α) (s m : Nat) : (l.take (s + m)).drop s = (l.drop s).take m := by
  rw [List.drop_take]; congr 1; omega
end Go.Rx
set_option maxRecDepth 100000
namespace Go.Rx
open Go.Proofs
def Small (o : T_api_Op) : Prop := o.P.length ≤ 80 ∧ o.V.length ≤ 300
def Smalls (l : List T_api_Op) : Prop := ∀ o ∈ l, o.P.length ≤ 80
theorem own_ok {o : T_api_Op} (h : o.P.length ≤ 80) : order_own o = some () := by
  unfold order_own slices_Clone_PieceW
  cases hp : o.P with
  | nil => rfl
  | cons x xs =>
    rw [hp] at h
    have hc : capOK (x :: xs).length 40 := by unfold capOK; omega
    show Option.bind (slices_Clone_Piece (x :: xs)) _ = _
    unfold slices_Clone_Piece
    rw [chk_pos (by simp), chk_pos hc]
    rfl
theorem cap_ok {n b : Nat} (h : n ≤ 100000) (hb : b ≤ 1000) : capOK n b := by
  have := Nat.mul_le_mul h hb
  unfold capOK; omega
def few (l : List T_api_Op) : Bool := decide (l.length ≤ 130) && l.all fun o => decide (o.P.length ≤ 80) && decide (o.V.length ≤ 300)
theorem few_l {l : List T_api_Op} (hl : l.length ≤ 130) : ∀ (N k : Nat), l.length < N + k → k ≤ l.length →
    ∃ z, rolodexlaw17_Few_l4 l N (k : Int) = some z ∧ (match z with | .inl _ => (l.drop k).all (fun o => decide (o.P.length ≤ 80) && decide (o.V.length ≤ 300)) = false | .inr _ => (l.drop k).all (fun o => decide (o.P.length ≤ 80) && decide (o.V.length ≤ 300)) = true) := by
  intro N
  induction N with
  | zero => intro k hN hk; omega
  | succ N ih =>
    intro k hN hk0
    rw [rolodexlaw17_Few_l4.eq_2]
    unfold rolodexlaw17_Few_l4_f
    by_cases hk : k < l.length
    · rw [dec_lt hk, getI_lt hk]
      rw [cond_true, Option.bind_some]
      rw [List.drop_eq_getElem_cons hk]
      simp only [List.all_cons]
      by_cases h1 : 80 < l[k].P.length
      · refine ⟨.inl (), by rw [decide_eq_true (by omega)]; rfl, ?_⟩
        rw [decide_eq_false (by omega)]; rfl
      · have e1 : decide ((80 : Int) < ((l[k].P.length : Nat) : Int)) = false := decide_eq_false (by omega)
        rw [e1, cond_false, Option.bind_some]
        by_cases h2 : 300 < l[k].V.length
        · refine ⟨.inl (), by rw [decide_eq_true (by omega)]; rfl, ?_⟩
          rw [decide_eq_false (p := l[k].V.length ≤ 300) (by omega), Bool.and_false]; rfl
        · have e2 : decide ((300 : Int) < ((l[k].V.length : Nat) : Int)) = false := decide_eq_false (by omega)
          rw [e2]
          rw [cond_false]
          rw [chk_pos (in64_nat (by omega)), int_succ]
          obtain ⟨z, hz, h⟩ := ih (k + 1) (by omega) (by omega)
          refine ⟨z, hz, ?_⟩
          have e3 : (decide (l[k].P.length ≤ 80) && decide (l[k].V.length ≤ 300)) = true := by rw [decide_eq_true (by omega), decide_eq_true (by omega)]; rfl
          rw [e3, Bool.true_and]
          exact h
    · rw [dec_nlt hk]
      exact ⟨.inr k, rfl, by rw [List.drop_eq_nil_of_le (by omega)]; rfl⟩
theorem Few_ok {l : List T_api_Op} {N : Nat} (hN : 131 < N) : rolodexlaw17_Few N l = some (few l) := by
  unfold rolodexlaw17_Few few
  by_cases hl : l.length ≤ 130
  · have e : decide ((130 : Int) < ((l.length : Nat) : Int)) = false := decide_eq_false (by omega)
    rw [e]
    obtain ⟨z, hz, h⟩ := few_l hl N 0 (by omega) (by omega)
    have hz : rolodexlaw17_Few_l4 l N 0 = some z := hz
    rw [hz]
    rw [cond_false, Option.bind_some, decide_eq_true hl, Bool.true_and]
    rw [List.drop_zero] at h
    cases z <;> simp only at h ⊢ <;> rw [h]
  · have e : decide ((130 : Int) < ((l.length : Nat) : Int)) = true := decide_eq_true (by omega)
    rw [e]
    rw [cond_true]
    have : decide (l.length ≤ 130) = false := by simp; omega
    rw [this]; rfl
theorem few_smalls {l : List T_api_Op} (h : few l = true) : l.length ≤ 130 ∧ Smalls l := by
  unfold few at h
  simp only [Bool.and_eq_true, decide_eq_true_eq, List.all_eq_true] at h
  exact ⟨h.1, fun o ho => (h.2 o ho).1⟩
theorem r2_l {a0 a1 : List T_api_Op} {a2 : Int} {a3 : List (List T_api_Op)} (hP : Smalls a0) (hl : a0.length ≤ 1000) : ∀ (N k : Nat) (o : List T_api_Op), a0.length < N + k → k ≤ a0.length → o.length ≤ k →
    ∃ s, round_order_Split_3_2_l6_s1 a0 a1 a2 a3 N (k : Int) o = some (.inr (s, o ++ a0.drop k)) := by
  intro N
  induction N with
  | zero => intro k o hN hk ho; omega
  | succ N ih =>
    intro k o hN hk0 ho
    rw [round_order_Split_3_2_l6_s1.eq_2]
    unfold round_order_Split_3_2_l6_s1_f
    by_cases hk : k < a0.length
    · rw [dec_lt hk, getI_lt hk]
      rw [cond_true, Option.bind_some]
      rw [own_ok (hP _ (List.getElem_mem hk))]
      rw [Option.bind_some]
      rw [chk_pos (cap_ok (by rw [List.length_append, List.length_singleton]; omega) (by omega)), chk_pos (in64_nat (by omega)), int_succ, ← app_drop hk]
      exact ih (k + 1) _ (by omega) (by omega) (by rw [List.length_append, List.length_singleton]; omega)
    · rw [dec_nlt hk]
      exact ⟨k, by rw [List.drop_eq_nil_of_le (by omega), List.append_nil]; rfl⟩
theorem r1_l {a0 a1 : List T_api_Op} {a2 : Int} (hP : Smalls a0) (hl : a0.length ≤ 1000) : ∀ (N k : Nat) (o : List T_api_Op), a0.length < N + k → k ≤ a0.length → o.length ≤ k →
    ∃ s, round_order_Split_3_l6_s1 a0 a1 a2 N (k : Int) o = some (.inr (s, o ++ a0.drop k)) := by
  intro N
  induction N with
  | zero => intro k o hN hk ho; omega
  | succ N ih =>
    intro k o hN hk0 ho
    rw [round_order_Split_3_l6_s1.eq_2]
    unfold round_order_Split_3_l6_s1_f
    by_cases hk : k < a0.length
    · rw [dec_lt hk, getI_lt hk]
      rw [cond_true, Option.bind_some]
      rw [own_ok (hP _ (List.getElem_mem hk))]
      rw [Option.bind_some]
      rw [chk_pos (cap_ok (by rw [List.length_append, List.length_singleton]; omega) (by omega)), chk_pos (in64_nat (by omega)), int_succ, ← app_drop hk]
      exact ih (k + 1) _ (by omega) (by omega) (by rw [List.length_append, List.length_singleton]; omega)
    · rw [dec_nlt hk]
      exact ⟨k, by rw [List.drop_eq_nil_of_le (by omega), List.append_nil]; rfl⟩
theorem r2_ok {a0 a1 : List T_api_Op} {a2 : Int} {a3 : List (List T_api_Op)} {N : Nat} (hP : Smalls a0) (hl : a0.length ≤ 1000) (h3 : a3.length ≤ 1000) (hN : a0.length + 1 < N) : round_order_Split_3_2 N a0 a1 a2 a3 = some (a3 ++ [a0]) := by
  unfold round_order_Split_3_2
  obtain ⟨M, rfl⟩ : ∃ M, N = M + 1 := ⟨N - 1, by omega⟩
  have e : round_order_Split_3_2_l6 a0 a1 a2 a3 (M + 1) = round_order_Split_3_2_l6_f a0 a1 a2 a3 M (round_order_Split_3_2_l6 a0 a1 a2 a3 M) := rfl
  rw [e]
  unfold round_order_Split_3_2_l6_f
  cases a0 with
  | nil =>
    simp only [List.length_nil, Int.ofNat_zero, Int.lt_irrefl, decide_false, cond_false, Option.bind_some]
    exact chk_pos (cap_ok (by rw [List.length_append]; exact Nat.succ_le_succ (by omega)) (by omega))
  | cons x xs =>
    have e2 : decide ((0 : Int) < (((x :: xs).length : Nat) : Int)) = true := decide_eq_true (by simp only [List.length_cons]; omega)
    rw [e2, show getI (x :: xs) 0 = some x from rfl]
    rw [cond_true, Option.bind_some]
    rw [own_ok (hP _ (by simp))]
    rw [Option.bind_some]
    obtain ⟨s, hs⟩ := r2_l (a0 := x :: xs) (a1 := a1) (a2 := a2) (a3 := a3) hP hl M 1 [x] (by simp at hN ⊢; omega) (by simp) (by simp)
    have hs : round_order_Split_3_2_l6_s1 (x :: xs) a1 a2 a3 M 1 [x] = some (.inr (s, [x] ++ xs)) := hs
    rw [hs]
    rw [Option.bind_some]
    exact chk_pos (cap_ok (by rw [List.length_append, List.length_singleton]; omega) (by omega))
theorem r1_ok {a0 a1 : List T_api_Op} {a2 : Int} {N : Nat} (hP : Smalls a0) (hl : a0.length ≤ 1000) (hN : a0.length + 1 < N) : round_order_Split_3 N a0 a1 a2 = some [a0] := by
  unfold round_order_Split_3
  obtain ⟨M, rfl⟩ : ∃ M, N = M + 1 := ⟨N - 1, by omega⟩
  have e : round_order_Split_3_l6 a0 a1 a2 (M + 1) = round_order_Split_3_l6_f a0 a1 a2 M (round_order_Split_3_l6 a0 a1 a2 M) := rfl
  rw [e]
  unfold round_order_Split_3_l6_f
  cases a0 with
  | nil => rfl
  | cons x xs =>
    have e2 : decide ((0 : Int) < (((x :: xs).length : Nat) : Int)) = true := decide_eq_true (by simp only [List.length_cons]; omega)
    rw [e2, show getI (x :: xs) 0 = some x from rfl]
    rw [cond_true, Option.bind_some]
    rw [own_ok (hP _ (by simp))]
    rw [Option.bind_some]
    obtain ⟨s, hs⟩ := r1_l (a0 := x :: xs) (a1 := a1) (a2 := a2) hP hl M 1 [x] (by simp at hN ⊢; omega) (by simp) (by simp)
    have hs : round_order_Split_3_l6_s1 (x :: xs) a1 a2 M 1 [x] = some (.inr (s, [x] ++ xs)) := hs
    rw [hs]
    rfl
theorem smalls_sub {l m : List T_api_Op} (h : Smalls l) (hs : ∀ o ∈ m, o ∈ l) : Smalls m := fun o ho => h o (hs o ho)
theorem min_20 {a : List T_api_Op} {k : Nat} : (if ((((a.drop k).length : Nat) : Int) < 20) then (((a.drop k).length : Nat) : Int) else 20) = ((min 20 (a.drop k).length : Nat) : Int) := by
  split <;> omega
theorem ck_l {a0 : List T_api_Op} (hP : Smalls a0) (hl : a0.length ≤ 1000) : ∀ (N f k : Nat) (o : List (List T_api_Op)), (a0.drop k).length ≤ 20 * f → f + 22 < N → o.length + f ≤ 1000 → k ≤ a0.length + 20 →
    ∃ s, slices_Chunk_api_Op_api_Op_1_l1_s1 a0 20 N (k : Int) o = some (.inr (s, o ++ chunks 20 f (a0.drop k))) := by
  intro N
  induction N with
  | zero => intro f k o _ hN; omega
  | succ N ih =>
    intro f k o hf hN ho hk2
    rw [slices_Chunk_api_Op_api_Op_1_l1_s1.eq_2]
    unfold slices_Chunk_api_Op_api_Op_1_l1_s1_f
    by_cases hk : k < a0.length
    · rw [dec_lt hk]
      rw [cond_true]
      simp only [Int.toNat_natCast, min_20]
      have hd : (a0.drop k).length = a0.length - k := List.length_drop
      rw [hd]
      rw [hd] at hf
      have hm : min 20 (a0.length - k) ≤ a0.length - k := Nat.min_le_right ..
      have h64 : in64 ((k : Int) + ((min 20 (a0.length - k) : Nat) : Int)) := by unfold in64; omega
      rw [chk_pos (by omega), chk_pos h64, chk_pos h64, chk_pos (by omega), chk_pos (by omega)]
      have e1 : ((k : Int) + ((min 20 (a0.length - k) : Nat) : Int)).toNat = k + min 20 (a0.length - k) := by omega
      rw [e1, take_drop_seg]
      have e2 : (a0.drop k).take (min 20 (a0.length - k)) = (a0.drop k).take 20 := by
        rw [← hd, take_min_len]
      rw [e2, r2_ok (smalls_sub hP (fun o ho => List.mem_of_mem_drop (List.mem_of_mem_take ho))) (by rw [List.length_take]; omega) (by omega) (by rw [List.length_take]; omega)]
      rw [Option.bind_some]
      rw [chk_pos (by unfold in64; omega), show (k : Int) + 20 = ((k + 20 : Nat) : Int) by omega]
      obtain ⟨g, rfl⟩ : ∃ g, f = g + 1 := ⟨f - 1, by omega⟩
      obtain ⟨s, hs⟩ := ih g (k + 20) (o ++ [(a0.drop k).take 20]) (by rw [List.length_drop]; omega) (by omega) (by simp; omega) (by omega)
      refine ⟨s, ?_⟩
      rw [hs, chunks_cons (by intro h0; have := congrArg List.length h0; rw [hd] at this; simp at this; omega), List.drop_drop]
      simp
    · rw [dec_nlt hk]
      rw [cond_false]
      exact ⟨k, by rw [show a0.drop k = [] from List.drop_eq_nil_of_le (by omega), chunks_nil, List.append_nil]⟩
theorem Split_ok {a0 : List T_api_Op} {N : Nat} (hP : Smalls a0) (hl : a0.length ≤ 1000) (hN : 80 < N) : order_Split N a0 = some (chunks 20 50 a0) := by
  unfold order_Split
  have e0 : slices_Chunk_Op a0 20 = some () := rfl
  rw [e0]
  rw [Option.bind_some]
  unfold slices_Chunk_api_Op_api_Op_1
  obtain ⟨M, rfl⟩ : ∃ M, N = M + 1 := ⟨N - 1, by omega⟩
  have e : slices_Chunk_api_Op_api_Op_1_l1 a0 20 (M + 1) = slices_Chunk_api_Op_api_Op_1_l1_f a0 20 M (slices_Chunk_api_Op_api_Op_1_l1 a0 20 M) := rfl
  rw [e]
  unfold slices_Chunk_api_Op_api_Op_1_l1_f
  by_cases h0 : a0 = []
  · subst h0; rfl
  · have hp : 0 < a0.length := by cases a0 <;> simp_all
    have e2 : decide ((0 : Int) < ((a0.length : Nat) : Int)) = true := decide_eq_true (by omega)
    rw [e2]
    rw [cond_true]
    simp only [min_20]
    rw [List.drop_zero]
    have h64 : in64 ((0 : Int) + ((min 20 a0.length : Nat) : Int)) := by unfold in64; omega
    rw [chk_pos (by omega), chk_pos h64, chk_pos h64, chk_pos (by omega), chk_pos (by omega)]
    have e1 : ((0 : Int) + ((min 20 a0.length : Nat) : Int)).toNat = min 20 a0.length := by omega
    have e3 : a0.take (min 20 a0.length) = a0.take 20 := by rw [take_min_len]
    rw [e1, List.drop_zero, e3, r1_ok (smalls_sub hP (fun o ho => List.mem_of_mem_take ho)) (by rw [List.length_take]; omega) (by rw [List.length_take]; omega)]
    rw [Option.bind_some]
    rw [chk_pos (by unfold in64; omega)]
    obtain ⟨s, hs⟩ := ck_l hP hl M 49 20 [a0.take 20] (by rw [List.length_drop]; omega) (by omega) (by simp) (by omega)
    have hs : slices_Chunk_api_Op_api_Op_1_l1_s1 a0 20 M (0 + 20) [a0.take 20] = some (.inr (s, [a0.take 20] ++ chunks 20 49 (a0.drop 20))) := hs
    rw [hs, chunks_cons h0]
    rfl
end Go.Rx
namespace Go.Rx
def okFields (ok : TypeId → Bool) (sz : TypeId → Nat) : List Field → Nat → Nat → Bool
  | [], k, n => k == n
  | f :: r, k, n => f.offset == k && ok f.type && okFields ok sz r (k + sz f.type) n
def okP (P : Program) : Nat → TypeId → Bool
  | 0, _ => false
  | n + 1, t => match P.underlying t with
    | some .bool => true
    | some (.int _) => true
    | some .string => true
    | some (.slice e) => (P.info? e).isSome && Nat.blt 0 (szOf P e) && okP P n e && (match isU8 P e with | true => szOf P e == 1 | false => true)
    | some (.array m e) => szOf P e == 1 && szOf P t == m && okP P n e && (match P.underlying e with | some (.int .u8) => true | some (.int .u32) => true | _ => false)
    | some (.struct fs) => okFields (okP P n) (szOf P) fs.toList 0 (szOf P t)
    | _ => false
def Pair {α β : Type} (R : α → β → Prop) : List α → List β → Prop
  | [], [] => True
  | a :: as1, b :: bs => R a b ∧ Pair R as1 bs
  | _, _ => False
def TyP (P : Program) : Nat → TypeId → PV → Prop
  | 0, _, _ => False
  | n + 1, t, x => match P.underlying t with
    | some .bool => ∃ b, x = .b b
    | some (.int k) => ∃ i, x = .i k i ∧ (Lit.int k i).wf = true
    | some .string => ∃ s, x = .s s ∧ s.length ≤ maxLen
    | some (.slice e) => match isU8 P e with
      | true => ∃ bs, x = .bl bs ∧ bs.length ≤ maxLen
      | false => ∃ xs, x = .l (szOf P e) xs ∧ xs.length ≤ maxLen ∧ ∀ y ∈ xs, TyP P n e y
    | some (.array m e) => match P.underlying e with
      | some (.int .u8) => ∃ v : Vector UInt8 m, x = .ba m v
      | some (.int .u32) => ∃ v : Vector UInt32 m, x = .wa m v
      | _ => False
    | some (.struct fs) => ∃ xs, x = .ag xs ∧ Pair (fun f y => TyP P n f.type y) fs.toList xs
    | _ => False
section g
variable {P : Program} {G : Gh} {w : World} {H : Type} {enc : TypeId × Value → H}
theorem mapM_pair {α β : Type} {f : α → Option β} : ∀ {l : List α} {ys : List β}, l.mapM f = some ys → Pair (fun x y => f x = some y) l ys
  | [], ys, h => by simp at h; subst h; trivial
  | x :: l, ys, h => by
    rw [List.mapM_cons] at h
    cases hx : f x with
    | none => simp [hx] at h
    | some y =>
      cases hl : l.mapM f with
      | none => simp [hx, hl] at h
      | some zs =>
        simp [hx, hl] at h
        subst h
        exact ⟨hx, mapM_pair hl⟩
theorem addr_plain {a : Addr} {w : World} {v : Value} (h : w.cell? (a.add 0) = some v) : a = ⟨a.block, a.off, none⟩ := by
  obtain ⟨b, o, s⟩ := a
  simp only [Addr.add, if_true, World.cell?] at h
  split at h
  · cases s with
    | none => rfl
    | some s => simp at h
  · simp at h
theorem add_plain (b o n : Nat) : (⟨b, o, none⟩ : Addr).add n = ⟨b, o + n, none⟩ := by
  unfold Addr.add
  split
  · rename_i h; subst h; rfl
  · rfl
theorem rep_elems {sz b off : Nat} {T : PV → Prop} : ∀ (n k : Nat), (∀ i, k ≤ i → i < k + n → ∃ y c, RepP G w y c ∧ c.length = sz ∧ T y ∧ ∀ r, r < sz → w.cell? ⟨b, off + i * sz + r, none⟩ = c[r]?) →
    ∃ xs vs, xs.length = n ∧ RepPs G w xs vs ∧ vs.length = n * sz ∧ (∀ y ∈ xs, T y ∧ y.size = sz) ∧ ∀ j, j < n * sz → w.cell? ⟨b, off + k * sz + j, none⟩ = vs[j]?
  | 0, k, _ => ⟨[], [], rfl, rfl, by simp, by simp, fun j hj => by omega⟩
  | n + 1, k, h => by
    obtain ⟨y, c, h1, h2, h3, h4⟩ := h k (Nat.le_refl _) (by omega)
    obtain ⟨xs, vs, g1, g2, g3, g4, g5⟩ := rep_elems n (k + 1) (fun i hi hj => h i (by omega) (by omega))
    refine ⟨y :: xs, c ++ vs, by simp [g1], ⟨c, vs, rfl, h1, g2⟩, by simp [h2, g3, Nat.add_mul]; omega, fun z hz => ?_, fun j hj => ?_⟩
    · rcases List.mem_cons.1 hz with rfl | hz
      · exact ⟨h3, by rw [← h2]; exact (RepP.len _ _ h1).symm⟩
      · exact g4 z hz
    · by_cases hc : j < sz
      · rw [List.getElem?_append_left (by omega)]; exact h4 j hc
      · rw [List.getElem?_append_right (by omega), h2]
        have := g5 (j - sz) (by rw [Nat.add_mul] at hj; omega)
        rw [← this]
        congr 2
        rw [Nat.add_mul]; omega
theorem pair_len {α β : Type} {R : α → β → Prop} : ∀ {as1 : List α} {bs : List β}, Pair R as1 bs → as1.length = bs.length
  | [], [], _ => rfl
  | [], _ :: _, h => h.elim
  | _ :: _, [], h => h.elim
  | _ :: as1, _ :: bs, h => by simp [pair_len h.2]
theorem pair_get {α β : Type} {R : α → β → Prop} : ∀ {as1 : List α} {bs : List β}, Pair R as1 bs → ∀ (i : Nat) (a : α), as1[i]? = some a → ∃ b, bs[i]? = some b ∧ R a b
  | [], [], _, i, a, h => by simp at h
  | [], _ :: _, h, _, _, _ => h.elim
  | _ :: _, [], h, _, _, _ => h.elim
  | x :: as1, y :: bs, h, i, a, hi => by
    cases i with
    | zero => simp at hi; subst hi; exact ⟨y, rfl, h.1⟩
    | succ i => simp at hi; simpa using pair_get h.2 i a hi
theorem isU8_of {e : TypeId} (h : isU8 P e = true) : P.underlying e = some (.int .u8) := isU8_und h
theorem byte_of {i : Int} (h : (Lit.int .u8 i).wf = true) : ∃ c : UInt8, i = c.toNat := by
  simp [Lit.wf, IntKind.min, IntKind.max, IntKind.signed, IntKind.bits] at h
  exact ⟨UInt8.ofNat i.toNat, by simp [UInt8.toNat_ofNat']; omega⟩
theorem word_of {i : Int} (h : (Lit.int .u32 i).wf = true) : ∃ c : UInt32, i = c.toNat := by
  simp [Lit.wf, IntKind.min, IntKind.max, IntKind.signed, IntKind.bits] at h
  exact ⟨UInt32.ofNat i.toNat, by simp [UInt32.toNat_ofNat']; omega⟩
theorem bytes_of : ∀ (xs : List PV) (vs : List Value), RepPs G w xs vs → (∀ y ∈ xs, ∃ i, y = .i .u8 i ∧ (Lit.int .u8 i).wf = true) → ∃ bs : List UInt8, vs = bs.map cu8 ∧ bs.length = xs.length
  | [], vs, h, _ => ⟨[], h, rfl⟩
  | x :: xs, vs, h, ht => by
    obtain ⟨c, d, rfl, h1, h2⟩ := h
    obtain ⟨i, rfl, hi⟩ := ht x (by simp)
    obtain ⟨b, rfl⟩ := byte_of hi
    obtain ⟨bs, rfl, hl⟩ := bytes_of xs d h2 (fun y hy => ht y (by simp [hy]))
    simp only [RepP] at h1
    exact ⟨b :: bs, by rw [h1]; rfl, by simp [hl]⟩
theorem words_of : ∀ (xs : List PV) (vs : List Value), RepPs G w xs vs → (∀ y ∈ xs, ∃ i, y = .i .u32 i ∧ (Lit.int .u32 i).wf = true) → ∃ bs : List UInt32, vs = bs.map cu32 ∧ bs.length = xs.length
  | [], vs, h, _ => ⟨[], h, rfl⟩
  | x :: xs, vs, h, ht => by
    obtain ⟨c, d, rfl, h1, h2⟩ := h
    obtain ⟨i, rfl, hi⟩ := ht x (by simp)
    obtain ⟨b, rfl⟩ := word_of hi
    obtain ⟨bs, rfl, hl⟩ := words_of xs d h2 (fun y hy => ht y (by simp [hy]))
    simp only [RepP] at h1
    exact ⟨b :: bs, by rw [h1]; rfl, by simp [hl]⟩
theorem cells_rep {T : PV → Prop} : ∀ (cs : List Value), (∀ i, i < cs.length → ∃ y, RepP G w y ((cs.drop i).take 1) ∧ T y) → ∃ xs, xs.length = cs.length ∧ RepPs G w xs cs ∧ ∀ y ∈ xs, T y
  | [], _ => ⟨[], rfl, rfl, by simp⟩
  | c :: cs, h => by
    obtain ⟨y, h1, h2⟩ := h 0 (by simp)
    obtain ⟨xs, g1, g2, g3⟩ := cells_rep cs (fun i hi => by simpa using h (i + 1) (by simpa using hi))
    exact ⟨y :: xs, by simp [g1], ⟨[c], cs, rfl, by simpa using h1, g2⟩, fun z hz => by
      rcases List.mem_cons.1 hz with rfl | hz
      · exact h2
      · exact g3 z hz⟩
theorem fields_rep {n : Nat} {f : Field → Option (DataW H × List MemPlace)} {cs : List Value} : ∀ (fs : List Field) (k : Nat) (ys : List (DataW H × List MemPlace)), okFields (okP P n) (szOf P) fs k cs.length = true → fs.mapM f = some ys →
    (∀ g y, g ∈ fs → f g = some y → okP P n g.type = true → ∃ x, RepP G w x ((cs.drop g.offset).take (szOf P g.type)) ∧ TyP P n g.type x) → ∃ xs, RepPs G w xs (cs.drop k) ∧ Pair (fun g y => TyP P n g.type y) fs xs
  | [], k, ys, hok, hm, _ => by
    simp only [okFields, beq_iff_eq] at hok
    subst hok
    exact ⟨[], by simp [RepPs], trivial⟩
  | g :: fs, k, ys, hok, hm, h => by
    simp only [okFields, Bool.and_eq_true, beq_iff_eq] at hok
    obtain ⟨⟨hk, ho⟩, hr⟩ := hok
    have hp := mapM_pair hm
    cases ys with
    | nil => exact hp.elim
    | cons y ys =>
      rw [List.mapM_cons] at hm
      cases hg : f g with
      | none => simp [hg] at hm
      | some y' =>
        cases hl : fs.mapM f with
        | none => simp [hg, hl] at hm
        | some ys' =>
          obtain ⟨x, h1, h2⟩ := h g y' (by simp) hg ho
          obtain ⟨xs, h3, h4⟩ := fields_rep fs (k + szOf P g.type) ys' hr hl (fun g' y hg' => h g' y (by simp [hg']))
          refine ⟨x :: xs, ⟨_, _, ?_, h1, h3⟩, h2, h4⟩
          rw [hk, ← List.drop_drop, List.take_append_drop]
theorem trod_rep (hG : ∀ b i, b < w.heap.size → G b i) : ∀ (fuel : Nat) (t : TypeId) (cs : List Value) (d : DataW H) (ps : List MemPlace), DataW.trod enc P w 0 (fun _ => true) true fuel t cs = some (d, ps) →
    ∀ n, okP P n t = true → ∃ x, RepP G w x cs ∧ TyP P n t x := by
  intro fuel
  induction fuel with
  | zero => intro t cs d ps h; simp [DataW.trod] at h
  | succ fuel ih =>
    intro t cs d ps h n hn
    cases n with
    | zero => simp [okP] at hn
    | succ n =>
      unfold DataW.trod at h
      unfold okP at hn
      unfold TyP
      cases hu : P.underlying t with
      | none => rw [hu] at hn; simp at hn
      | some u =>
        rw [hu] at h hn
        cases u <;> simp only at hn <;> try (simp at hn; done)
        case bool =>
          rcases cs with _ | ⟨v, _ | ⟨v2, cs⟩⟩
          · simp at h
          · cases v <;> try (simp at h; done)
            rename_i b
            exact ⟨.b b, by simp only [RepP], _, rfl⟩
          · simp at h
        case int k =>
          rcases cs with _ | ⟨v, _ | ⟨v2, cs⟩⟩
          · simp at h
          · cases v <;> try (simp at h; done)
            rename_i k' m
            simp only at h
            split at h
            case isFalse => simp at h
            rename_i hc
            obtain ⟨hc, hw⟩ := hc
            subst hc
            exact ⟨.i k' m, by simp only [RepP], _, rfl, hw⟩
          · simp at h
        case string =>
          rcases cs with _ | ⟨v, _ | ⟨v2, cs⟩⟩
          · simp at h
          · cases v <;> try (simp at h; done)
            rename_i s
            simp only at h
            split at h
            case isFalse => simp at h
            rename_i hc
            exact ⟨.s s.data.toList, by simp only [RepP], _, rfl, by rw [Array.length_toList]; exact hc⟩
          · simp at h
        case slice e =>
          simp only [Bool.and_eq_true] at hn
          obtain ⟨⟨⟨hi, hsz⟩, hoe⟩, hu8⟩ := hn
          have hsz := Nat.le_of_ble_eq_true hsz
          simp only
          have key : ∃ a len cap xs, cs = [.slice a len cap] ∧ len ≤ cap ∧ len ≤ maxLen ∧ xs.length = len ∧ (∀ y ∈ xs, TyP P n e y ∧ y.size = szOf P e) ∧ (xs = [] ∨ ∃ b off vs, a = some ⟨b, off, none⟩ ∧ RepPs G w xs vs ∧ cellsAt w b off vs ∧ inG G b off vs.length) := by
            split at h <;> try (simp_all; done)
            · rename_i heq
              exact ⟨none, 0, 0, [], rfl, Nat.le_refl _, Nat.zero_le _, rfl, by simp, .inl rfl⟩
            · rename_i e' a len cap heq
              simp only [Option.some.injEq, TypeDesc.slice.injEq] at heq
              subst heq
              simp only at h
              split at h
              case isFalse => simp at h
              rename_i hc
              obtain ⟨elems, hel, _⟩ := Option.bind_eq_some_iff.1 h
              have hp := mapM_pair hel
              refine ⟨some a, len, cap, ?_⟩
              cases len with
              | zero => exact ⟨[], rfl, hc.2.1, Nat.zero_le _, rfl, by simp, .inl rfl⟩
              | succ len =>
                have hget : ∀ i, i < len + 1 → ∃ y c, w.cells? 0 (a.add (i * P.cellsOf e)) (P.cellsOf e) = some c ∧ RepP G w y c ∧ TyP P n e y := by
                  intro i hi
                  obtain ⟨y, _, hy⟩ := pair_get hp i i (by simp [hi])
                  obtain ⟨c, hc1, hc2⟩ := Option.bind_eq_some_iff.1 hy
                  obtain ⟨x, hx1, hx2⟩ := ih e c y.1 y.2 hc2 n hoe
                  exact ⟨x, c, hc1, hx1, hx2⟩
                have hplain : a = ⟨a.block, a.off, none⟩ := by
                  obtain ⟨y, c, h1, _⟩ := hget 0 (by omega)
                  have := (World.cells?_some h1).2
                  have h0 := this.2 0 hsz
                  rw [Nat.zero_mul] at h0
                  have hz : (a.add 0) = a := by simp [Addr.add]
                  rw [hz] at h0
                  cases hcc : c[0]? with
                  | none => rw [List.getElem?_eq_none_iff] at hcc; have := this.1; have hsz' : 0 < P.cellsOf e := hsz; omega
                  | some v => rw [hcc] at h0; exact addr_plain h0
                have hblk : a.block < w.heap.size := by
                  obtain ⟨y, c, h1, _⟩ := hget 0 (by omega)
                  have := World.cells?_block h1 hsz
                  simpa [Addr.add] using this
                rw [hplain] at hget
                obtain ⟨xs, vs, g1, g2, g3, g4, g5⟩ := rep_elems (G := G) (w := w) (sz := szOf P e) (b := a.block) (off := a.off) (T := TyP P n e) (len + 1) 0 (fun i _ hi => by
                  obtain ⟨y, c, h1, h2, h3⟩ := hget i (by omega)
                  obtain ⟨_, h4, h5⟩ := World.cells?_some h1
                  refine ⟨y, c, h2, h4, h3, fun r hr => ?_⟩
                  have := h5 r hr
                  rw [add_plain, add_plain] at this
                  exact this)
                refine ⟨xs, rfl, hc.2.1, by have := hc.2.2; have := hc.2.1; omega, g1, g4, .inr ⟨a.block, a.off, vs, by rw [hplain], g2, fun j hj => ?_, fun j _ => hG _ _ hblk⟩⟩
                have := g5 j (by rw [← g3]; exact hj)
                simpa using this
          obtain ⟨a, len, cap, xs, rfl, hlc, hlm, rfl, hT, hx⟩ := key
          cases h8 : isU8 P e with
          | true =>
            simp only
            have hue := isU8_of h8
            have hTy : ∀ y ∈ xs, ∃ i, y = .i .u8 i ∧ (Lit.int .u8 i).wf = true := fun y hy => by
              have := (hT y hy).1
              cases n with
              | zero => simp [okP] at hoe
              | succ n => unfold TyP at this; rw [hue] at this; exact this
            rcases hx with rfl | ⟨b, off, vs, rfl, hr, hc, hg⟩
            · exact ⟨.bl [], ⟨a, cap, rfl, hlc, .inl rfl⟩, [], rfl, Nat.zero_le _⟩
            · obtain ⟨bs, rfl, hl⟩ := bytes_of xs vs hr hTy
              exact ⟨.bl bs, ⟨_, cap, by rw [hl], by omega, .inr ⟨b, off, rfl, hc, by simpa using hg⟩⟩, bs, rfl, by omega⟩
          | false =>
            simp only
            exact ⟨.l (szOf P e) xs, ⟨a, cap, rfl, hlc, fun y hy => (hT y hy).2, hx⟩, xs, rfl, hlm, fun y hy => (hT y hy).1⟩
        case array m e =>
          simp only [Bool.and_eq_true, beq_iff_eq] at hn
          obtain ⟨⟨⟨hse, hst⟩, hoe⟩, hk⟩ := hn
          have h : (if cs.length = P.cellsOf t then ((List.range m).mapM fun i => DataW.trod enc P w 0 (fun _ => true) true fuel e ((cs.drop (i * P.cellsOf e)).take (P.cellsOf e))).map fun xs => (DataW.agg (xs.map (·.1)), xs.flatMap (·.2)) else none) = some (d, ps) := by
            rw [← h]
          split at h
          case isFalse => simp at h
          rename_i hlen
          obtain ⟨ys, hys, _⟩ := Option.map_eq_some_iff.1 h
          have hp := mapM_pair hys
          have hse' : P.cellsOf e = 1 := hse
          have hst' : P.cellsOf t = m := hst
          have hm : cs.length = m := by rw [hlen, hst']
          obtain ⟨xs, g1, g2, g3⟩ := cells_rep (G := G) (w := w) (T := TyP P n e) cs (fun i hi => by
            obtain ⟨y, _, hy⟩ := pair_get hp i i (by rw [List.getElem?_range (by omega)])
            rw [hse', Nat.mul_one] at hy
            exact ih e _ y.1 y.2 hy n hoe)
          cases n with
          | zero => simp [okP] at hoe
          | succ n =>
            split at hk
            · rename_i hue
              simp only [hue]
              obtain ⟨bs, rfl, hl⟩ := bytes_of xs cs g2 (fun y hy => by have := g3 y hy; unfold TyP at this; rw [hue] at this; exact this)
              have hbm : bs.length = m := by rw [hl, g1, hm]
              exact ⟨.ba m ⟨bs.toArray, by simp [hbm]⟩, by simp [RepP, Vector.toList], _, rfl⟩
            · rename_i hue
              simp only [hue]
              obtain ⟨bs, rfl, hl⟩ := words_of xs cs g2 (fun y hy => by have := g3 y hy; unfold TyP at this; rw [hue] at this; exact this)
              have hbm : bs.length = m := by rw [hl, g1, hm]
              exact ⟨.wa m ⟨bs.toArray, by simp [hbm]⟩, by simp [RepP, Vector.toList], _, rfl⟩
            · simp at hk
        case struct fs =>
          simp only at h ⊢
          split at h
          case isFalse => simp at h
          rename_i hlen
          obtain ⟨ys, hys, _⟩ := Option.map_eq_some_iff.1 h
          have hl : szOf P t = cs.length := hlen.symm
          rw [hl] at hn
          obtain ⟨xs, h1, h2⟩ := fields_rep (G := G) (w := w) fs.toList 0 ys hn hys (fun g y _ hg ho => ih g.type _ y.1 y.2 hg n ho)
          exact ⟨.ag xs, by simpa [RepP] using h1, xs, rfl, h2⟩
end g
end Go.Rx
namespace Go.Rx
open Go.ChangeShapes Go.WideShapes Go.ChangeAt Go.RowKit
section g
variable {P : Program} {G : Gh} {w : World} {H : Type} {enc : TypeId × Value → H} {ob : Ob} {γ : Hm}
theorem arg_rep {n base : Nat} {t : TypeId} {v : Value} {d : DataW H} {ps : List MemPlace} (hG : ∀ b i, b < w.heap.size → G b i) (hn : okP P n t = true) (ho : Value.okWide P w .any base t v)
    (h : DataW.Trod enc P w 0 (fun _ => true) true t v d ps) : ∃ x, (RepC ob γ G w (.pv x) v.cells.toList ∧ ofCells (AV.isAgg (.pv x)) v.cells.toList v) ∧ TyP P n t x := by
  obtain ⟨fuel, h⟩ := h
  obtain ⟨x, h1, h2⟩ := trod_rep hG fuel t _ d ps h n hn
  refine ⟨x, ⟨by simpa [RepC] using h1, ?_⟩, h2⟩
  cases n with
  | zero => simp [okP] at hn
  | succ n =>
    unfold okP at hn
    unfold TyP at h2
    unfold Value.okWide at ho
    cases hu : P.underlying t with
    | none => rw [hu] at hn; simp at hn
    | some u =>
      rw [hu] at hn h2 ho
      have hc : ∀ cs, Cell.okWide P w .any base t (.agg cs) → (match u with | .interface _ | .map .. | .func .. | .chan .. | .unsafePointer => True | _ => False) → False := by
        intro cs _ hm
        cases u <;> simp_all
      have hagg : ∀ cs, v = .agg cs → Cell.okWide P w .any base t v → (u = .bool ∨ (∃ k, u = .int k) ∨ u = .string ∨ ∃ e, u = .slice e) → False := by
        intro cs hv ho hk
        subst hv
        rcases hk with rfl | ⟨k, rfl⟩ | rfl | ⟨e, rfl⟩ <;> simp [Cell.okWide, hu, Cell.ok] at ho
      have hone : Cell.okWide P w .any base t v → (u = .bool ∨ (∃ k, u = .int k) ∨ u = .string ∨ ∃ e, u = .slice e) → v.cells.toList = [v] := by
        intro ho hk
        cases v with
        | agg cs => exact (hagg cs rfl ho hk).elim
        | _ => rfl
      cases u <;> simp only at hn h2 ho <;> try (simp at hn; done)
      case bool => obtain ⟨b, rfl⟩ := h2; exact hone ho (.inl rfl)
      case int k => obtain ⟨b, rfl, _⟩ := h2; exact hone ho (.inr (.inl ⟨_, rfl⟩))
      case string => obtain ⟨b, rfl, _⟩ := h2; exact hone ho (.inr (.inr (.inl rfl)))
      case slice e =>
        have := hone ho (.inr (.inr (.inr ⟨_, rfl⟩)))
        split at h2 <;> obtain ⟨b, rfl, _⟩ := h2 <;> exact this
      case array m e =>
        obtain ⟨cs, rfl, _⟩ := ho
        split at h2
        · obtain ⟨b, rfl⟩ := h2; rfl
        · obtain ⟨b, rfl⟩ := h2; rfl
        · exact h2.elim
      case struct fs =>
        obtain ⟨cs, rfl, _⟩ := ho
        obtain ⟨b, rfl, _⟩ := h2
        rfl
theorem args_rep {n base : Nat} (hG : ∀ b i, b < w.heap.size → G b i) : ∀ (ts : List TypeId) (vs : List Value) (ds : List (DataW H)) (ps : List MemPlace), ts.all (okP P n) = true →
    (∀ (j : Nat) t v, ts[j]? = some t → vs[j]? = some v → Value.okWide P w .any base t v) → DataW.TrodAll enc P w 0 (fun _ => true) true ts vs ds ps →
    ∃ xs, RepL ob γ G w (xs.map .pv) vs ∧ Pair (TyP P n) ts xs
  | [], vs, ds, ps, _, _, h => by
    obtain ⟨rfl, rfl, rfl⟩ := trodAll_nil h
    exact ⟨[], by simp [RepL], trivial⟩
  | t :: ts, vs, ds, ps, hok, ho, h => by
    obtain ⟨v, vs, d, ds, p, q, rfl, rfl, rfl, h1, h2⟩ := trodAll_cons h
    simp only [List.all_cons, Bool.and_eq_true] at hok
    obtain ⟨x, ⟨g1, g2⟩, g3⟩ := arg_rep (ob := ob) (γ := γ) hG hok.1 (ho 0 t v rfl rfl) h1
    obtain ⟨xs, g4, g5⟩ := args_rep hG ts vs ds q hok.2 (fun j t v ht hv => ho (j + 1) t v (by simpa using ht) (by simpa using hv)) h2
    exact ⟨x :: xs, by simp only [List.map_cons, RepL]; exact ⟨_, v, vs, rfl, g1, g2, g4⟩, g3, g5⟩
theorem args_stay {w' : World} (hl : laidOutB P = true) (hb : ∀ b, b < w.heap.size → w'.heap[b]? = w.heap[b]?) : ∀ (ts : List TypeId) (vs : List Value) (ds : List (DataW H)) (ps : List MemPlace),
    (∀ t ∈ ts, P.readableRec t = true ∧ t < P.types.size) → (∀ p ∈ ps, p.block < w.heap.size) → DataW.TrodAll enc P w 0 (fun _ => true) true ts vs ds ps →
    DataW.TrodAll enc P w' 0 (fun b => decide (b < w.heap.size)) true ts vs ds ps
  | [], vs, ds, ps, _, _, h => by
    obtain ⟨rfl, rfl, rfl⟩ := trodAll_nil h
    rfl
  | t :: ts, vs, ds, ps, hr, hlt, h => by
    obtain ⟨v, vs, d, ds, p, q, rfl, rfl, rfl, h1, h2⟩ := trodAll_cons h
    refine ⟨p, q, WideElems.Trod_stays hl (hr t (by simp)).1 (hr t (by simp)).2 h1 (fun x hx => ?_) (fun x hx => by simpa using hlt x (by simp [hx])),
      args_stay hl hb ts vs ds q (fun t ht => hr t (by simp [ht])) (fun x hx => hlt x (by simp [hx])) h2, rfl⟩
    have := hlt x (by simp [hx])
    cases x with
    | cell b o => exact World.cell?_of_block (w := w) (hb b this)
    | map b => exact hb b this
theorem contract_of {K n : Nat} {f : Func} {s : ChangeSpec} {tb : TypeId} {fresh handsOn : Bool} {bd : Code} (hf : P.funcs[K]? = some f) (hb : f.body = some bd) (hname : (f.name == "runtime.NumGoroutine") = false)
    (hl : laidOutB P = true) (hpar : (f.params.toList.all fun t => okP P n t && P.readableRec t && decide (t < P.types.size)) = true) (hvars : s.vars = []) (hres : f.resultTypes = #[tb]) (htb : P.underlying tb = some .bool)
    (hs : ∀ ds : List (DataW H), ds.length = f.params.size → s.fn H ds = { results := [.lit (.bool true)], args := ds, vars := [] })
    (hrun : ∀ xs, Pair (TyP P n) f.params.toList xs → Valid P 0 (.fn (.func K) [] []) (xs.map .pv) [] (.ret (.pv (.b true))) [])
    (W : World) (base : Nat) (args : Array Value) (ds gs : List (DataW H)) (before : List MemPlace)
    (hval : ∀ (j : Nat) t v, f.params[j]? = some t → args[j]? = some v → Value.okWide P W .any base t v)
    (hW : DataW.Whole enc P f.params.toList s.vars false W args.toList ds gs before) :
    Calls P K args W fun e W' => ∃ v, e = .returned v ∧ s.post enc P f false fresh handsOn false W args v W' := by
  have hW' := hW
  obtain ⟨p, q, hA, hV, rfl, hfz, hnd⟩ := hW
  rw [hvars] at hV
  obtain ⟨rfl, rfl⟩ := trodVars_none hV
  simp only [List.append_nil] at hW' hfz
  let G : Gh := fun b _ => b < W.heap.size
  let γ : Hm := fun _ => (0, 0)
  have hpar' : f.params.toList.all (okP P n) = true := List.all_eq_true.2 fun t ht => by
    have := List.all_eq_true.1 hpar t ht
    simp only [Bool.and_eq_true] at this
    exact this.1.1
  have hread : ∀ t ∈ f.params.toList, P.readableRec t = true ∧ t < P.types.size := fun t ht => by
    have := List.all_eq_true.1 hpar t ht
    simp only [Bool.and_eq_true, decide_eq_true_eq] at this
    exact ⟨this.1.2, this.2⟩
  obtain ⟨xs, hx, hty⟩ := args_rep (ob := []) (γ := γ) (G := G) (fun b i hb => hb) f.params.toList args.toList ds p hpar'
    (fun j t v ht hv => hval j t v (by simpa using ht) (by simpa using hv)) hA
  have HK : HeapOK [] γ G W := ⟨fun l o h => by simp [get] at h, fun l l' o o' h => by simp [get] at h, fun b o h => h, fun l o h => by simp [get] at h⟩
  obtain ⟨r, hr, hcall⟩ := hrun xs hty γ G W (.func (.func K) #[] #[]) args.toList HK ⟨_, ⟨[], [], rfl, rfl, rfl⟩, rfl⟩ hx
  cases hr
  unfold CallsV at hcall
  have hinv : (do let d ← Deferred.ofValue (.func (.func K) #[] #[]) args.toList.toArray; invoke d.target d.args : Sem Next).run P W = .ok (.enter K args.toList.toArray) W := by
    simp only [Deferred.ofValue, Sem.run_bind, Sem.run_pure, Result.andThen_ok, invoke, callFunc, run_program, hf, hname, hb, Option.isNone_some, Bool.false_eq_true, if_false]
    simp
  rw [hinv] at hcall
  refine hcall.mono fun e W' ⟨v, he, γ', G', g1, g2, g3⟩ => ?_
  subst he
  refine ⟨v, rfl, ?_⟩
  obtain ⟨c, h1, h2⟩ := g3
  simp only [RepC, RepP] at h1
  subst h1
  simp only [AV.isAgg, ofCells, List.cons.injEq, and_true] at h2
  subst h2
  have hlt := hW'.lt
  have hframe : ∀ b, b < W.heap.size → W'.heap[b]? = W.heap[b]? := fun b hb => g2.frame b hb (fun l o h => by simp [get] at h)
  have hlen : ds.length = f.params.size := by
    have : ∀ (ts : List TypeId) (vs : List Value) (ds : List (DataW H)) (ps : List MemPlace), DataW.TrodAll enc P W 0 (fun _ => true) true ts vs ds ps → ds.length = ts.length := by
      intro ts
      induction ts with
      | nil => intro vs ds ps h; obtain ⟨rfl, rfl, rfl⟩ := trodAll_nil h; rfl
      | cons t ts ih => intro vs ds ps h; obtain ⟨v, vs, d, ds, p, q, rfl, rfl, rfl, h1, h2⟩ := trodAll_cons h; simp [ih _ _ _ h2]
    rw [this _ _ _ _ hA]; simp
  have hsp := hs ds hlen
  refine ⟨ds, [], p, [], p, [], hW', ?_, ?_, ?_, ?_, fun h => by simp at h⟩
  · simp only [List.append_nil]
    rw [hsp, hres]
    exact trodAll_mk1 (shut_bool htb _)
  · simp only [List.append_nil]
    rw [hsp]
    exact args_stay hl hframe _ _ _ _ hread hlt hA
  · simp only [List.append_nil]
    rw [hsp, hvars]
    rfl
  · refine ⟨g2.io.1, g2.io.2, fun i hi => ?_⟩
    rw [hframe i hi]
    cases W.heap[i]? with
    | none => rfl
    | some o => cases o <;> simp
end g
end Go.Rx
namespace Go.Rx
section g
variable {P : Program} {n : Nat} {t : TypeId} {x : PV}
theorem ty_bool (hu : P.underlying t = some .bool) (h : TyP P n t x) : ∃ b, x = .b b ∧ True := by
  cases n with
  | zero => exact h.elim
  | succ n => unfold TyP at h; rw [hu] at h; obtain ⟨b, h⟩ := h; exact ⟨b, h, trivial⟩
theorem ty_int {k : IntKind} (hu : P.underlying t = some (.int k)) (h : TyP P n t x) : ∃ i, x = .i k i ∧ (Lit.int k i).wf = true := by
  cases n with
  | zero => exact h.elim
  | succ n => unfold TyP at h; rw [hu] at h; exact h
theorem wf_i64 {i : Int} (h : (Lit.int .i64 i).wf = true) : in64 i := by
  simp [Lit.wf, IntKind.min, IntKind.max, IntKind.signed, IntKind.bits] at h
  exact ⟨by omega, by omega⟩
theorem ty_i64 (hu : P.underlying t = some (.int .i64)) (h : TyP P n t x) : ∃ i, x = .i .i64 i ∧ in64 i := by
  obtain ⟨i, h1, h2⟩ := ty_int hu h
  exact ⟨i, h1, wf_i64 h2⟩
theorem ty_str (hu : P.underlying t = some .string) (h : TyP P n t x) : ∃ s, x = .s s ∧ s.length ≤ maxLen := by
  cases n with
  | zero => exact h.elim
  | succ n => unfold TyP at h; rw [hu] at h; exact h
theorem ty_bytes {e : TypeId} (hu : P.underlying t = some (.slice e)) (h8 : isU8 P e = true) (h : TyP P n t x) : ∃ bs, x = .bl bs ∧ bs.length ≤ maxLen := by
  cases n with
  | zero => exact h.elim
  | succ n => unfold TyP at h; rw [hu] at h; simp only [h8] at h; exact h
theorem ty_arr8 {m : Nat} {e : TypeId} (hu : P.underlying t = some (.array m e)) (he : P.underlying e = some (.int .u8)) (h : TyP P n t x) : ∃ v : Vector UInt8 m, x = .ba m v ∧ True := by
  cases n with
  | zero => exact h.elim
  | succ n => unfold TyP at h; rw [hu] at h; simp only [he] at h; obtain ⟨v, h⟩ := h; exact ⟨v, h, trivial⟩
theorem ty_arr32 {m : Nat} {e : TypeId} (hu : P.underlying t = some (.array m e)) (he : P.underlying e = some (.int .u32)) (h : TyP P n t x) : ∃ v : Vector UInt32 m, x = .wa m v ∧ True := by
  cases n with
  | zero => exact h.elim
  | succ n => unfold TyP at h; rw [hu] at h; simp only [he] at h; obtain ⟨v, h⟩ := h; exact ⟨v, h, trivial⟩
theorem ty_elems {α : Type} {f : α → PV} {ok : α → Prop} {R : PV → Prop} (he : ∀ y, R y → ∃ a, y = f a ∧ ok a) : ∀ (xs : List PV), (∀ y ∈ xs, R y) → ∃ l : List α, xs = l.map f ∧ ∀ a ∈ l, ok a
  | [], _ => ⟨[], rfl, by simp⟩
  | y :: ys, h => by
    obtain ⟨a, rfl, ha⟩ := he y (h y (by simp))
    obtain ⟨l, rfl, hl⟩ := ty_elems he ys (fun z hz => h z (by simp [hz]))
    exact ⟨a :: l, rfl, fun b hb => by
      rcases List.mem_cons.1 hb with rfl | hb
      · exact ha
      · exact hl b hb⟩
theorem ty_list {e : TypeId} {sz : Nat} {α : Type} {f : α → PV} {ok : α → Prop} (hu : P.underlying t = some (.slice e)) (h8 : isU8 P e = false) (hsz : szOf P e = sz) (he : ∀ n y, TyP P n e y → ∃ a, y = f a ∧ ok a) (h : TyP P n t x) :
    ∃ l : List α, x = encL sz f l ∧ l.length ≤ maxLen ∧ ∀ a ∈ l, ok a := by
  cases n with
  | zero => exact h.elim
  | succ n =>
    unfold TyP at h
    rw [hu] at h
    simp only [h8] at h
    obtain ⟨xs, rfl, h1, h2⟩ := h
    obtain ⟨l, rfl, h3⟩ := ty_elems (fun y hy => he n y hy) xs h2
    exact ⟨l, by rw [hsz]; rfl, by simpa using h1, h3⟩
theorem ty_struct {fs : Array Field} (hu : P.underlying t = some (.struct fs)) (h : TyP P n t x) : ∃ xs, x = .ag xs ∧ ∃ m, Pair (fun f y => TyP P m f.type y) fs.toList xs := by
  cases n with
  | zero => exact h.elim
  | succ n =>
    unfold TyP at h
    rw [hu] at h
    obtain ⟨xs, h1, h2⟩ := h
    exact ⟨xs, h1, n, h2⟩
theorem pair_cons {α β : Type} {R : α → β → Prop} {a : α} {as1 : List α} {ys : List β} (h : Pair R (a :: as1) ys) : ∃ y zs, ys = y :: zs ∧ R a y ∧ Pair R as1 zs := by
  cases ys with
  | nil => exact h.elim
  | cons y zs => exact ⟨y, zs, rfl, h.1, h.2⟩
theorem pair_nil {α β : Type} {R : α → β → Prop} {ys : List β} (h : Pair R [] ys) : ys = [] := by
  cases ys with
  | nil => rfl
  | cons y zs => exact h.elim
end g
end Go.Rx
set_option maxRecDepth 100000
namespace Go.Rx
open Go.Proofs
theorem ty_Try_3 (n : Nat) (x : PV) (h : TyP Try.prog n 3 x) : ∃ a : Int, x = (PV.i .i64) a ∧ in64 (a) := ty_i64 Try.underlying3 h
theorem ty_Try_24 (n : Nat) (x : PV) (h : TyP Try.prog n 24 x) : ∃ a : Vector UInt8 16, x = (PV.ba 16) a ∧ True := ty_arr8 Try.underlying24 (by kernel_rfl) h
structure T_api_Stamp.ok (x : T_api_Stamp) : Prop where
  N : in64 (x.N)
  Rep : in64 (x.Rep)
theorem ty_Try_26 (n : Nat) (x : PV) (h : TyP Try.prog n 26 x) : ∃ a : T_api_Stamp, x = T_api_Stamp.enc a ∧ T_api_Stamp.ok a := by
  obtain ⟨xs, rfl, m, hp0⟩ := ty_struct Try.underlying26 h
  obtain ⟨y0, zs0, rfl, h0, hp1⟩ := pair_cons hp0
  obtain ⟨a0, rfl, k0⟩ := ty_Try_3 _ _ h0
  obtain ⟨y1, zs1, rfl, h1, hp2⟩ := pair_cons hp1
  obtain ⟨a1, rfl, k1⟩ := ty_Try_3 _ _ h1
  obtain rfl := pair_nil hp2
  exact ⟨⟨a0, a1⟩, rfl, ⟨k0, k1⟩⟩
theorem ty_Try_9 (n : Nat) (x : PV) (h : TyP Try.prog n 9 x) : ∃ a : List UInt8, x = PV.s a ∧ (a).length ≤ maxLen := ty_str Try.underlying9 h
theorem ty_Try_4 (n : Nat) (x : PV) (h : TyP Try.prog n 4 x) : ∃ a : Bool, x = PV.b a ∧ True := ty_bool Try.underlying4 h
structure T_api_Piece.ok (x : T_api_Piece) : Prop where
  Copy : True
  From : in64 (x.From)
  Len : in64 (x.Len)
  Lit : (x.Lit).length ≤ maxLen
theorem ty_Try_64 (n : Nat) (x : PV) (h : TyP Try.prog n 64 x) : ∃ a : T_api_Piece, x = T_api_Piece.enc a ∧ T_api_Piece.ok a := by
  obtain ⟨xs, rfl, m, hp0⟩ := ty_struct Try.underlying64 h
  obtain ⟨y0, zs0, rfl, h0, hp1⟩ := pair_cons hp0
  obtain ⟨a0, rfl, k0⟩ := ty_Try_4 _ _ h0
  obtain ⟨y1, zs1, rfl, h1, hp2⟩ := pair_cons hp1
  obtain ⟨a1, rfl, k1⟩ := ty_Try_3 _ _ h1
  obtain ⟨y2, zs2, rfl, h2, hp3⟩ := pair_cons hp2
  obtain ⟨a2, rfl, k2⟩ := ty_Try_3 _ _ h2
  obtain ⟨y3, zs3, rfl, h3, hp4⟩ := pair_cons hp3
  obtain ⟨a3, rfl, k3⟩ := ty_Try_9 _ _ h3
  obtain rfl := pair_nil hp4
  exact ⟨⟨a0, a1, a2, a3⟩, rfl, ⟨k0, k1, k2, k3⟩⟩
theorem ty_Try_27 (n : Nat) (x : PV) (h : TyP Try.prog n 27 x) : ∃ a : List T_api_Piece, x = (encL 4 T_api_Piece.enc) a ∧ ((a).length ≤ maxLen ∧ ∀ ae ∈ a, T_api_Piece.ok ae) := ty_list Try.underlying27 (by kernel_rfl) (by kernel_rfl) ty_Try_64 h
theorem ty_Try_29 (n : Nat) (x : PV) (h : TyP Try.prog n 29 x) : ∃ a : Vector UInt8 32, x = (PV.ba 32) a ∧ True := ty_arr8 Try.underlying29 (by kernel_rfl) h
structure T_api_Op.ok (x : T_api_Op) : Prop where
  Kind : in64 (x.Kind)
  ID : True
  S : T_api_Stamp.ok x.S
  No : in64 (x.No)
  V : (x.V).length ≤ maxLen
  P : ((x.P).length ≤ maxLen ∧ ∀ e_Pe ∈ x.P, T_api_Piece.ok e_Pe)
  From : True
  FromNo : in64 (x.FromNo)
  D : True
theorem ty_Try_31 (n : Nat) (x : PV) (h : TyP Try.prog n 31 x) : ∃ a : T_api_Op, x = T_api_Op.enc a ∧ T_api_Op.ok a := by
  obtain ⟨xs, rfl, m, hp0⟩ := ty_struct Try.underlying31 h
  obtain ⟨y0, zs0, rfl, h0, hp1⟩ := pair_cons hp0
  obtain ⟨a0, rfl, k0⟩ := ty_Try_3 _ _ h0
  obtain ⟨y1, zs1, rfl, h1, hp2⟩ := pair_cons hp1
  obtain ⟨a1, rfl, k1⟩ := ty_Try_24 _ _ h1
  obtain ⟨y2, zs2, rfl, h2, hp3⟩ := pair_cons hp2
  obtain ⟨a2, rfl, k2⟩ := ty_Try_26 _ _ h2
  obtain ⟨y3, zs3, rfl, h3, hp4⟩ := pair_cons hp3
  obtain ⟨a3, rfl, k3⟩ := ty_Try_3 _ _ h3
  obtain ⟨y4, zs4, rfl, h4, hp5⟩ := pair_cons hp4
  obtain ⟨a4, rfl, k4⟩ := ty_Try_9 _ _ h4
  obtain ⟨y5, zs5, rfl, h5, hp6⟩ := pair_cons hp5
  obtain ⟨a5, rfl, k5⟩ := ty_Try_27 _ _ h5
  obtain ⟨y6, zs6, rfl, h6, hp7⟩ := pair_cons hp6
  obtain ⟨a6, rfl, k6⟩ := ty_Try_24 _ _ h6
  obtain ⟨y7, zs7, rfl, h7, hp8⟩ := pair_cons hp7
  obtain ⟨a7, rfl, k7⟩ := ty_Try_3 _ _ h7
  obtain ⟨y8, zs8, rfl, h8, hp9⟩ := pair_cons hp8
  obtain ⟨a8, rfl, k8⟩ := ty_Try_29 _ _ h8
  obtain rfl := pair_nil hp9
  exact ⟨⟨a0, a1, a2, a3, a4, a5, a6, a7, a8⟩, rfl, ⟨k0, k1, k2, k3, k4, k5, k6, k7, k8⟩⟩
theorem ty_Try_22 (n : Nat) (x : PV) (h : TyP Try.prog n 22 x) : ∃ a : List T_api_Op, x = (encL 71 T_api_Op.enc) a ∧ ((a).length ≤ maxLen ∧ ∀ ae ∈ a, T_api_Op.ok ae) := ty_list Try.underlying22 (by kernel_rfl) (by kernel_rfl) ty_Try_31 h
theorem OrderBatches_run (law : ∀ (b0 : List T_api_Op), ((b0).length ≤ maxLen ∧ ∀ b0e ∈ b0, T_api_Op.ok b0e) → ∃ N, rolodexlaw17_OrderBatches N b0 = some true) (xs : List PV) (hp0 : Pair (TyP Try.prog 12) [22] xs) : Valid Try.prog 0 (.fn (.func 6) [] []) (xs.map .pv) [] (.ret (.pv (.b true))) [] := by
  obtain ⟨y0, zs0, rfl, h0, hp1⟩ := pair_cons hp0
  obtain ⟨a0, rfl, k0⟩ := ty_Try_22 _ _ h0
  obtain rfl := pair_nil hp1
  obtain ⟨N, hN⟩ := law a0 k0
  exact rolodexlaw17_OrderBatches_valid hN 0
end Go.Rx
namespace Go.Proofs.Ytlfoomimcbobbaa
open Go.Rx Go.ChangeShapes Go.WideShapes Go.ChangeAt Go.RowKit
theorem OrderBatches_own : ownKnob Try.prog.godebug = none := by kernel_rfl
theorem OrderBatches_laid : laidOutB Try.prog = true := by kernel_rfl
theorem OrderBatches_lifted (law : ∀ (b0 : List T_api_Op), ((b0).length ≤ maxLen ∧ ∀ b0e ∈ b0, T_api_Op.ok b0e) → ∃ N, rolodexlaw17_OrderBatches N b0 = some true) (os : Os) (started : os.Started) (H : Type) (enc : TypeId × Value → H) :
    ReturnsInHanded {} Try.checked os 6 .any (Rows.orderBatchesSpec.pre6 enc Try.prog Try.f6 Rows.orderBatchesRow.domain false) (Rows.orderBatchesSpec.post enc Try.prog Try.f6 false true false false) := by
  refine returnsInHanded_of_change (C := Try.checked) OrderBatches_own started (by kernel_rfl) Try.func6
    (ChangeSpec.witness6 (enc := enc) (C := Try.checked) false ⟨#[], #[.slice none 0 0], []⟩ 12 (by kernel_rfl) (by kernel_rfl) (by kernel_rfl) (by kernel_rfl)) ?_
  intro W base args ds gs before hval hW _ _
  exact contract_of (P := Try.prog) (K := 6) (n := 12) (tb := 4) (f := Try.f6) (s := Rows.orderBatchesSpec) Try.func6 Try_hb6 (by kernel_rfl) OrderBatches_laid (by kernel_rfl) rfl (by kernel_rfl) Try.underlying4
    (fun ds h => by
      match ds, h with
      | [d0], _ => rfl)
    (fun xs hp => OrderBatches_run law xs hp) W base args ds gs before hval hW
theorem OrderBatches_row (law : ∀ (b0 : List T_api_Op), ((b0).length ≤ maxLen ∧ ∀ b0e ∈ b0, T_api_Op.ok b0e) → ∃ N, rolodexlaw17_OrderBatches N b0 = some true) : Rows.OrderBatchesSaid :=
  OpenClaim.holds_of_wide 6 Try.f6 rfl rfl rfl rfl rfl rfl rfl ⟨rfl, rfl, rfl, rfl, rfl⟩ rfl rfl rfl rfl rfl (by kernel_rfl) Try.func6 (by kernel_rfl)
    (of_decide_eq_true (by kernel_rfl)) (by unfold Func.isWrapper; first | (rw [if_pos (by decide +kernel)]; kernel_rfl) | (rw [if_neg (by decide +kernel)]; exact ⟨rfl, rfl⟩))
    (fun os started H enc _ => OrderBatches_lifted law os started H enc)
end Go.Proofs.Ytlfoomimcbobbaa
set_option maxRecDepth 100000
namespace Go.Rx
open Go.Proofs
theorem awake_ok (N : Nat) : rolodexlaw17_awake (N + 60) = some true := by kernel_rfl
theorem awake_of {N : Nat} (h : 60 ≤ N) : rolodexlaw17_awake N = some true := by
  obtain ⟨M, rfl⟩ : ∃ M, N = M + 60 := ⟨N - 60, by omega⟩
  exact awake_ok M
theorem same11_l {p : List T_api_Piece} (hp : p.length ≤ maxLen) : ∀ (N k : Nat), p.length < N + k → k ≤ p.length → ∃ s, rolodexref11_Same_l4 p p N (k : Int) = some (.inr s) := by
  intro N
  induction N with
  | zero => intro k hN hk; omega
  | succ N ih =>
    intro k hN hk0
    rw [rolodexref11_Same_l4.eq_2]
    unfold rolodexref11_Same_l4_f
    by_cases hk : k < p.length
    · rw [dec_lt hk, getI_lt hk, cond_true, Option.bind_some, Option.bind_some]
      rw [decide_eq_true rfl, decide_eq_true rfl, decide_eq_true rfl, decide_eq_true rfl]
      rw [show (!(true && (true && (true && (true && true))))) = false from rfl, cond_false, chk_pos (in64_max hk hp), int_succ]
      exact ih (k + 1) (by omega) (by omega)
    · rw [dec_nlt hk, cond_false]
      exact ⟨k, rfl⟩
theorem same11_ok {p : List T_api_Piece} {N : Nat} (hp : p.length ≤ maxLen) (hN : p.length < N) : rolodexref11_Same N p p = some true := by
  unfold rolodexref11_Same
  rw [decide_eq_true rfl, show (!true) = false from rfl, cond_false]
  obtain ⟨s, hs⟩ := same11_l hp N 0 (by omega) (by omega)
  have hs : rolodexref11_Same_l4 p p N 0 = some (.inr s) := hs
  rw [hs, Option.bind_some]
theorem same15_ok {o : T_api_Op} {N : Nat} (hp : o.P.length ≤ maxLen) (hN : o.P.length < N) : rolodexref15_Same N o o = some true := by
  unfold rolodexref15_Same
  rw [same11_ok hp hN, Option.bind_some, cond_true]
  rw [decide_eq_true rfl, cond_true, decide_eq_true rfl, cond_true, decide_eq_true rfl, decide_eq_true rfl, show (true && (true && true)) = true from rfl, cond_true, decide_eq_true rfl, cond_true, decide_eq_true rfl, cond_true, decide_eq_true rfl, cond_true, decide_eq_true rfl, cond_true, decide_eq_true rfl]
theorem same16_l {l : List T_api_Op} {B : Nat} (hl : l.length ≤ maxLen) (hP : ∀ o ∈ l, o.P.length ≤ maxLen ∧ o.P.length ≤ B) : ∀ (N k : Nat), l.length + B + 1 < N + k → k ≤ l.length → ∃ s, rolodexref16_Same_l4 l l N (k : Int) = some (.inl s) := by
  intro N
  induction N with
  | zero => intro k hN hk; omega
  | succ N ih =>
    intro k hN hk0
    rw [rolodexref16_Same_l4.eq_2]
    unfold rolodexref16_Same_l4_f
    by_cases hk : k < l.length
    · have hh := hP _ (List.getElem_mem hk)
      rw [dec_lt hk, getI_lt hk, cond_true, Option.bind_some, Option.bind_some, same15_ok hh.1 (by omega), Option.bind_some, cond_true, chk_pos (in64_max hk hl), int_succ]
      exact ih (k + 1) (by omega) (by omega)
    · rw [dec_nlt hk, cond_false]
      exact ⟨k, rfl⟩
theorem same16_ok {l : List T_api_Op} {B N : Nat} (hl : l.length ≤ maxLen) (hP : ∀ o ∈ l, o.P.length ≤ maxLen ∧ o.P.length ≤ B) (hN : l.length + B + 1 < N) : rolodexref16_Same N l l = some true := by
  unfold rolodexref16_Same
  rw [decide_eq_true rfl, show (!true) = false from rfl, cond_false]
  obtain ⟨s, hs⟩ := same16_l hl hP N 0 (by omega) (by omega)
  have hs : rolodexref16_Same_l4 l l N 0 = some (.inl s) := hs
  rw [hs, Option.bind_some]
def Pieces (c : List (List T_api_Op)) : Prop := ∀ (i : Nat) (x : List T_api_Op), c[i]? = some x → x ≠ [] ∧ x.length ≤ 20 ∧ (i + 1 < c.length → x.length = 20)
theorem b_l {a0 : List T_api_Op} {c : List (List T_api_Op)} (hc : Pieces c) (hl : c.length ≤ 1000) : ∀ (N k : Nat) (o : List T_api_Op), c.length < N + k → k ≤ c.length → o.length ≤ 20 * k →
    ∃ s, rolodexlaw17_OrderBatches_l8_s1 a0 c N (k : Int) o = some (.inr (.inr (s, o ++ (c.drop k).flatten))) := by
  intro N
  induction N with
  | zero => intro k o hN hk ho; omega
  | succ N ih =>
    intro k o hN hk0 ho
    rw [rolodexlaw17_OrderBatches_l8_s1.eq_2]
    unfold rolodexlaw17_OrderBatches_l8_s1_f
    by_cases hk : k < c.length
    · obtain ⟨h1, h2, h3⟩ := hc k c[k] (List.getElem?_eq_getElem hk)
      have h0 : 0 < c[k].length := by cases hh : c[k] <;> simp_all
      have fin : ∃ s, rolodexlaw17_OrderBatches_l8_s1 a0 c N (((k + 1 : Nat)) : Int) (o ++ c[k]) = some (.inr (.inr (s, o ++ (c.drop k).flatten))) := by
        obtain ⟨s, hs⟩ := ih (k + 1) (o ++ c[k]) (by omega) (by omega) (by rw [List.length_append]; omega)
        refine ⟨s, ?_⟩
        rw [hs, List.drop_eq_getElem_cons hk, List.flatten_cons, List.append_assoc]
      have hz : decide (((c[k].length : Nat) : Int) = 0) = false := decide_eq_false (by omega)
      have hm : decide ((20 : Int) < ((c[k].length : Nat) : Int)) = false := decide_eq_false (by omega)
      have hcap : capOK (o ++ c[k]).length 144 := cap_ok (by rw [List.length_append]; omega) (by omega)
      rw [dec_lt hk, getI_lt hk, cond_true, Option.bind_some]
      by_cases h20 : c[k].length = 20
      · rw [decide_eq_true (by omega), show (!true) = false from rfl, cond_false, Option.bind_some, hz, cond_false, Option.bind_some, hm, cond_false, Option.bind_some, chk_pos hcap, chk_pos (in64_nat (by omega)), int_succ]
        exact fin
      · have hlast : ¬ k + 1 < c.length := fun h => h20 (h3 h)
        rw [decide_eq_false (by omega), show (!false) = true from rfl, cond_true, chk_pos (by unfold in64; omega), decide_eq_false (by omega), cond_false, Option.bind_some, hz, cond_false, Option.bind_some, hm, cond_false, Option.bind_some, chk_pos hcap, chk_pos (in64_nat (by omega)), int_succ]
        exact fin
    · rw [dec_nlt hk, cond_false]
      exact ⟨k, by rw [List.drop_eq_nil_of_le (by omega), List.flatten_nil, List.append_nil]⟩
theorem b_ok {a0 : List T_api_Op} {c : List (List T_api_Op)} {N : Nat} (hc : Pieces c) (hl : c.length ≤ 1000) (hN : c.length + 1 < N) :
    (∃ s, rolodexlaw17_OrderBatches_l8 a0 c N 0 = some (.inr (.inl s)) ∧ c.flatten = []) ∨ ∃ s, rolodexlaw17_OrderBatches_l8 a0 c N 0 = some (.inr (.inr (s, c.flatten))) := by
  obtain ⟨M, rfl⟩ : ∃ M, N = M + 1 := ⟨N - 1, by omega⟩
  rw [rolodexlaw17_OrderBatches_l8.eq_2]
  unfold rolodexlaw17_OrderBatches_l8_f
  cases c with
  | nil => exact .inl ⟨0, rfl, rfl⟩
  | cons x xs =>
    right
    obtain ⟨h1, h2, h3⟩ := hc 0 x rfl
    have h0 : 0 < x.length := by cases hh : x <;> simp_all
    have hz : decide (((x.length : Nat) : Int) = 0) = false := decide_eq_false (by omega)
    have hm : decide ((20 : Int) < ((x.length : Nat) : Int)) = false := decide_eq_false (by omega)
    have hcap : capOK x.length 144 := cap_ok (by omega) (by omega)
    have he : x.isEmpty = false := by cases hh : x <;> simp_all
    have e0 : decide ((0 : Int) < (((x :: xs).length : Nat) : Int)) = true := decide_eq_true (by simp only [List.length_cons]; omega)
    have fin : ∃ s, rolodexlaw17_OrderBatches_l8_s1 a0 (x :: xs) M (0 + 1) x = some (.inr (.inr (s, (x :: xs).flatten))) := by
      obtain ⟨s, hs⟩ := b_l (a0 := a0) hc hl M 1 x (by omega) (by simp) (by omega)
      exact ⟨s, hs⟩
    rw [e0, show getI (x :: xs) 0 = some x from rfl, cond_true, Option.bind_some]
    by_cases h20 : x.length = 20
    · rw [decide_eq_true (by omega), show (!true) = false from rfl, cond_false, Option.bind_some, hz, cond_false, Option.bind_some, hm, cond_false, Option.bind_some, he, cond_false, chk_pos hcap, chk_pos (by unfold in64; omega)]
      exact fin
    · have hlast : ¬ 0 + 1 < (x :: xs).length := fun h => h20 (h3 h)
      rw [decide_eq_false (by omega), show (!false) = true from rfl, cond_true, chk_pos (by unfold in64; omega), decide_eq_false (by omega), cond_false, Option.bind_some, hz, cond_false, Option.bind_some, hm, cond_false, Option.bind_some, he, cond_false, chk_pos hcap, chk_pos (by unfold in64; omega)]
      exact fin
theorem maxLen_big {n : Nat} (h : n ≤ 1000000) : n ≤ maxLen := by
  have h2 : 1000000 ≤ maxLen := by decide +kernel
  omega
theorem OrderBatches_law (b0 : List T_api_Op) (_ : b0.length ≤ maxLen ∧ ∀ e ∈ b0, T_api_Op.ok e) : ∃ N, rolodexlaw17_OrderBatches N b0 = some true := by
  refine ⟨1000, ?_⟩
  unfold rolodexlaw17_OrderBatches
  rw [awake_of (by omega), Option.bind_some, cond_true, Few_ok (by omega), Option.bind_some]
  cases hf : few b0 with
  | false => rw [cond_false]
  | true =>
    obtain ⟨hl, hP⟩ := few_smalls hf
    rw [cond_true, Split_ok hP (by omega) (by omega), Option.bind_some]
    have hc : Pieces (chunks 20 50 b0) := chunks_get (by omega) 50 b0
    have hlen := chunks_len (c := 20) (by omega) 50 b0 (by omega)
    have hflat := chunks_flat (c := 20) (by omega) 50 b0 (by omega)
    have hcl : (chunks 20 50 b0).length ≤ 100 := by rw [hlen]; omega
    have hs : rolodexref16_Same 1000 b0 b0 = some true := same16_ok (B := 80) (maxLen_big (by omega)) (fun o ho => ⟨maxLen_big (Nat.le_trans (hP o ho) (by omega)), hP o ho⟩) (by omega)
    have htd : ((((b0.length : Nat) : Int) + 19).tdiv 20) = (((b0.length + 19) / 20 : Nat) : Int) := by
      rw [Int.tdiv_eq_ediv_of_nonneg (by omega)]; omega
    have hend : chk (in64 (((b0.length : Nat) : Int) + 19)) (chk (in64 ((((b0.length : Nat) : Int) + 19).tdiv 20)) (some (decide ((((chunks 20 50 b0).length : Nat) : Int) = ((((b0.length : Nat) : Int) + 19).tdiv 20))))) = some true := by
      rw [chk_pos (by unfold in64; omega), htd, chk_pos (by unfold in64; omega), decide_eq_true (by rw [hlen])]
    rcases b_ok (a0 := b0) hc (by omega) (show (chunks 20 50 b0).length + 1 < 1000 by omega) with ⟨s, h1, h2⟩ | ⟨s, h1⟩
    · rw [h1, Option.bind_some]
      rw [hflat] at h2
      rw [h2] at hs hend ⊢
      simp only
      rw [hs, Option.bind_some, cond_true]
      exact hend
    · rw [h1, Option.bind_some]
      simp only
      rw [hflat, hs, Option.bind_some, cond_true]
      exact hend
end Go.Rx
namespace Go.Proofs.Ytlfoomimcbobbaa
theorem orderBatches_holds : Rows.OrderBatchesSaid := OrderBatches_row Go.Rx.OrderBatches_law
end Go.Proofs.Ytlfoomimcbobbaa
