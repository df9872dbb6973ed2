/- A part of the proof of OrderFree: the law returns true for every input, and its arguments read as before. No condition. -/
import Derived.Test.YtbailaklnahpeaaProg
import Derived.Test.YtbailaklnahpeaaComE
set_option linter.unusedSimpArgs false
set_option linter.unusedVariables false
set_option linter.unusedSectionVars false
namespace Go.Rx
theorem run_via {α R : Type} (n : α → Option R) : ∀ t : Tree α, t.run n = (t.run some).bind n
  | .ret a => rfl
  | .no => rfl
  | .cond b s t => by
    simp only [Tree.run]
    cases b
    · exact run_via n t
    · exact run_via n s
  | @Tree.chk _ p d t => by
    simp only [Tree.run, chk]
    split
    · exact run_via n t
    · rfl
  | .bind o k => by
    simp only [Tree.run]
    cases o with
    | none => rfl
    | some x => exact run_via n (k x)
  | .opt o s k => by
    simp only [Tree.run]
    cases o with
    | none => exact run_via n s
    | some x => exact run_via n (k x)
  | .sum x f g => by
    cases x with
    | inl a => exact run_via n (f a)
    | inr b => exact run_via n (g b)
theorem loop_next {V W Y : Type} {B : V → Tree (V ⊕ W)} {g : W → Option Y} {v v' : V} (h : (B v).run some = some (.inl v')) (N : Nat) : loopG B g (N + 1) v = loopG B g N v' := by
  simp only [loopG]
  rw [run_via, h]; rfl
theorem loop_stop {V W Y : Type} {B : V → Tree (V ⊕ W)} {g : W → Option Y} {v : V} {x : W} (h : (B v).run some = some (.inr x)) (N : Nat) : loopG B g (N + 1) v = g x := by
  simp only [loopG]
  rw [run_via, h]; rfl
theorem loop_inv {V W Y : Type} {B : V → Tree (V ⊕ W)} {g : W → Option Y} {I : V → Prop} {Q : Y → Prop} (m : V → Nat)
    (h : ∀ v, I v → (∃ v', (B v).run some = some (.inl v') ∧ I v' ∧ m v' < m v) ∨ ∃ x y, (B v).run some = some (.inr x) ∧ g x = some y ∧ Q y) :
    ∀ (N : Nat) (v : V), I v → m v < N → ∃ y, loopG B g N v = some y ∧ Q y
  | 0, v, _, hm => by omega
  | N + 1, v, hi, hm => by
    rcases h v hi with ⟨v', h1, h2, h3⟩ | ⟨x, y, h1, h2, h3⟩
    · rw [loop_next h1]
      exact loop_inv m h N v' h2 (by omega)
    · rw [loop_stop h1]
      exact ⟨y, h2, h3⟩
theorem loop_find {W Y : Type} {B : Int → Tree (Int ⊕ W)} {g : W → Option Y} {p : Nat → Bool} {n : Nat} {hit : Nat → W} {fin : W}
    (h1 : ∀ k, k < n → (B (k : Int)).run some = some (if p k then .inr (hit k) else .inl ((k + 1 : Nat) : Int))) (h2 : (B (n : Int)).run some = some (.inr fin)) :
    ∀ (N k : Nat), k ≤ n → n < N + k → loopG B g N (k : Int) = g (match firstF p (n - k) k with | some j => hit j | none => fin)
  | 0, k, hk, hN => by omega
  | N + 1, k, hk, hN => by
    by_cases e : k = n
    · subst e
      rw [loop_stop h2, Nat.sub_self]; rfl
    · obtain ⟨m, hm⟩ : ∃ m, n - k = m + 1 := ⟨n - k - 1, by omega⟩
      have h3 := h1 k (by omega)
      rw [hm]
      unfold firstF
      cases hp : p k with
      | true =>
        rw [hp, if_pos rfl] at h3
        rw [loop_stop h3, if_pos rfl]
      | false =>
        rw [hp, if_neg (by simp)] at h3
        rw [loop_next h3, loop_find h1 h2 N (k + 1) (by omega) (by omega), if_neg (by simp), show n - (k + 1) = m by omega]
def foldF {σ : Type} (f : Nat → σ → σ) : Nat → Nat → σ → σ
  | 0, _, s => s
  | m + 1, k, s => foldF f m (k + 1) (f k s)
theorem loop_fold {σ W Y : Type} {V : Type} {B : V → Tree (V ⊕ W)} {g : W → Option Y} {at_ : Nat → σ → V} {I : Nat → σ → Prop} {f : Nat → σ → σ} {n : Nat} {fin : σ → W}
    (h1 : ∀ k s, k < n → I k s → (B (at_ k s)).run some = some (.inl (at_ (k + 1) (f k s))) ∧ I (k + 1) (f k s)) (h2 : ∀ s, I n s → (B (at_ n s)).run some = some (.inr (fin s))) :
    ∀ (N k : Nat) (s : σ), I k s → k ≤ n → n < N + k → loopG B g N (at_ k s) = g (fin (foldF f (n - k) k s))
  | 0, k, s, _, hk, hN => by omega
  | N + 1, k, s, hi, hk, hN => by
    by_cases e : k = n
    · subst e
      rw [loop_stop (h2 s hi), Nat.sub_self]; rfl
    · obtain ⟨m, hm⟩ : ∃ m, n - k = m + 1 := ⟨n - k - 1, by omega⟩
      obtain ⟨h3, h4⟩ := h1 k s (by omega) hi
      rw [loop_next h3, loop_fold h1 h2 N (k + 1) _ h4 (by omega) (by omega), hm, show n - (k + 1) = m by omega]
      rfl
theorem getV_lt {α : Type} {l : List α} {k : Nat} (h : k < l.length) : getV l l.length k = some l[k] := by
  unfold getV; rw [if_pos rfl, List.getElem?_eq_getElem h]
theorem getV_D {α : Type} {l : List α} {k n : Nat} {d : α} (hn : l.length = n) (h : k < l.length) : getV l n k = some (l.getD k d) := by
  unfold getV; rw [if_pos hn, List.getElem?_eq_getElem h]; simp [List.getD, List.getElem?_eq_getElem h]
theorem chk_pos' {α : Type} {p : Prop} [Decidable p] {x : Option α} (h : p) : chk p x = x := if_pos h
theorem chkLs_nil {Z : Type} (o : Option Z) : chkLs [] o = o := rfl
theorem chkLs_pos {Z : Type} {a b : Nat} {ps : List (Nat × Nat)} {o : Option Z} (h : a = b) : chkLs ((a, b) :: ps) o = chkLs ps o := if_pos h
theorem in64_ok {n : Int} (h1 : -1000000000 ≤ n) (h2 : n ≤ 1000000000) : in64 n := by unfold in64; omega
theorem fndV_none {k : Int} {m : List (Int × Bool × Nat)} (h : valM k m = none) : fnd (β := Bool) (.i .i64) k m = none := by
  have : fnd (β := Bool) (.i .i64) k m = findM k m := by
    unfold fnd
    congr 1
  rw [this]; exact find_none h
theorem fndV_some {k : Int} {m : List (Int × Bool × Nat)} {x : Bool} (h : valM k m = some x) : ∃ c, fnd (β := Bool) (.i .i64) k m = some (x, c) := by
  have : fnd (β := Bool) (.i .i64) k m = findM k m := by
    unfold fnd
    congr 1
  rw [this]; exact find_some h
end Go.Rx
namespace Go.Rx
def t_api_Stamp : Ty := .ag [.i .i64, .i .i64]
abbrev T_api_Stamp := Int × Int
def T_api_Stamp.N (x : T_api_Stamp) : Int := x.1
def T_api_Stamp.Rep (x : T_api_Stamp) : Int := x.2
def T_api_Stamp.mk (x0 : Int) (x1 : Int) : T_api_Stamp := (x0, x1)
instance T_api_Stamp.dec : DecidableEq T_api_Stamp := decE t_api_Stamp
def t_api_Piece : Ty := .ag [.b, .i .i64, .i .i64, .s]
abbrev T_api_Piece := Bool × Int × Int × List UInt8
def T_api_Piece.Copy (x : T_api_Piece) : Bool := x.1
def T_api_Piece.From (x : T_api_Piece) : Int := x.2.1
def T_api_Piece.Len (x : T_api_Piece) : Int := x.2.2.1
def T_api_Piece.Lit (x : T_api_Piece) : List UInt8 := x.2.2.2
def T_api_Piece.mk (x0 : Bool) (x1 : Int) (x2 : Int) (x3 : List UInt8) : T_api_Piece := (x0, x1, x2, x3)
instance T_api_Piece.dec : DecidableEq T_api_Piece := decE t_api_Piece
def t_api_Op : Ty := .ag [.i .i64, .ba 16, t_api_Stamp, .i .i64, .s, .sl 4 t_api_Piece, .ba 16, .i .i64, .ba 32]
abbrev T_api_Op := Int × Vector UInt8 16 × T_api_Stamp × Int × List UInt8 × List T_api_Piece × Vector UInt8 16 × Int × Vector UInt8 32
def T_api_Op.Kind (x : T_api_Op) : Int := x.1
def T_api_Op.ID (x : T_api_Op) : Vector UInt8 16 := x.2.1
def T_api_Op.S (x : T_api_Op) : T_api_Stamp := x.2.2.1
def T_api_Op.No (x : T_api_Op) : Int := x.2.2.2.1
def T_api_Op.V (x : T_api_Op) : List UInt8 := x.2.2.2.2.1
def T_api_Op.P (x : T_api_Op) : List T_api_Piece := x.2.2.2.2.2.1
def T_api_Op.From (x : T_api_Op) : Vector UInt8 16 := x.2.2.2.2.2.2.1
def T_api_Op.FromNo (x : T_api_Op) : Int := x.2.2.2.2.2.2.2.1
def T_api_Op.D (x : T_api_Op) : Vector UInt8 32 := x.2.2.2.2.2.2.2.2
def T_api_Op.mk (x0 : Int) (x1 : Vector UInt8 16) (x2 : T_api_Stamp) (x3 : Int) (x4 : List UInt8) (x5 : List T_api_Piece) (x6 : Vector UInt8 16) (x7 : Int) (x8 : Vector UInt8 32) : T_api_Op := (x0, x1, x2, x3, x4, x5, x6, x7, x8)
instance T_api_Op.dec : DecidableEq T_api_Op := decE t_api_Op
def t_order_place : Ty := .ag [.ba 16, .i .i64]
abbrev T_order_place := Vector UInt8 16 × Int
def T_order_place.id (x : T_order_place) : Vector UInt8 16 := x.1
def T_order_place.no (x : T_order_place) : Int := x.2
def T_order_place.mk (x0 : Vector UInt8 16) (x1 : Int) : T_order_place := (x0, x1)
instance T_order_place.dec : DecidableEq T_order_place := decE t_order_place
end Go.Rx
set_option maxRecDepth 100000
namespace Go.Rx
open Go.Proofs
theorem Try_draw : Try.prog.follows .mixedOrders = true := by kernel_rfl
noncomputable def Try_as1400003 : Code := as_ Try.f14 3
noncomputable def Try_bd1400003 : Code := bd_ Try.f14 3
noncomputable instance Try_ct : CT := ⟨fun c => bif Nat.beq c 1400003 then (Try_as1400003, Try_bd1400003) else (.skip, .skip)⟩
noncomputable def Try_b19 : Code := Try.f19.body.getD .skip
theorem Try_F19 : FnF Try.prog 19 Try.f19 Try_b19 := ⟨Try_draw, by kernel_rfl, by kernel_rfl, by kernel_rfl⟩
def slices_Clone_Op_H : TH := { live := [(0, [0]), (1, [0, 4]), (2, [2]), (3, [2])], vecs := [5], esc := true }
def slices_Clone_Op_E (N : Nat) : List Ent := []
theorem slices_Clone_Op_Eok (N : Nat) : SmAll Try.prog (slices_Clone_Op_E N) := trivial
def slices_Clone_Op_o (a0 : List T_api_Op) (z : Unit) : TV × THp := (.v 100050 (((([] : List T_api_Op)) ++ a0).length), [(100050, .vec false 71 (.sl 71 t_api_Op) ((([] : List T_api_Op)) ++ a0 : List T_api_Op))])
def slices_Clone_Op_t (a0 : List T_api_Op) : Tree (Unit) :=
 .chk (List.isEmpty a0 = false) <|
 .chk (avOK ((([] : List T_api_Op)).length) 0 (((([] : List T_api_Op)) ++ a0).length) 144) <|
 .ret ()
def slices_Clone_Op (a0 : List T_api_Op) : Option (Unit) := (slices_Clone_Op_t a0).run some
def slices_Clone_Op_L : List (Nat × LEnt) := []
def slices_Clone_Op_s : Ent := smF ⟨19, [], [.x (.sl 71 t_api_Op)], [], []⟩ [(.sl 71 t_api_Op)] (Unit) (fun x => slices_Clone_Op x.1) cs1 fun x => slices_Clone_Op_o x.1
theorem slices_Clone_Op_val : FnVal Try.prog ⟨19, [], [.x (.sl 71 t_api_Op)], [], []⟩ [(.sl 71 t_api_Op)] (fun x => slices_Clone_Op_t x.1) (fun x => slices_Clone_Op_o x.1) :=
  fn_val (H := slices_Clone_Op_H) (L := lenv (slices_Clone_Op_L)) 0 Try_F19 (slices_Clone_Op_Eok 0) (lenv_ok (by kernel_rfl) trivial) (rg0 (by kernel_rfl)) fun x => by kernel_rfl
theorem slices_Clone_Op_ok : SmOK Try.prog (slices_Clone_Op_s) := smF_ok (slices_Clone_Op_val)
def slices_Clone_Op_2_H : TH := { live := [(0, [0]), (1, [0, 4]), (2, [2]), (3, [2])], vecs := [5], esc := true }
def slices_Clone_Op_2_E (N : Nat) : List Ent := []
theorem slices_Clone_Op_2_Eok (N : Nat) : SmAll Try.prog (slices_Clone_Op_2_E N) := trivial
def slices_Clone_Op_2_o (z : Unit) : TV × THp := (.v 100050 0, [(100050, .vec false 71 (.sl 71 t_api_Op) ([] : List T_api_Op))])
def slices_Clone_Op_2_t : Tree (Unit) :=
 .chk (0 = 0) <|
 .ret ()
def slices_Clone_Op_2 : Option (Unit) := (slices_Clone_Op_2_t).run some
def slices_Clone_Op_2_L : List (Nat × LEnt) := []
def slices_Clone_Op_2_s : Ent := smF ⟨19, [], [.k (.es 0)], [], []⟩ [] (Unit) (fun x => slices_Clone_Op_2) cs1 fun _ => slices_Clone_Op_2_o
theorem slices_Clone_Op_2_val : FnVal Try.prog ⟨19, [], [.k (.es 0)], [], []⟩ [] (fun x => slices_Clone_Op_2_t) (fun _ => slices_Clone_Op_2_o) :=
  fn_val (H := slices_Clone_Op_2_H) (L := lenv (slices_Clone_Op_2_L)) 0 Try_F19 (slices_Clone_Op_2_Eok 0) (lenv_ok (by kernel_rfl) trivial) (rg0 (by kernel_rfl)) fun x => by kernel_rfl
theorem slices_Clone_Op_2_ok : SmOK Try.prog (slices_Clone_Op_2_s) := smF_ok (slices_Clone_Op_2_val)
def slices_Clone_Op_3_H : TH := { live := [(0, [0]), (1, [0, 4]), (2, [2]), (3, [2])], vecs := [5], esc := true }
def slices_Clone_Op_3_E (N : Nat) : List Ent := []
theorem slices_Clone_Op_3_Eok (N : Nat) : SmAll Try.prog (slices_Clone_Op_3_E N) := trivial
def slices_Clone_Op_3_o (z : Unit) : TV × THp := (.nils, [])
def slices_Clone_Op_3_t : Tree (Unit) :=
 .ret ()
def slices_Clone_Op_3 : Option (Unit) := (slices_Clone_Op_3_t).run some
def slices_Clone_Op_3_L : List (Nat × LEnt) := []
def slices_Clone_Op_3_s : Ent := smF ⟨19, [], [.k (.es 1)], [], []⟩ [] (Unit) (fun x => slices_Clone_Op_3) cs1 fun _ => slices_Clone_Op_3_o
theorem slices_Clone_Op_3_val : FnVal Try.prog ⟨19, [], [.k (.es 1)], [], []⟩ [] (fun x => slices_Clone_Op_3_t) (fun _ => slices_Clone_Op_3_o) :=
  fn_val (H := slices_Clone_Op_3_H) (L := lenv (slices_Clone_Op_3_L)) 0 Try_F19 (slices_Clone_Op_3_Eok 0) (lenv_ok (by kernel_rfl) trivial) (rg0 (by kernel_rfl)) fun x => by kernel_rfl
theorem slices_Clone_Op_3_ok : SmOK Try.prog (slices_Clone_Op_3_s) := smF_ok (slices_Clone_Op_3_val)
def slices_Clone_OpW_c0 (z : Unit) : Unit := ()
def slices_Clone_OpW_c1 (z : Unit) : Unit := ()
def slices_Clone_OpW (a0 : List T_api_Op) : Option (Unit) :=
 bif a0.isEmpty then
  (slices_Clone_Op_2).bind fun z0 => (slices_Clone_Op_3).bind fun z1 => chk (slices_Clone_OpW_c0 z0 = slices_Clone_OpW_c1 z1) (some (slices_Clone_OpW_c0 z0))
 else slices_Clone_Op a0
def slices_Clone_OpW_s : Ent := smF ⟨19, [], [.x (.sl 71 t_api_Op)], [], []⟩ [(.sl 71 t_api_Op)] (Unit) (fun x => slices_Clone_OpW x.1) cs1 fun x => slices_Clone_Op_o x.1
theorem slices_Clone_OpW_ok : SmOK Try.prog (slices_Clone_OpW_s) := smF_ok fun x z h l => by
  obtain ⟨a0, _⟩ := x
  replace h : slices_Clone_OpW a0 = some z := h
  unfold slices_Clone_OpW at h
  rcases cond_some h with ⟨e, h2⟩ | ⟨_, h2⟩ <;> clear h
  · have e := List.isEmpty_iff.1 e
    subst e
    obtain ⟨z0, c0, h2⟩ := bind_some h2
    obtain ⟨z1, c1, h2⟩ := bind_some h2
    obtain ⟨hE, h2⟩ := chk_some h2
    obtain rfl := Option.some.inj h2
    refine maybe_val (t := (.sl 71 t_api_Op)) (x := []) rfl (TV.ers []) (TV.ers []) (by exact slices_Clone_Op_2_val (()) _ c0 l) ?_
    rw [hE]
    exact (nil_vec (n := 100050) (sz := 71) (x := toPV (.sl 71 t_api_Op) ([] : List T_api_Op)) rfl rfl (slices_Clone_Op_3_val (()) _ c1 l))
  · exact slices_Clone_Op_val (a0, ()) z h2 l
noncomputable def Try_b29 : Code := Try.f29.body.getD .skip
theorem Try_F29 : FnF Try.prog 29 Try.f29 Try_b29 := ⟨Try_draw, by kernel_rfl, by kernel_rfl, by kernel_rfl⟩
def order_read_H : TH := { live := [(0, [1, 2]), (1, [1, 2, 5]), (2, [1, 2, 5, 6]), (3, [2, 3]), (4, [1, 2, 13]), (5, [2, 3]), (6, [2, 3])] }
def order_read_E (N : Nat) : List Ent := []
theorem order_read_Eok (N : Nat) : SmAll Try.prog (order_read_E N) := trivial
def order_read_o (z : T_order_place × Bool) : TV × THp := (.tup [.tv t_order_place (z.1 : T_order_place), xb z.2], [])
def order_read_t (a0 : T_api_Op) : Tree (T_order_place × Bool) :=
 .cond (decide ((T_api_Op.Kind a0) = ((2 : Int)))) (
 .ret (T_order_place.mk (T_api_Op.From a0) (T_api_Op.FromNo a0), true)) <|
 .cond (decide ((T_api_Op.Kind a0) = ((3 : Int)))) (
 .ret (T_order_place.mk (T_api_Op.ID a0) (T_api_Op.No a0), true)) <|
 .ret (T_order_place.mk ((Vector.replicate 16 0)) 0, false)
def order_read (a0 : T_api_Op) : Option (T_order_place × Bool) := (order_read_t a0).run some
def order_read_L : List (Nat × LEnt) := []
def order_read_s : Ent := smF ⟨29, [], [.x t_api_Op], [], []⟩ [t_api_Op] (T_order_place × Bool) (fun x => order_read x.1) cs1 fun _ => order_read_o
theorem order_read_ok : SmOK Try.prog (order_read_s) :=
  fn_ok (H := order_read_H) (L := lenv (order_read_L)) (ts := [t_api_Op]) (T := fun x => order_read_t x.1) 0 Try_F29 (order_read_Eok 0) (lenv_ok (by kernel_rfl) trivial) (rg0 (by kernel_rfl)) fun x => by kernel_rfl
noncomputable def Try_b17 : Code := Try.f17.body.getD .skip
theorem Try_F17 : FnF Try.prog 17 Try.f17 Try_b17 := ⟨Try_draw, by kernel_rfl, by kernel_rfl, by kernel_rfl⟩
def order_Reads_H : TH := { live := [(0, [2, 3]), (1, [3, 5, 6]), (2, [3, 5, 6, 14]), (3, [4]), (4, [4])], dec := [16, 24] }
def order_Reads_E (N : Nat) : List Ent := [order_read_s]
theorem order_Reads_Eok (N : Nat) : SmAll Try.prog (order_Reads_E N) := ⟨order_read_ok, trivial⟩
def order_Reads_o (z : Bool) : TV × THp := (xb z, [])
def order_Reads_t (a0 : T_api_Op) (a1 : T_api_Op) : Tree (Bool) :=
 .bind (order_read a0) fun r1 =>
 .cond (decide ((T_api_Op.Kind a1) = ((0 : Int)))) (
 .cond r1.2 (
 .ret (eqE (.ba 16) (T_order_place.id r1.1) (T_api_Op.ID a1))) <|
 .ret false) <|
 .cond r1.2 (
 .ret (eqE t_order_place r1.1 (T_order_place.mk (T_api_Op.ID a1) (T_api_Op.No a1)))) <|
 .ret false
def order_Reads (a0 : T_api_Op) (a1 : T_api_Op) : Option (Bool) := (order_Reads_t a0 a1).run some
def order_Reads_L : List (Nat × LEnt) := []
def order_Reads_s : Ent := smF ⟨17, [], [.x t_api_Op, .x t_api_Op], [], []⟩ [t_api_Op, t_api_Op] (Bool) (fun x => order_Reads x.1 x.2.1) cs1 fun _ => order_Reads_o
theorem order_Reads_ok : SmOK Try.prog (order_Reads_s) :=
  fn_ok (H := order_Reads_H) (L := lenv (order_Reads_L)) (ts := [t_api_Op, t_api_Op]) (T := fun x => order_Reads_t x.1 x.2.1) 0 Try_F17 (order_Reads_Eok 0) (lenv_ok (by kernel_rfl) trivial) (rg0 (by kernel_rfl)) fun x => by kernel_rfl
noncomputable def Try_b21 : Code := Try.f21.body.getD .skip
theorem Try_F21 : FnF Try.prog 21 Try.f21 Try_b21 := ⟨Try_draw, by kernel_rfl, by kernel_rfl, by kernel_rfl⟩
def order_sorter_free_H : TH := { live := [(0, [0, 1]), (1, [0, 1, 10, 11]), (2, [0, 1, 10, 11, 12]), (3, [0, 1, 5, 10, 11]), (4, [0, 1, 10, 11, 41]), (5, [4]), (6, [0, 1, 10, 11]), (7, [4])], dec := [17, 25] }
def order_sorter_free_E (N : Nat) : List Ent := [order_Reads_s]
theorem order_sorter_free_Eok (N : Nat) : SmAll Try.prog (order_sorter_free_E N) := ⟨order_Reads_ok, trivial⟩
abbrev order_sorter_free_l2_F := Nat × List (Int × Bool × Nat) × Nat × List (Int × Bool × Nat) × List T_api_Op × List T_api_Op × List T_api_Op × Int × Int
abbrev order_sorter_free_l2_Y := (Int × Bool) ⊕ Unit
def order_sorter_free_l2_o (f : order_sorter_free_l2_F) : order_sorter_free_l2_Y → Ex × TSt
 | .inl y => (.exit 0, ⟨2, 43, [220, 230, 250, 257, 100050], [(0, .p 250 [] 0), (1, xi f.2.2.2.2.2.2.2.1), (10, xi f.2.2.2.2.2.2.2.2), (11, xi y.1), (12, xb y.2)], [(220, .map f.1 (.i .i64) .b f.2.1), (230, .map f.2.2.1 (.i .i64) .b f.2.2.2.1), (250, .cell false (.ag [.v 100050 f.2.2.2.2.2.1.length, .tv (.sl 71 t_api_Op) f.2.2.2.2.2.2.1, .m 220, .m 230, .v 257 f.2.2.2.2.1.length])), (257, .vec false 71 (.sl 71 t_api_Op) f.2.2.2.2.1), (100050, .vec false 71 (.sl 71 t_api_Op) f.2.2.2.2.2.1)], false, []⟩)
 | .inr y => (.ret, ⟨2, 43, [220, 230, 250, 257, 100050], [(4, .bc false)], [(220, .map f.1 (.i .i64) .b f.2.1), (230, .map f.2.2.1 (.i .i64) .b f.2.2.2.1), (250, .cell false (.ag [.v 100050 f.2.2.2.2.2.1.length, .tv (.sl 71 t_api_Op) f.2.2.2.2.2.2.1, .m 220, .m 230, .v 257 f.2.2.2.2.1.length])), (257, .vec false 71 (.sl 71 t_api_Op) f.2.2.2.2.1), (100050, .vec false 71 (.sl 71 t_api_Op) f.2.2.2.2.2.1)], false, []⟩)
def order_sorter_free_l2_L (N : Nat) : List (Nat × LEnt) := []
abbrev order_sorter_free_l2_V := Int
def order_sorter_free_l2_p : SP := ⟨2, 43, [220, 230, 250, 257, 100050], [(0, .k (.p 250 [] 0)), (1, .x (.i .i64)), (10, .x (.i .i64)), (11, .x (.i .i64))], [(220, .map (.i .i64) .b), (230, .map (.i .i64) .b), (250, .cell false (.ag [.vs 100050, .x (.sl 71 t_api_Op), .k (.m 220), .k (.m 230), .vs 257])), (257, .vec false 71), (100050, .vec false 71)], false, []⟩
def order_sorter_free_l2_h (f : order_sorter_free_l2_F) (v : order_sorter_free_l2_V) : TSt := fillS order_sorter_free_l2_p [dv .nat f.1, dv (entT (.i .i64) .b) f.2.1, dv .nat f.2.2.1, dv (entT (.i .i64) .b) f.2.2.2.1, dv (.sl 71 t_api_Op) f.2.2.2.2.1, dv (.sl 71 t_api_Op) f.2.2.2.2.2.1, dv (.sl 71 t_api_Op) f.2.2.2.2.2.2.1, dv (.i .i64) f.2.2.2.2.2.2.2.1, dv (.i .i64) f.2.2.2.2.2.2.2.2, dv (.i .i64) v]
def order_sorter_free_l2_t (N : Nat) (o_2 : Nat) (o_2_2 : List (Int × Bool × Nat)) (o_2_3 : Nat) (o_2_4 : List (Int × Bool × Nat)) (o_2_5 : List T_api_Op) (o_2_6 : List T_api_Op) (o_2_7 : List T_api_Op) (s1_2 : Int) (s10_2 : Int) (v : order_sorter_free_l2_V) : Tree (order_sorter_free_l2_V ⊕ order_sorter_free_l2_Y) :=
 .cond (decide (v < s10_2)) (
 .cond (!decide (v = s1_2)) (
 .opt (fnd (β := Bool) (.i .i64) v o_2_2) (
 .chk (in64 (v + 1)) <|
 .ret (.inl (v + 1))) fun e1 =>
 .cond e1.1 (
 .chk (0 ≤ v ∧ v < ((o_2_6.length : Nat) : Int)) <|
 .bind (getV o_2_6 o_2_6.length v.toNat) fun e2 =>
 .chk (0 ≤ s1_2 ∧ s1_2 < ((o_2_6.length : Nat) : Int)) <|
 .bind (getV o_2_6 o_2_6.length s1_2.toNat) fun e3 =>
 .bind (order_Reads e2 e3) fun r4 =>
 .cond r4 (
 .ret (.inr (.inr ()))) <|
 .chk (in64 (v + 1)) <|
 .ret (.inl (v + 1))) <|
 .chk (in64 (v + 1)) <|
 .ret (.inl (v + 1))) <|
 .chk (in64 (v + 1)) <|
 .ret (.inl (v + 1))) <|
 .ret (.inr (.inl (v, decide (v < s10_2))))
def order_sorter_free_l2_n (N n : Nat) (f : order_sorter_free_l2_F) (v : order_sorter_free_l2_V) : Option order_sorter_free_l2_Y := loopG (order_sorter_free_l2_t N f.1 f.2.1 f.2.2.1 f.2.2.2.1 f.2.2.2.2.1 f.2.2.2.2.2.1 f.2.2.2.2.2.2.1 f.2.2.2.2.2.2.2.1 f.2.2.2.2.2.2.2.2) some n v
theorem order_sorter_free_l2_q (N : Nat) (f : order_sorter_free_l2_F) (n : Nat) (v : order_sorter_free_l2_V) (y : order_sorter_free_l2_Y) (h : order_sorter_free_l2_n N n f v = some y) : LG Try.prog order_sorter_free_H 21 (lookC Try_b21 2) (order_sorter_free_l2_h f v) (order_sorter_free_l2_o f y) :=
  loop_g (E := order_sorter_free_E N) (L := lenv (order_sorter_free_l2_L N)) (st := order_sorter_free_l2_o f) (g := some) (R := order_sorter_free_l2_o f) (order_sorter_free_Eok N) (lenv_ok (by kernel_rfl) trivial) (rg0 (by kernel_rfl)) (fun v => by kernel_rfl) (good_self (st := order_sorter_free_l2_o f) fun y => by rcases y with _ | _ <;> rfl) n v y h
def order_sorter_free_l2 (N : Nat) (o_2 : Nat) (o_2_2 : List (Int × Bool × Nat)) (o_2_3 : Nat) (o_2_4 : List (Int × Bool × Nat)) (o_2_5 : List T_api_Op) (o_2_6 : List T_api_Op) (o_2_7 : List T_api_Op) (s1_2 : Int) (s10_2 : Int) (s11_2 : Int) : Option order_sorter_free_l2_Y := order_sorter_free_l2_n N N (o_2, o_2_2, o_2_3, o_2_4, o_2_5, o_2_6, o_2_7, s1_2, s10_2) s11_2
def order_sorter_free_l2_s (N : Nat) : LEnt := smL order_sorter_free_l2_p [.nat, (entT (.i .i64) .b), .nat, (entT (.i .i64) .b), (.sl 71 t_api_Op), (.sl 71 t_api_Op), (.sl 71 t_api_Op), (.i .i64), (.i .i64), (.i .i64)] order_sorter_free_l2_Y (fun x => order_sorter_free_l2 N x.1 x.2.1 x.2.2.1 x.2.2.2.1 x.2.2.2.2.1 x.2.2.2.2.2.1 x.2.2.2.2.2.2.1 x.2.2.2.2.2.2.2.1 x.2.2.2.2.2.2.2.2.1 x.2.2.2.2.2.2.2.2.2.1) (csS cs1) fun x => order_sorter_free_l2_o (x.1, x.2.1, x.2.2.1, x.2.2.2.1, x.2.2.2.2.1, x.2.2.2.2.2.1, x.2.2.2.2.2.2.1, x.2.2.2.2.2.2.2.1, x.2.2.2.2.2.2.2.2.1)
theorem order_sorter_free_l2_ok (N : Nat) : LsOK Try.prog order_sorter_free_H 21 (lookC Try_b21 2) (order_sorter_free_l2_s N) := smL_ok fun x z h => order_sorter_free_l2_q N (x.1, x.2.1, x.2.2.1, x.2.2.2.1, x.2.2.2.2.1, x.2.2.2.2.2.1, x.2.2.2.2.2.2.1, x.2.2.2.2.2.2.2.1, x.2.2.2.2.2.2.2.2.1) N x.2.2.2.2.2.2.2.2.2.1 z h
def order_sorter_free_o (a0 : Nat) (a1 : List (Int × Bool × Nat)) (a2 : Nat) (a3 : List (Int × Bool × Nat)) (a4 : List T_api_Op) (a5 : List T_api_Op) (a6 : List T_api_Op) (z : Bool) : TV × THp := (xb z, [(220, .map a0 (.i .i64) .b a1), (230, .map a2 (.i .i64) .b a3), (250, .cell false (.ag [.v 100050 a5.length, .tv (.sl 71 t_api_Op) a6, .m 220, .m 230, .v 257 a4.length])), (257, .vec false 71 (.sl 71 t_api_Op) a4), (100050, .vec false 71 (.sl 71 t_api_Op) a5)])
def order_sorter_free_t (N : Nat) (a0 : Nat) (a1 : List (Int × Bool × Nat)) (a2 : Nat) (a3 : List (Int × Bool × Nat)) (a4 : List T_api_Op) (a5 : List T_api_Op) (a6 : List T_api_Op) (a7 : Int) : Tree (Bool) :=
 .bind (chkLs [(a5.length, a5.length), (a4.length, a4.length)] (order_sorter_free_l2 N a0 a1 a2 a3 a4 a5 a6 a7 ((a5.length : Nat) : Int) 0)) fun z1 =>
 .sum z1 (fun z2 =>
 .ret true) fun z2 =>
 .ret false
def order_sorter_free (N : Nat) (a0 : Nat) (a1 : List (Int × Bool × Nat)) (a2 : Nat) (a3 : List (Int × Bool × Nat)) (a4 : List T_api_Op) (a5 : List T_api_Op) (a6 : List T_api_Op) (a7 : Int) : Option (Bool) := (order_sorter_free_t N a0 a1 a2 a3 a4 a5 a6 a7).run some
def order_sorter_free_L (N : Nat) : List (Nat × LEnt) := [(2, order_sorter_free_l2_s N)]
def order_sorter_free_s (N : Nat) : Ent := smF ⟨21, [.k (.p 250 [] 0)], [.x (.i .i64)], [], [(220, .map (.i .i64) .b), (230, .map (.i .i64) .b), (250, .cell false (.ag [.vs 100050, .x (.sl 71 t_api_Op), .k (.m 220), .k (.m 230), .vs 257])), (257, .vec false 71), (100050, .vec false 71)]⟩ [.nat, (entT (.i .i64) .b), .nat, (entT (.i .i64) .b), (.sl 71 t_api_Op), (.sl 71 t_api_Op), (.sl 71 t_api_Op), (.i .i64)] (Bool) (fun x => order_sorter_free N x.1 x.2.1 x.2.2.1 x.2.2.2.1 x.2.2.2.2.1 x.2.2.2.2.2.1 x.2.2.2.2.2.2.1 x.2.2.2.2.2.2.2.1) cs1 fun x => order_sorter_free_o x.1 x.2.1 x.2.2.1 x.2.2.2.1 x.2.2.2.2.1 x.2.2.2.2.2.1 x.2.2.2.2.2.2.1
theorem order_sorter_free_ok (N : Nat) : SmOK Try.prog (order_sorter_free_s N) :=
  fn_ok (H := order_sorter_free_H) (L := lenv (order_sorter_free_L N)) (ts := [.nat, (entT (.i .i64) .b), .nat, (entT (.i .i64) .b), (.sl 71 t_api_Op), (.sl 71 t_api_Op), (.sl 71 t_api_Op), (.i .i64)]) (T := fun x => order_sorter_free_t N x.1 x.2.1 x.2.2.1 x.2.2.2.1 x.2.2.2.2.1 x.2.2.2.2.2.1 x.2.2.2.2.2.2.1 x.2.2.2.2.2.2.2.1) 1 Try_F21 (order_sorter_free_Eok N) (lenv_ok (by kernel_rfl) ⟨order_sorter_free_l2_ok N, trivial⟩) (rg0 (by kernel_rfl)) fun x => by kernel_rfl
noncomputable def Try_b20 : Code := Try.f20.body.getD .skip
theorem Try_F20 : FnF Try.prog 20 Try.f20 Try_b20 := ⟨Try_draw, by kernel_rfl, by kernel_rfl, by kernel_rfl⟩
def order_sorter_first_H : TH := { live := [(0, [0, 1]), (1, [0, 1, 11, 12]), (2, [0, 1, 11, 12, 13]), (3, [0, 1, 6, 11, 12]), (4, [0, 1, 6, 11, 12, 25]), (5, [4, 5]), (6, [0, 1, 11, 12]), (7, [4, 5])], dec := [21] }
def order_sorter_first_E (N : Nat) : List Ent := [order_sorter_free_s N]
theorem order_sorter_first_Eok (N : Nat) : SmAll Try.prog (order_sorter_first_E N) := ⟨order_sorter_free_ok N, trivial⟩
abbrev order_sorter_first_l2_F := Nat × List (Int × Bool × Nat) × Nat × List (Int × Bool × Nat) × List T_api_Op × List T_api_Op × List T_api_Op × Int
abbrev order_sorter_first_l2_Y := (Int × Bool) ⊕ Int
def order_sorter_first_l2_o (f : order_sorter_first_l2_F) : order_sorter_first_l2_Y → Ex × TSt
 | .inl y => (.exit 0, ⟨2, 28, [220, 230, 250, 257, 100050], [(0, .p 250 [] 0), (1, .fn (.func 21) [.p 250 [] 0] []), (11, xi f.2.2.2.2.2.2.2), (12, xi y.1), (13, xb y.2)], [(220, .map f.1 (.i .i64) .b f.2.1), (230, .map f.2.2.1 (.i .i64) .b f.2.2.2.1), (250, .cell false (.ag [.v 100050 f.2.2.2.2.2.1.length, .tv (.sl 71 t_api_Op) f.2.2.2.2.2.2.1, .m 220, .m 230, .v 257 f.2.2.2.2.1.length])), (257, .vec false 71 (.sl 71 t_api_Op) f.2.2.2.2.1), (100050, .vec false 71 (.sl 71 t_api_Op) f.2.2.2.2.2.1)], false, []⟩)
 | .inr y => (.ret, ⟨2, 28, [220, 230, 250, 257, 100050], [(4, xi y), (5, .bc true)], [(220, .map f.1 (.i .i64) .b f.2.1), (230, .map f.2.2.1 (.i .i64) .b f.2.2.2.1), (250, .cell false (.ag [.v 100050 f.2.2.2.2.2.1.length, .tv (.sl 71 t_api_Op) f.2.2.2.2.2.2.1, .m 220, .m 230, .v 257 f.2.2.2.2.1.length])), (257, .vec false 71 (.sl 71 t_api_Op) f.2.2.2.2.1), (100050, .vec false 71 (.sl 71 t_api_Op) f.2.2.2.2.2.1)], false, []⟩)
def order_sorter_first_l2_L (N : Nat) : List (Nat × LEnt) := []
abbrev order_sorter_first_l2_V := Int
def order_sorter_first_l2_p : SP := ⟨2, 28, [220, 230, 250, 257, 100050], [(0, .k (.p 250 [] 0)), (1, .fn 21 [.k (.p 250 [] 0)] []), (11, .x (.i .i64)), (12, .x (.i .i64))], [(220, .map (.i .i64) .b), (230, .map (.i .i64) .b), (250, .cell false (.ag [.vs 100050, .x (.sl 71 t_api_Op), .k (.m 220), .k (.m 230), .vs 257])), (257, .vec false 71), (100050, .vec false 71)], false, []⟩
def order_sorter_first_l2_h (f : order_sorter_first_l2_F) (v : order_sorter_first_l2_V) : TSt := fillS order_sorter_first_l2_p [dv .nat f.1, dv (entT (.i .i64) .b) f.2.1, dv .nat f.2.2.1, dv (entT (.i .i64) .b) f.2.2.2.1, dv (.sl 71 t_api_Op) f.2.2.2.2.1, dv (.sl 71 t_api_Op) f.2.2.2.2.2.1, dv (.sl 71 t_api_Op) f.2.2.2.2.2.2.1, dv (.i .i64) f.2.2.2.2.2.2.2, dv (.i .i64) v]
def order_sorter_first_l2_t (N : Nat) (o_2 : Nat) (o_2_2 : List (Int × Bool × Nat)) (o_2_3 : Nat) (o_2_4 : List (Int × Bool × Nat)) (o_2_5 : List T_api_Op) (o_2_6 : List T_api_Op) (o_2_7 : List T_api_Op) (s11_2 : Int) (v : order_sorter_first_l2_V) : Tree (order_sorter_first_l2_V ⊕ order_sorter_first_l2_Y) :=
 .cond (decide (v < s11_2)) (
 .opt (fnd (β := Bool) (.i .i64) v o_2_2) (
 .chk (in64 (v + 1)) <|
 .ret (.inl (v + 1))) fun e1 =>
 .cond e1.1 (
 .bind (chkLs [(o_2_6.length, o_2_6.length), (o_2_5.length, o_2_5.length)] (order_sorter_free N o_2 o_2_2 o_2_3 o_2_4 o_2_5 o_2_6 o_2_7 v)) fun r2 =>
 .cond r2 (
 .ret (.inr (.inr v))) <|
 .chk (in64 (v + 1)) <|
 .ret (.inl (v + 1))) <|
 .chk (in64 (v + 1)) <|
 .ret (.inl (v + 1))) <|
 .ret (.inr (.inl (v, decide (v < s11_2))))
def order_sorter_first_l2_n (N n : Nat) (f : order_sorter_first_l2_F) (v : order_sorter_first_l2_V) : Option order_sorter_first_l2_Y := loopG (order_sorter_first_l2_t N f.1 f.2.1 f.2.2.1 f.2.2.2.1 f.2.2.2.2.1 f.2.2.2.2.2.1 f.2.2.2.2.2.2.1 f.2.2.2.2.2.2.2) some n v
theorem order_sorter_first_l2_q (N : Nat) (f : order_sorter_first_l2_F) (n : Nat) (v : order_sorter_first_l2_V) (y : order_sorter_first_l2_Y) (h : order_sorter_first_l2_n N n f v = some y) : LG Try.prog order_sorter_first_H 20 (lookC Try_b20 2) (order_sorter_first_l2_h f v) (order_sorter_first_l2_o f y) :=
  loop_g (E := order_sorter_first_E N) (L := lenv (order_sorter_first_l2_L N)) (st := order_sorter_first_l2_o f) (g := some) (R := order_sorter_first_l2_o f) (order_sorter_first_Eok N) (lenv_ok (by kernel_rfl) trivial) (rg0 (by kernel_rfl)) (fun v => by kernel_rfl) (good_self (st := order_sorter_first_l2_o f) fun y => by rcases y with _ | _ <;> rfl) n v y h
def order_sorter_first_l2 (N : Nat) (o_2 : Nat) (o_2_2 : List (Int × Bool × Nat)) (o_2_3 : Nat) (o_2_4 : List (Int × Bool × Nat)) (o_2_5 : List T_api_Op) (o_2_6 : List T_api_Op) (o_2_7 : List T_api_Op) (s11_2 : Int) (s12_2 : Int) : Option order_sorter_first_l2_Y := order_sorter_first_l2_n N N (o_2, o_2_2, o_2_3, o_2_4, o_2_5, o_2_6, o_2_7, s11_2) s12_2
def order_sorter_first_l2_s (N : Nat) : LEnt := smL order_sorter_first_l2_p [.nat, (entT (.i .i64) .b), .nat, (entT (.i .i64) .b), (.sl 71 t_api_Op), (.sl 71 t_api_Op), (.sl 71 t_api_Op), (.i .i64), (.i .i64)] order_sorter_first_l2_Y (fun x => order_sorter_first_l2 N x.1 x.2.1 x.2.2.1 x.2.2.2.1 x.2.2.2.2.1 x.2.2.2.2.2.1 x.2.2.2.2.2.2.1 x.2.2.2.2.2.2.2.1 x.2.2.2.2.2.2.2.2.1) (csS cs1) fun x => order_sorter_first_l2_o (x.1, x.2.1, x.2.2.1, x.2.2.2.1, x.2.2.2.2.1, x.2.2.2.2.2.1, x.2.2.2.2.2.2.1, x.2.2.2.2.2.2.2.1)
theorem order_sorter_first_l2_ok (N : Nat) : LsOK Try.prog order_sorter_first_H 20 (lookC Try_b20 2) (order_sorter_first_l2_s N) := smL_ok fun x z h => order_sorter_first_l2_q N (x.1, x.2.1, x.2.2.1, x.2.2.2.1, x.2.2.2.2.1, x.2.2.2.2.2.1, x.2.2.2.2.2.2.1, x.2.2.2.2.2.2.2.1) N x.2.2.2.2.2.2.2.2.1 z h
def order_sorter_first_o (a0 : Nat) (a1 : List (Int × Bool × Nat)) (a2 : Nat) (a3 : List (Int × Bool × Nat)) (a4 : List T_api_Op) (a5 : List T_api_Op) (a6 : List T_api_Op) (z : Int × Bool) : TV × THp := (.tup [xi z.1, xb z.2], [(220, .map a0 (.i .i64) .b a1), (230, .map a2 (.i .i64) .b a3), (250, .cell false (.ag [.v 100050 a5.length, .tv (.sl 71 t_api_Op) a6, .m 220, .m 230, .v 257 a4.length])), (257, .vec false 71 (.sl 71 t_api_Op) a4), (100050, .vec false 71 (.sl 71 t_api_Op) a5)])
def order_sorter_first_t (N : Nat) (a0 : Nat) (a1 : List (Int × Bool × Nat)) (a2 : Nat) (a3 : List (Int × Bool × Nat)) (a4 : List T_api_Op) (a5 : List T_api_Op) (a6 : List T_api_Op) : Tree (Int × Bool) :=
 .bind (chkLs [(a5.length, a5.length), (a4.length, a4.length)] (order_sorter_first_l2 N a0 a1 a2 a3 a4 a5 a6 ((a5.length : Nat) : Int) 0)) fun z1 =>
 .sum z1 (fun z2 =>
 .ret (0, false)) fun z2 =>
 .ret (z2, true)
def order_sorter_first (N : Nat) (a0 : Nat) (a1 : List (Int × Bool × Nat)) (a2 : Nat) (a3 : List (Int × Bool × Nat)) (a4 : List T_api_Op) (a5 : List T_api_Op) (a6 : List T_api_Op) : Option (Int × Bool) := (order_sorter_first_t N a0 a1 a2 a3 a4 a5 a6).run some
def order_sorter_first_L (N : Nat) : List (Nat × LEnt) := [(2, order_sorter_first_l2_s N)]
def order_sorter_first_s (N : Nat) : Ent := smF ⟨20, [], [.k (.p 250 [] 0), .fn 21 [.k (.p 250 [] 0)] []], [], [(220, .map (.i .i64) .b), (230, .map (.i .i64) .b), (250, .cell false (.ag [.vs 100050, .x (.sl 71 t_api_Op), .k (.m 220), .k (.m 230), .vs 257])), (257, .vec false 71), (100050, .vec false 71)]⟩ [.nat, (entT (.i .i64) .b), .nat, (entT (.i .i64) .b), (.sl 71 t_api_Op), (.sl 71 t_api_Op), (.sl 71 t_api_Op)] (Int × Bool) (fun x => order_sorter_first N x.1 x.2.1 x.2.2.1 x.2.2.2.1 x.2.2.2.2.1 x.2.2.2.2.2.1 x.2.2.2.2.2.2.1) cs1 fun x => order_sorter_first_o x.1 x.2.1 x.2.2.1 x.2.2.2.1 x.2.2.2.2.1 x.2.2.2.2.2.1 x.2.2.2.2.2.2.1
theorem order_sorter_first_ok (N : Nat) : SmOK Try.prog (order_sorter_first_s N) :=
  fn_ok (H := order_sorter_first_H) (L := lenv (order_sorter_first_L N)) (ts := [.nat, (entT (.i .i64) .b), .nat, (entT (.i .i64) .b), (.sl 71 t_api_Op), (.sl 71 t_api_Op), (.sl 71 t_api_Op)]) (T := fun x => order_sorter_first_t N x.1 x.2.1 x.2.2.1 x.2.2.2.1 x.2.2.2.2.1 x.2.2.2.2.2.1 x.2.2.2.2.2.2.1) 1 Try_F20 (order_sorter_first_Eok N) (lenv_ok (by kernel_rfl) ⟨order_sorter_first_l2_ok N, trivial⟩) (rg0 (by kernel_rfl)) fun x => by kernel_rfl
noncomputable def Try_b32 : Code := Try.f32.body.getD .skip
theorem Try_F32 : FnF Try.prog 32 Try.f32 Try_b32 := ⟨Try_draw, by kernel_rfl, by kernel_rfl, by kernel_rfl⟩
def slices_Clone_Piece_H : TH := { live := [(0, [0]), (1, [0, 4]), (2, [2]), (3, [2])], vecs := [5] }
def slices_Clone_Piece_E (N : Nat) : List Ent := []
theorem slices_Clone_Piece_Eok (N : Nat) : SmAll Try.prog (slices_Clone_Piece_E N) := trivial
def slices_Clone_Piece_o (a0 : List T_api_Piece) (z : Unit) : TV × THp := (.tv (.sl 4 t_api_Piece) ((([] : List T_api_Piece)) ++ a0 : List T_api_Piece), [])
def slices_Clone_Piece_t (a0 : List T_api_Piece) : Tree (Unit) :=
 .chk (List.isEmpty a0 = false) <|
 .chk (avOK ((([] : List T_api_Piece)).length) 0 (((([] : List T_api_Piece)) ++ a0).length) 40) <|
 .chk (((([] : List T_api_Piece)) ++ a0).length = ((([] : List T_api_Piece)) ++ a0).length) <|
 .ret ()
def slices_Clone_Piece (a0 : List T_api_Piece) : Option (Unit) := (slices_Clone_Piece_t a0).run some
def slices_Clone_Piece_L : List (Nat × LEnt) := []
def slices_Clone_Piece_s : Ent := smF ⟨32, [], [.x (.sl 4 t_api_Piece)], [], []⟩ [(.sl 4 t_api_Piece)] (Unit) (fun x => slices_Clone_Piece x.1) cs1 fun x => slices_Clone_Piece_o x.1
theorem slices_Clone_Piece_val : FnVal Try.prog ⟨32, [], [.x (.sl 4 t_api_Piece)], [], []⟩ [(.sl 4 t_api_Piece)] (fun x => slices_Clone_Piece_t x.1) (fun x => slices_Clone_Piece_o x.1) :=
  fn_val (H := slices_Clone_Piece_H) (L := lenv (slices_Clone_Piece_L)) 0 Try_F32 (slices_Clone_Piece_Eok 0) (lenv_ok (by kernel_rfl) trivial) (rg0 (by kernel_rfl)) fun x => by kernel_rfl
theorem slices_Clone_Piece_ok : SmOK Try.prog (slices_Clone_Piece_s) := smF_ok (slices_Clone_Piece_val)
def slices_Clone_Piece_2_H : TH := { live := [(0, [0]), (1, [0, 4]), (2, [2]), (3, [2])], vecs := [5] }
def slices_Clone_Piece_2_E (N : Nat) : List Ent := []
theorem slices_Clone_Piece_2_Eok (N : Nat) : SmAll Try.prog (slices_Clone_Piece_2_E N) := trivial
def slices_Clone_Piece_2_o (z : Unit) : TV × THp := (.tv (.sl 4 t_api_Piece) ([] : List T_api_Piece), [])
def slices_Clone_Piece_2_t : Tree (Unit) :=
 .chk (0 = 0) <|
 .chk (0 = 0) <|
 .ret ()
def slices_Clone_Piece_2 : Option (Unit) := (slices_Clone_Piece_2_t).run some
def slices_Clone_Piece_2_L : List (Nat × LEnt) := []
def slices_Clone_Piece_2_s : Ent := smF ⟨32, [], [.k (.es 0)], [], []⟩ [] (Unit) (fun x => slices_Clone_Piece_2) cs1 fun _ => slices_Clone_Piece_2_o
theorem slices_Clone_Piece_2_val : FnVal Try.prog ⟨32, [], [.k (.es 0)], [], []⟩ [] (fun x => slices_Clone_Piece_2_t) (fun _ => slices_Clone_Piece_2_o) :=
  fn_val (H := slices_Clone_Piece_2_H) (L := lenv (slices_Clone_Piece_2_L)) 0 Try_F32 (slices_Clone_Piece_2_Eok 0) (lenv_ok (by kernel_rfl) trivial) (rg0 (by kernel_rfl)) fun x => by kernel_rfl
theorem slices_Clone_Piece_2_ok : SmOK Try.prog (slices_Clone_Piece_2_s) := smF_ok (slices_Clone_Piece_2_val)
def slices_Clone_Piece_3_H : TH := { live := [(0, [0]), (1, [0, 4]), (2, [2]), (3, [2])], vecs := [5] }
def slices_Clone_Piece_3_E (N : Nat) : List Ent := []
theorem slices_Clone_Piece_3_Eok (N : Nat) : SmAll Try.prog (slices_Clone_Piece_3_E N) := trivial
def slices_Clone_Piece_3_o (z : Unit) : TV × THp := (.tv (.sl 4 t_api_Piece) ([] : List T_api_Piece), [])
def slices_Clone_Piece_3_t : Tree (Unit) :=
 .ret ()
def slices_Clone_Piece_3 : Option (Unit) := (slices_Clone_Piece_3_t).run some
def slices_Clone_Piece_3_L : List (Nat × LEnt) := []
def slices_Clone_Piece_3_s : Ent := smF ⟨32, [], [.k (.es 1)], [], []⟩ [] (Unit) (fun x => slices_Clone_Piece_3) cs1 fun _ => slices_Clone_Piece_3_o
theorem slices_Clone_Piece_3_val : FnVal Try.prog ⟨32, [], [.k (.es 1)], [], []⟩ [] (fun x => slices_Clone_Piece_3_t) (fun _ => slices_Clone_Piece_3_o) :=
  fn_val (H := slices_Clone_Piece_3_H) (L := lenv (slices_Clone_Piece_3_L)) 0 Try_F32 (slices_Clone_Piece_3_Eok 0) (lenv_ok (by kernel_rfl) trivial) (rg0 (by kernel_rfl)) fun x => by kernel_rfl
theorem slices_Clone_Piece_3_ok : SmOK Try.prog (slices_Clone_Piece_3_s) := smF_ok (slices_Clone_Piece_3_val)
def slices_Clone_PieceW_c0 (z : Unit) : Unit := ()
def slices_Clone_PieceW_c1 (z : Unit) : Unit := ()
def slices_Clone_PieceW (a0 : List T_api_Piece) : Option (Unit) :=
 bif a0.isEmpty then
  (slices_Clone_Piece_2).bind fun z0 => (slices_Clone_Piece_3).bind fun z1 => chk (slices_Clone_PieceW_c0 z0 = slices_Clone_PieceW_c1 z1) (some (slices_Clone_PieceW_c0 z0))
 else slices_Clone_Piece a0
def slices_Clone_PieceW_s : Ent := smF ⟨32, [], [.x (.sl 4 t_api_Piece)], [], []⟩ [(.sl 4 t_api_Piece)] (Unit) (fun x => slices_Clone_PieceW x.1) cs1 fun x => slices_Clone_Piece_o x.1
theorem slices_Clone_PieceW_ok : SmOK Try.prog (slices_Clone_PieceW_s) := smF_ok fun x z h l => by
  obtain ⟨a0, _⟩ := x
  replace h : slices_Clone_PieceW a0 = some z := h
  unfold slices_Clone_PieceW at h
  rcases cond_some h with ⟨e, h2⟩ | ⟨_, h2⟩ <;> clear h
  · have e := List.isEmpty_iff.1 e
    subst e
    obtain ⟨z0, c0, h2⟩ := bind_some h2
    obtain ⟨z1, c1, h2⟩ := bind_some h2
    obtain ⟨hE, h2⟩ := chk_some h2
    obtain rfl := Option.some.inj h2
    refine maybe_val (t := (.sl 4 t_api_Piece)) (x := []) rfl (TV.ers []) (TV.ers []) (by exact slices_Clone_Piece_2_val (()) _ c0 l) ?_
    rw [hE]
    exact (by exact slices_Clone_Piece_3_val (()) _ c1 l)
  · exact slices_Clone_Piece_val (a0, ()) z h2 l
noncomputable def Try_b28 : Code := Try.f28.body.getD .skip
theorem Try_F28 : FnF Try.prog 28 Try.f28 Try_b28 := ⟨Try_draw, by kernel_rfl, by kernel_rfl, by kernel_rfl⟩
def order_own_H : TH := { live := [(0, [1, 2]), (1, [1, 2]), (2, [2])] }
def order_own_E (N : Nat) : List Ent := [slices_Clone_PieceW_s]
theorem order_own_Eok (N : Nat) : SmAll Try.prog (order_own_E N) := ⟨slices_Clone_PieceW_ok, trivial⟩
def order_own_o (a0 : T_api_Op) (z : Unit) : TV × THp := (.tv t_api_Op (T_api_Op.mk (T_api_Op.Kind a0) (T_api_Op.ID a0) (T_api_Op.S a0) (T_api_Op.No a0) (T_api_Op.V a0) ((([] : List T_api_Piece)) ++ (T_api_Op.P a0)) (T_api_Op.From a0) (T_api_Op.FromNo a0) (T_api_Op.D a0)), [])
def order_own_t (a0 : T_api_Op) : Tree (Unit) :=
 .bind (slices_Clone_PieceW (T_api_Op.P a0)) fun r1 =>
 .ret ()
def order_own (a0 : T_api_Op) : Option (Unit) := (order_own_t a0).run some
def order_own_L : List (Nat × LEnt) := []
def order_own_s : Ent := smF ⟨28, [], [.x t_api_Op], [], []⟩ [t_api_Op] (Unit) (fun x => order_own x.1) cs1 fun x => order_own_o x.1
theorem order_own_ok : SmOK Try.prog (order_own_s) :=
  fn_ok (H := order_own_H) (L := lenv (order_own_L)) (ts := [t_api_Op]) (T := fun x => order_own_t x.1) 0 Try_F28 (order_own_Eok 0) (lenv_ok (by kernel_rfl) trivial) (rg0 (by kernel_rfl)) fun x => by kernel_rfl
noncomputable def Try_b22 : Code := Try.f22.body.getD .skip
theorem Try_F22 : FnF Try.prog 22 Try.f22 Try_b22 := ⟨Try_draw, by kernel_rfl, by kernel_rfl, by kernel_rfl⟩
def order_sorter_next_H : TH := { live := [(0, [0, 1])] }
def order_sorter_next_E (N : Nat) : List Ent := [order_own_s]
theorem order_sorter_next_Eok (N : Nat) : SmAll Try.prog (order_sorter_next_E N) := ⟨order_own_ok, trivial⟩
def order_sorter_next_o (a0 : Nat) (a1 : List (Int × Bool × Nat)) (a2 : Nat) (a3 : List (Int × Bool × Nat)) (a5 : List T_api_Op) (a6 : List T_api_Op) (a7 : Int) (z : List T_api_Op) : TV × THp := (.tup [], [(220, .map a0 (.i .i64) .b (delE (β := Bool) (.i .i64) a7 a1 : List (Int × Bool × Nat))), (230, .map a2 (.i .i64) .b a3), (250, .cell false (.ag [.v 100050 a5.length, .tv (.sl 71 t_api_Op) a6, .m 220, .m 230, .v 257 z.length])), (257, .vec false 71 (.sl 71 t_api_Op) z), (100050, .vec false 71 (.sl 71 t_api_Op) a5)])
def order_sorter_next_t (a0 : Nat) (a1 : List (Int × Bool × Nat)) (a2 : Nat) (a3 : List (Int × Bool × Nat)) (a4 : List T_api_Op) (a5 : List T_api_Op) (a6 : List T_api_Op) (a7 : Int) : Tree (List T_api_Op) :=
 .chk (0 ≤ a7 ∧ a7 < ((a5.length : Nat) : Int)) <|
 .bind (getV a5 a5.length a7.toNat) fun e1 =>
 .bind (order_own e1) fun r2 =>
 .chk (avOK a4.length a4.length ((a4 ++ [T_api_Op.mk (T_api_Op.Kind e1) (T_api_Op.ID e1) (T_api_Op.S e1) (T_api_Op.No e1) (T_api_Op.V e1) ((([] : List T_api_Piece)) ++ (T_api_Op.P e1)) (T_api_Op.From e1) (T_api_Op.FromNo e1) (T_api_Op.D e1)]).length) 144) <|
 .ret (a4 ++ [T_api_Op.mk (T_api_Op.Kind e1) (T_api_Op.ID e1) (T_api_Op.S e1) (T_api_Op.No e1) (T_api_Op.V e1) ((([] : List T_api_Piece)) ++ (T_api_Op.P e1)) (T_api_Op.From e1) (T_api_Op.FromNo e1) (T_api_Op.D e1)])
def order_sorter_next (a0 : Nat) (a1 : List (Int × Bool × Nat)) (a2 : Nat) (a3 : List (Int × Bool × Nat)) (a4 : List T_api_Op) (a5 : List T_api_Op) (a6 : List T_api_Op) (a7 : Int) : Option (List T_api_Op) := (order_sorter_next_t a0 a1 a2 a3 a4 a5 a6 a7).run some
def order_sorter_next_L : List (Nat × LEnt) := []
def order_sorter_next_s : Ent := smF ⟨22, [], [.k (.p 250 [] 0), .x (.i .i64)], [], [(220, .map (.i .i64) .b), (230, .map (.i .i64) .b), (250, .cell false (.ag [.vs 100050, .x (.sl 71 t_api_Op), .k (.m 220), .k (.m 230), .vs 257])), (257, .vec false 71), (100050, .vec false 71)]⟩ [.nat, (entT (.i .i64) .b), .nat, (entT (.i .i64) .b), (.sl 71 t_api_Op), (.sl 71 t_api_Op), (.sl 71 t_api_Op), (.i .i64)] (List T_api_Op) (fun x => order_sorter_next x.1 x.2.1 x.2.2.1 x.2.2.2.1 x.2.2.2.2.1 x.2.2.2.2.2.1 x.2.2.2.2.2.2.1 x.2.2.2.2.2.2.2.1) cs1 fun x => order_sorter_next_o x.1 x.2.1 x.2.2.1 x.2.2.2.1 x.2.2.2.2.2.1 x.2.2.2.2.2.2.1 x.2.2.2.2.2.2.2.1
theorem order_sorter_next_ok : SmOK Try.prog (order_sorter_next_s) :=
  fn_ok (H := order_sorter_next_H) (L := lenv (order_sorter_next_L)) (ts := [.nat, (entT (.i .i64) .b), .nat, (entT (.i .i64) .b), (.sl 71 t_api_Op), (.sl 71 t_api_Op), (.sl 71 t_api_Op), (.i .i64)]) (T := fun x => order_sorter_next_t x.1 x.2.1 x.2.2.1 x.2.2.2.1 x.2.2.2.2.1 x.2.2.2.2.2.1 x.2.2.2.2.2.2.1 x.2.2.2.2.2.2.2.1) 1 Try_F22 (order_sorter_next_Eok 0) (lenv_ok (by kernel_rfl) trivial) (rg0 (by kernel_rfl)) fun x => by kernel_rfl
noncomputable def Try_b23 : Code := Try.f23.body.getD .skip
theorem Try_F23 : FnF Try.prog 23 Try.f23 Try_b23 := ⟨Try_draw, by kernel_rfl, by kernel_rfl, by kernel_rfl⟩
def order_sorter_reads_H : TH := { live := [(0, [0, 1]), (1, [0, 1, 6]), (2, [4])], dec := [19] }
def order_sorter_reads_E (N : Nat) : List Ent := [order_read_s]
theorem order_sorter_reads_Eok (N : Nat) : SmAll Try.prog (order_sorter_reads_E N) := ⟨order_read_ok, trivial⟩
def order_sorter_reads_o (a0 : Nat) (a1 : List (Int × Bool × Nat)) (a2 : Nat) (a3 : List (Int × Bool × Nat)) (a4 : List T_api_Op) (a5 : List T_api_Op) (a6 : List T_api_Op) (z : Bool) : TV × THp := (xb z, [(220, .map a0 (.i .i64) .b a1), (230, .map a2 (.i .i64) .b a3), (250, .cell false (.ag [.v 100050 a5.length, .tv (.sl 71 t_api_Op) a6, .m 220, .m 230, .v 257 a4.length])), (257, .vec false 71 (.sl 71 t_api_Op) a4), (100050, .vec false 71 (.sl 71 t_api_Op) a5)])
def order_sorter_reads_t (a0 : Nat) (a1 : List (Int × Bool × Nat)) (a2 : Nat) (a3 : List (Int × Bool × Nat)) (a4 : List T_api_Op) (a5 : List T_api_Op) (a6 : List T_api_Op) (a7 : Int) : Tree (Bool) :=
 .chk (0 ≤ a7 ∧ a7 < ((a5.length : Nat) : Int)) <|
 .bind (getV a5 a5.length a7.toNat) fun e1 =>
 .bind (order_read e1) fun r2 =>
 .cond r2.2 (
 .opt (fnd (β := Bool) (.i .i64) a7 a3) (
 .ret true) fun e3 =>
 .ret !e3.1) <|
 .ret false
def order_sorter_reads (a0 : Nat) (a1 : List (Int × Bool × Nat)) (a2 : Nat) (a3 : List (Int × Bool × Nat)) (a4 : List T_api_Op) (a5 : List T_api_Op) (a6 : List T_api_Op) (a7 : Int) : Option (Bool) := (order_sorter_reads_t a0 a1 a2 a3 a4 a5 a6 a7).run some
def order_sorter_reads_L : List (Nat × LEnt) := []
def order_sorter_reads_s : Ent := smF ⟨23, [.k (.p 250 [] 0)], [.x (.i .i64)], [], [(220, .map (.i .i64) .b), (230, .map (.i .i64) .b), (250, .cell false (.ag [.vs 100050, .x (.sl 71 t_api_Op), .k (.m 220), .k (.m 230), .vs 257])), (257, .vec false 71), (100050, .vec false 71)]⟩ [.nat, (entT (.i .i64) .b), .nat, (entT (.i .i64) .b), (.sl 71 t_api_Op), (.sl 71 t_api_Op), (.sl 71 t_api_Op), (.i .i64)] (Bool) (fun x => order_sorter_reads x.1 x.2.1 x.2.2.1 x.2.2.2.1 x.2.2.2.2.1 x.2.2.2.2.2.1 x.2.2.2.2.2.2.1 x.2.2.2.2.2.2.2.1) cs1 fun x => order_sorter_reads_o x.1 x.2.1 x.2.2.1 x.2.2.2.1 x.2.2.2.2.1 x.2.2.2.2.2.1 x.2.2.2.2.2.2.1
theorem order_sorter_reads_ok : SmOK Try.prog (order_sorter_reads_s) :=
  fn_ok (H := order_sorter_reads_H) (L := lenv (order_sorter_reads_L)) (ts := [.nat, (entT (.i .i64) .b), .nat, (entT (.i .i64) .b), (.sl 71 t_api_Op), (.sl 71 t_api_Op), (.sl 71 t_api_Op), (.i .i64)]) (T := fun x => order_sorter_reads_t x.1 x.2.1 x.2.2.1 x.2.2.2.1 x.2.2.2.2.1 x.2.2.2.2.2.1 x.2.2.2.2.2.2.1 x.2.2.2.2.2.2.2.1) 1 Try_F23 (order_sorter_reads_Eok 0) (lenv_ok (by kernel_rfl) trivial) (rg0 (by kernel_rfl)) fun x => by kernel_rfl
def order_sorter_first_2_H : TH := { live := [(0, [0, 1]), (1, [0, 1, 11, 12]), (2, [0, 1, 11, 12, 13]), (3, [0, 1, 6, 11, 12]), (4, [0, 1, 6, 11, 12, 25]), (5, [4, 5]), (6, [0, 1, 11, 12]), (7, [4, 5])], dec := [21] }
def order_sorter_first_2_E (N : Nat) : List Ent := [order_sorter_reads_s]
theorem order_sorter_first_2_Eok (N : Nat) : SmAll Try.prog (order_sorter_first_2_E N) := ⟨order_sorter_reads_ok, trivial⟩
abbrev order_sorter_first_2_l2_F := Nat × List (Int × Bool × Nat) × Nat × List (Int × Bool × Nat) × List T_api_Op × List T_api_Op × List T_api_Op × Int
abbrev order_sorter_first_2_l2_Y := (Int × Bool) ⊕ Int
def order_sorter_first_2_l2_o (f : order_sorter_first_2_l2_F) : order_sorter_first_2_l2_Y → Ex × TSt
 | .inl y => (.exit 0, ⟨2, 28, [220, 230, 250, 257, 100050], [(0, .p 250 [] 0), (1, .fn (.func 23) [.p 250 [] 0] []), (11, xi f.2.2.2.2.2.2.2), (12, xi y.1), (13, xb y.2)], [(220, .map f.1 (.i .i64) .b f.2.1), (230, .map f.2.2.1 (.i .i64) .b f.2.2.2.1), (250, .cell false (.ag [.v 100050 f.2.2.2.2.2.1.length, .tv (.sl 71 t_api_Op) f.2.2.2.2.2.2.1, .m 220, .m 230, .v 257 f.2.2.2.2.1.length])), (257, .vec false 71 (.sl 71 t_api_Op) f.2.2.2.2.1), (100050, .vec false 71 (.sl 71 t_api_Op) f.2.2.2.2.2.1)], false, []⟩)
 | .inr y => (.ret, ⟨2, 28, [220, 230, 250, 257, 100050], [(4, xi y), (5, .bc true)], [(220, .map f.1 (.i .i64) .b f.2.1), (230, .map f.2.2.1 (.i .i64) .b f.2.2.2.1), (250, .cell false (.ag [.v 100050 f.2.2.2.2.2.1.length, .tv (.sl 71 t_api_Op) f.2.2.2.2.2.2.1, .m 220, .m 230, .v 257 f.2.2.2.2.1.length])), (257, .vec false 71 (.sl 71 t_api_Op) f.2.2.2.2.1), (100050, .vec false 71 (.sl 71 t_api_Op) f.2.2.2.2.2.1)], false, []⟩)
def order_sorter_first_2_l2_L (N : Nat) : List (Nat × LEnt) := []
abbrev order_sorter_first_2_l2_V := Int
def order_sorter_first_2_l2_p : SP := ⟨2, 28, [220, 230, 250, 257, 100050], [(0, .k (.p 250 [] 0)), (1, .fn 23 [.k (.p 250 [] 0)] []), (11, .x (.i .i64)), (12, .x (.i .i64))], [(220, .map (.i .i64) .b), (230, .map (.i .i64) .b), (250, .cell false (.ag [.vs 100050, .x (.sl 71 t_api_Op), .k (.m 220), .k (.m 230), .vs 257])), (257, .vec false 71), (100050, .vec false 71)], false, []⟩
def order_sorter_first_2_l2_h (f : order_sorter_first_2_l2_F) (v : order_sorter_first_2_l2_V) : TSt := fillS order_sorter_first_2_l2_p [dv .nat f.1, dv (entT (.i .i64) .b) f.2.1, dv .nat f.2.2.1, dv (entT (.i .i64) .b) f.2.2.2.1, dv (.sl 71 t_api_Op) f.2.2.2.2.1, dv (.sl 71 t_api_Op) f.2.2.2.2.2.1, dv (.sl 71 t_api_Op) f.2.2.2.2.2.2.1, dv (.i .i64) f.2.2.2.2.2.2.2, dv (.i .i64) v]
def order_sorter_first_2_l2_t (N : Nat) (o_2 : Nat) (o_2_2 : List (Int × Bool × Nat)) (o_2_3 : Nat) (o_2_4 : List (Int × Bool × Nat)) (o_2_5 : List T_api_Op) (o_2_6 : List T_api_Op) (o_2_7 : List T_api_Op) (s11_2 : Int) (v : order_sorter_first_2_l2_V) : Tree (order_sorter_first_2_l2_V ⊕ order_sorter_first_2_l2_Y) :=
 .cond (decide (v < s11_2)) (
 .opt (fnd (β := Bool) (.i .i64) v o_2_2) (
 .chk (in64 (v + 1)) <|
 .ret (.inl (v + 1))) fun e1 =>
 .cond e1.1 (
 .bind (chkLs [(o_2_6.length, o_2_6.length), (o_2_5.length, o_2_5.length)] (order_sorter_reads o_2 o_2_2 o_2_3 o_2_4 o_2_5 o_2_6 o_2_7 v)) fun r2 =>
 .cond r2 (
 .ret (.inr (.inr v))) <|
 .chk (in64 (v + 1)) <|
 .ret (.inl (v + 1))) <|
 .chk (in64 (v + 1)) <|
 .ret (.inl (v + 1))) <|
 .ret (.inr (.inl (v, decide (v < s11_2))))
def order_sorter_first_2_l2_n (N n : Nat) (f : order_sorter_first_2_l2_F) (v : order_sorter_first_2_l2_V) : Option order_sorter_first_2_l2_Y := loopG (order_sorter_first_2_l2_t N f.1 f.2.1 f.2.2.1 f.2.2.2.1 f.2.2.2.2.1 f.2.2.2.2.2.1 f.2.2.2.2.2.2.1 f.2.2.2.2.2.2.2) some n v
theorem order_sorter_first_2_l2_q (N : Nat) (f : order_sorter_first_2_l2_F) (n : Nat) (v : order_sorter_first_2_l2_V) (y : order_sorter_first_2_l2_Y) (h : order_sorter_first_2_l2_n N n f v = some y) : LG Try.prog order_sorter_first_2_H 20 (lookC Try_b20 2) (order_sorter_first_2_l2_h f v) (order_sorter_first_2_l2_o f y) :=
  loop_g (E := order_sorter_first_2_E N) (L := lenv (order_sorter_first_2_l2_L N)) (st := order_sorter_first_2_l2_o f) (g := some) (R := order_sorter_first_2_l2_o f) (order_sorter_first_2_Eok N) (lenv_ok (by kernel_rfl) trivial) (rg0 (by kernel_rfl)) (fun v => by kernel_rfl) (good_self (st := order_sorter_first_2_l2_o f) fun y => by rcases y with _ | _ <;> rfl) n v y h
def order_sorter_first_2_l2 (N : Nat) (o_2 : Nat) (o_2_2 : List (Int × Bool × Nat)) (o_2_3 : Nat) (o_2_4 : List (Int × Bool × Nat)) (o_2_5 : List T_api_Op) (o_2_6 : List T_api_Op) (o_2_7 : List T_api_Op) (s11_2 : Int) (s12_2 : Int) : Option order_sorter_first_2_l2_Y := order_sorter_first_2_l2_n N N (o_2, o_2_2, o_2_3, o_2_4, o_2_5, o_2_6, o_2_7, s11_2) s12_2
def order_sorter_first_2_l2_s (N : Nat) : LEnt := smL order_sorter_first_2_l2_p [.nat, (entT (.i .i64) .b), .nat, (entT (.i .i64) .b), (.sl 71 t_api_Op), (.sl 71 t_api_Op), (.sl 71 t_api_Op), (.i .i64), (.i .i64)] order_sorter_first_2_l2_Y (fun x => order_sorter_first_2_l2 N x.1 x.2.1 x.2.2.1 x.2.2.2.1 x.2.2.2.2.1 x.2.2.2.2.2.1 x.2.2.2.2.2.2.1 x.2.2.2.2.2.2.2.1 x.2.2.2.2.2.2.2.2.1) (csS cs1) fun x => order_sorter_first_2_l2_o (x.1, x.2.1, x.2.2.1, x.2.2.2.1, x.2.2.2.2.1, x.2.2.2.2.2.1, x.2.2.2.2.2.2.1, x.2.2.2.2.2.2.2.1)
theorem order_sorter_first_2_l2_ok (N : Nat) : LsOK Try.prog order_sorter_first_2_H 20 (lookC Try_b20 2) (order_sorter_first_2_l2_s N) := smL_ok fun x z h => order_sorter_first_2_l2_q N (x.1, x.2.1, x.2.2.1, x.2.2.2.1, x.2.2.2.2.1, x.2.2.2.2.2.1, x.2.2.2.2.2.2.1, x.2.2.2.2.2.2.2.1) N x.2.2.2.2.2.2.2.2.1 z h
def order_sorter_first_2_o (a0 : Nat) (a1 : List (Int × Bool × Nat)) (a2 : Nat) (a3 : List (Int × Bool × Nat)) (a4 : List T_api_Op) (a5 : List T_api_Op) (a6 : List T_api_Op) (z : Int × Bool) : TV × THp := (.tup [xi z.1, xb z.2], [(220, .map a0 (.i .i64) .b a1), (230, .map a2 (.i .i64) .b a3), (250, .cell false (.ag [.v 100050 a5.length, .tv (.sl 71 t_api_Op) a6, .m 220, .m 230, .v 257 a4.length])), (257, .vec false 71 (.sl 71 t_api_Op) a4), (100050, .vec false 71 (.sl 71 t_api_Op) a5)])
def order_sorter_first_2_t (N : Nat) (a0 : Nat) (a1 : List (Int × Bool × Nat)) (a2 : Nat) (a3 : List (Int × Bool × Nat)) (a4 : List T_api_Op) (a5 : List T_api_Op) (a6 : List T_api_Op) : Tree (Int × Bool) :=
 .bind (chkLs [(a5.length, a5.length), (a4.length, a4.length)] (order_sorter_first_2_l2 N a0 a1 a2 a3 a4 a5 a6 ((a5.length : Nat) : Int) 0)) fun z1 =>
 .sum z1 (fun z2 =>
 .ret (0, false)) fun z2 =>
 .ret (z2, true)
def order_sorter_first_2 (N : Nat) (a0 : Nat) (a1 : List (Int × Bool × Nat)) (a2 : Nat) (a3 : List (Int × Bool × Nat)) (a4 : List T_api_Op) (a5 : List T_api_Op) (a6 : List T_api_Op) : Option (Int × Bool) := (order_sorter_first_2_t N a0 a1 a2 a3 a4 a5 a6).run some
def order_sorter_first_2_L (N : Nat) : List (Nat × LEnt) := [(2, order_sorter_first_2_l2_s N)]
def order_sorter_first_2_s (N : Nat) : Ent := smF ⟨20, [], [.k (.p 250 [] 0), .fn 23 [.k (.p 250 [] 0)] []], [], [(220, .map (.i .i64) .b), (230, .map (.i .i64) .b), (250, .cell false (.ag [.vs 100050, .x (.sl 71 t_api_Op), .k (.m 220), .k (.m 230), .vs 257])), (257, .vec false 71), (100050, .vec false 71)]⟩ [.nat, (entT (.i .i64) .b), .nat, (entT (.i .i64) .b), (.sl 71 t_api_Op), (.sl 71 t_api_Op), (.sl 71 t_api_Op)] (Int × Bool) (fun x => order_sorter_first_2 N x.1 x.2.1 x.2.2.1 x.2.2.2.1 x.2.2.2.2.1 x.2.2.2.2.2.1 x.2.2.2.2.2.2.1) cs1 fun x => order_sorter_first_2_o x.1 x.2.1 x.2.2.1 x.2.2.2.1 x.2.2.2.2.1 x.2.2.2.2.2.1 x.2.2.2.2.2.2.1
theorem order_sorter_first_2_ok (N : Nat) : SmOK Try.prog (order_sorter_first_2_s N) :=
  fn_ok (H := order_sorter_first_2_H) (L := lenv (order_sorter_first_2_L N)) (ts := [.nat, (entT (.i .i64) .b), .nat, (entT (.i .i64) .b), (.sl 71 t_api_Op), (.sl 71 t_api_Op), (.sl 71 t_api_Op)]) (T := fun x => order_sorter_first_2_t N x.1 x.2.1 x.2.2.1 x.2.2.2.1 x.2.2.2.2.1 x.2.2.2.2.2.1 x.2.2.2.2.2.2.1) 1 Try_F20 (order_sorter_first_2_Eok N) (lenv_ok (by kernel_rfl) ⟨order_sorter_first_2_l2_ok N, trivial⟩) (rg0 (by kernel_rfl)) fun x => by kernel_rfl
noncomputable def Try_b24 : Code := Try.f24.body.getD .skip
theorem Try_F24 : FnF Try.prog 24 Try.f24 Try_b24 := ⟨Try_draw, by kernel_rfl, by kernel_rfl, by kernel_rfl⟩
def order_Sort_1_H : TH := { live := [(1, [2])] }
def order_Sort_1_E (N : Nat) : List Ent := []
theorem order_Sort_1_Eok (N : Nat) : SmAll Try.prog (order_Sort_1_E N) := trivial
def order_Sort_1_o (z : Unit) : TV × THp := (.bc true, [])
def order_Sort_1_t (a0 : Int) : Tree (Unit) :=
 .ret ()
def order_Sort_1 (a0 : Int) : Option (Unit) := (order_Sort_1_t a0).run some
def order_Sort_1_L : List (Nat × LEnt) := []
def order_Sort_1_s : Ent := smF ⟨24, [], [.x (.i .i64)], [], []⟩ [(.i .i64)] (Unit) (fun x => order_Sort_1 x.1) cs1 fun _ => order_Sort_1_o
theorem order_Sort_1_ok : SmOK Try.prog (order_Sort_1_s) :=
  fn_ok (H := order_Sort_1_H) (L := lenv (order_Sort_1_L)) (ts := [(.i .i64)]) (T := fun x => order_Sort_1_t x.1) 0 Try_F24 (order_Sort_1_Eok 0) (lenv_ok (by kernel_rfl) trivial) (rg0 (by kernel_rfl)) fun x => by kernel_rfl
def order_sorter_first_3_H : TH := { live := [(0, [0, 1]), (1, [0, 1, 11, 12]), (2, [0, 1, 11, 12, 13]), (3, [0, 1, 6, 11, 12]), (4, [0, 1, 6, 11, 12, 25]), (5, [4, 5]), (6, [0, 1, 11, 12]), (7, [4, 5])], dec := [21] }
def order_sorter_first_3_E (N : Nat) : List Ent := [order_Sort_1_s]
theorem order_sorter_first_3_Eok (N : Nat) : SmAll Try.prog (order_sorter_first_3_E N) := ⟨order_Sort_1_ok, trivial⟩
abbrev order_sorter_first_3_l2_F := Nat × List (Int × Bool × Nat) × Nat × List (Int × Bool × Nat) × List T_api_Op × List T_api_Op × List T_api_Op × Int
abbrev order_sorter_first_3_l2_Y := (Int × Bool) ⊕ Int
def order_sorter_first_3_l2_o (f : order_sorter_first_3_l2_F) : order_sorter_first_3_l2_Y → Ex × TSt
 | .inl y => (.exit 0, ⟨2, 28, [220, 230, 250, 257, 100050], [(0, .p 250 [] 0), (1, .fn (.func 24) [] []), (11, xi f.2.2.2.2.2.2.2), (12, xi y.1), (13, xb y.2)], [(220, .map f.1 (.i .i64) .b f.2.1), (230, .map f.2.2.1 (.i .i64) .b f.2.2.2.1), (250, .cell false (.ag [.v 100050 f.2.2.2.2.2.1.length, .tv (.sl 71 t_api_Op) f.2.2.2.2.2.2.1, .m 220, .m 230, .v 257 f.2.2.2.2.1.length])), (257, .vec false 71 (.sl 71 t_api_Op) f.2.2.2.2.1), (100050, .vec false 71 (.sl 71 t_api_Op) f.2.2.2.2.2.1)], false, []⟩)
 | .inr y => (.ret, ⟨2, 28, [220, 230, 250, 257, 100050], [(4, xi y), (5, .bc true)], [(220, .map f.1 (.i .i64) .b f.2.1), (230, .map f.2.2.1 (.i .i64) .b f.2.2.2.1), (250, .cell false (.ag [.v 100050 f.2.2.2.2.2.1.length, .tv (.sl 71 t_api_Op) f.2.2.2.2.2.2.1, .m 220, .m 230, .v 257 f.2.2.2.2.1.length])), (257, .vec false 71 (.sl 71 t_api_Op) f.2.2.2.2.1), (100050, .vec false 71 (.sl 71 t_api_Op) f.2.2.2.2.2.1)], false, []⟩)
def order_sorter_first_3_l2_L (N : Nat) : List (Nat × LEnt) := []
abbrev order_sorter_first_3_l2_V := Int
def order_sorter_first_3_l2_p : SP := ⟨2, 28, [220, 230, 250, 257, 100050], [(0, .k (.p 250 [] 0)), (1, .fn 24 [] []), (11, .x (.i .i64)), (12, .x (.i .i64))], [(220, .map (.i .i64) .b), (230, .map (.i .i64) .b), (250, .cell false (.ag [.vs 100050, .x (.sl 71 t_api_Op), .k (.m 220), .k (.m 230), .vs 257])), (257, .vec false 71), (100050, .vec false 71)], false, []⟩
def order_sorter_first_3_l2_h (f : order_sorter_first_3_l2_F) (v : order_sorter_first_3_l2_V) : TSt := fillS order_sorter_first_3_l2_p [dv .nat f.1, dv (entT (.i .i64) .b) f.2.1, dv .nat f.2.2.1, dv (entT (.i .i64) .b) f.2.2.2.1, dv (.sl 71 t_api_Op) f.2.2.2.2.1, dv (.sl 71 t_api_Op) f.2.2.2.2.2.1, dv (.sl 71 t_api_Op) f.2.2.2.2.2.2.1, dv (.i .i64) f.2.2.2.2.2.2.2, dv (.i .i64) v]
def order_sorter_first_3_l2_t (N : Nat) (o_2 : Nat) (o_2_2 : List (Int × Bool × Nat)) (o_2_3 : Nat) (o_2_4 : List (Int × Bool × Nat)) (o_2_5 : List T_api_Op) (o_2_6 : List T_api_Op) (o_2_7 : List T_api_Op) (s11_2 : Int) (v : order_sorter_first_3_l2_V) : Tree (order_sorter_first_3_l2_V ⊕ order_sorter_first_3_l2_Y) :=
 .cond (decide (v < s11_2)) (
 .opt (fnd (β := Bool) (.i .i64) v o_2_2) (
 .chk (in64 (v + 1)) <|
 .ret (.inl (v + 1))) fun e1 =>
 .cond e1.1 (
 .bind (order_Sort_1 v) fun r2 =>
 .ret (.inr (.inr v))) <|
 .chk (in64 (v + 1)) <|
 .ret (.inl (v + 1))) <|
 .ret (.inr (.inl (v, decide (v < s11_2))))
def order_sorter_first_3_l2_n (N n : Nat) (f : order_sorter_first_3_l2_F) (v : order_sorter_first_3_l2_V) : Option order_sorter_first_3_l2_Y := loopG (order_sorter_first_3_l2_t N f.1 f.2.1 f.2.2.1 f.2.2.2.1 f.2.2.2.2.1 f.2.2.2.2.2.1 f.2.2.2.2.2.2.1 f.2.2.2.2.2.2.2) some n v
theorem order_sorter_first_3_l2_q (N : Nat) (f : order_sorter_first_3_l2_F) (n : Nat) (v : order_sorter_first_3_l2_V) (y : order_sorter_first_3_l2_Y) (h : order_sorter_first_3_l2_n N n f v = some y) : LG Try.prog order_sorter_first_3_H 20 (lookC Try_b20 2) (order_sorter_first_3_l2_h f v) (order_sorter_first_3_l2_o f y) :=
  loop_g (E := order_sorter_first_3_E N) (L := lenv (order_sorter_first_3_l2_L N)) (st := order_sorter_first_3_l2_o f) (g := some) (R := order_sorter_first_3_l2_o f) (order_sorter_first_3_Eok N) (lenv_ok (by kernel_rfl) trivial) (rg0 (by kernel_rfl)) (fun v => by kernel_rfl) (good_self (st := order_sorter_first_3_l2_o f) fun y => by rcases y with _ | _ <;> rfl) n v y h
def order_sorter_first_3_l2 (N : Nat) (o_2 : Nat) (o_2_2 : List (Int × Bool × Nat)) (o_2_3 : Nat) (o_2_4 : List (Int × Bool × Nat)) (o_2_5 : List T_api_Op) (o_2_6 : List T_api_Op) (o_2_7 : List T_api_Op) (s11_2 : Int) (s12_2 : Int) : Option order_sorter_first_3_l2_Y := order_sorter_first_3_l2_n N N (o_2, o_2_2, o_2_3, o_2_4, o_2_5, o_2_6, o_2_7, s11_2) s12_2
def order_sorter_first_3_l2_s (N : Nat) : LEnt := smL order_sorter_first_3_l2_p [.nat, (entT (.i .i64) .b), .nat, (entT (.i .i64) .b), (.sl 71 t_api_Op), (.sl 71 t_api_Op), (.sl 71 t_api_Op), (.i .i64), (.i .i64)] order_sorter_first_3_l2_Y (fun x => order_sorter_first_3_l2 N x.1 x.2.1 x.2.2.1 x.2.2.2.1 x.2.2.2.2.1 x.2.2.2.2.2.1 x.2.2.2.2.2.2.1 x.2.2.2.2.2.2.2.1 x.2.2.2.2.2.2.2.2.1) (csS cs1) fun x => order_sorter_first_3_l2_o (x.1, x.2.1, x.2.2.1, x.2.2.2.1, x.2.2.2.2.1, x.2.2.2.2.2.1, x.2.2.2.2.2.2.1, x.2.2.2.2.2.2.2.1)
theorem order_sorter_first_3_l2_ok (N : Nat) : LsOK Try.prog order_sorter_first_3_H 20 (lookC Try_b20 2) (order_sorter_first_3_l2_s N) := smL_ok fun x z h => order_sorter_first_3_l2_q N (x.1, x.2.1, x.2.2.1, x.2.2.2.1, x.2.2.2.2.1, x.2.2.2.2.2.1, x.2.2.2.2.2.2.1, x.2.2.2.2.2.2.2.1) N x.2.2.2.2.2.2.2.2.1 z h
def order_sorter_first_3_o (a0 : Nat) (a1 : List (Int × Bool × Nat)) (a2 : Nat) (a3 : List (Int × Bool × Nat)) (a4 : List T_api_Op) (a5 : List T_api_Op) (a6 : List T_api_Op) (z : Int × Bool) : TV × THp := (.tup [xi z.1, xb z.2], [(220, .map a0 (.i .i64) .b a1), (230, .map a2 (.i .i64) .b a3), (250, .cell false (.ag [.v 100050 a5.length, .tv (.sl 71 t_api_Op) a6, .m 220, .m 230, .v 257 a4.length])), (257, .vec false 71 (.sl 71 t_api_Op) a4), (100050, .vec false 71 (.sl 71 t_api_Op) a5)])
def order_sorter_first_3_t (N : Nat) (a0 : Nat) (a1 : List (Int × Bool × Nat)) (a2 : Nat) (a3 : List (Int × Bool × Nat)) (a4 : List T_api_Op) (a5 : List T_api_Op) (a6 : List T_api_Op) : Tree (Int × Bool) :=
 .bind (chkLs [(a5.length, a5.length), (a4.length, a4.length)] (order_sorter_first_3_l2 N a0 a1 a2 a3 a4 a5 a6 ((a5.length : Nat) : Int) 0)) fun z1 =>
 .sum z1 (fun z2 =>
 .ret (0, false)) fun z2 =>
 .ret (z2, true)
def order_sorter_first_3 (N : Nat) (a0 : Nat) (a1 : List (Int × Bool × Nat)) (a2 : Nat) (a3 : List (Int × Bool × Nat)) (a4 : List T_api_Op) (a5 : List T_api_Op) (a6 : List T_api_Op) : Option (Int × Bool) := (order_sorter_first_3_t N a0 a1 a2 a3 a4 a5 a6).run some
def order_sorter_first_3_L (N : Nat) : List (Nat × LEnt) := [(2, order_sorter_first_3_l2_s N)]
def order_sorter_first_3_s (N : Nat) : Ent := smF ⟨20, [], [.k (.p 250 [] 0), .fn 24 [] []], [], [(220, .map (.i .i64) .b), (230, .map (.i .i64) .b), (250, .cell false (.ag [.vs 100050, .x (.sl 71 t_api_Op), .k (.m 220), .k (.m 230), .vs 257])), (257, .vec false 71), (100050, .vec false 71)]⟩ [.nat, (entT (.i .i64) .b), .nat, (entT (.i .i64) .b), (.sl 71 t_api_Op), (.sl 71 t_api_Op), (.sl 71 t_api_Op)] (Int × Bool) (fun x => order_sorter_first_3 N x.1 x.2.1 x.2.2.1 x.2.2.2.1 x.2.2.2.2.1 x.2.2.2.2.2.1 x.2.2.2.2.2.2.1) cs1 fun x => order_sorter_first_3_o x.1 x.2.1 x.2.2.1 x.2.2.2.1 x.2.2.2.2.1 x.2.2.2.2.2.1 x.2.2.2.2.2.2.1
theorem order_sorter_first_3_ok (N : Nat) : SmOK Try.prog (order_sorter_first_3_s N) :=
  fn_ok (H := order_sorter_first_3_H) (L := lenv (order_sorter_first_3_L N)) (ts := [.nat, (entT (.i .i64) .b), .nat, (entT (.i .i64) .b), (.sl 71 t_api_Op), (.sl 71 t_api_Op), (.sl 71 t_api_Op)]) (T := fun x => order_sorter_first_3_t N x.1 x.2.1 x.2.2.1 x.2.2.2.1 x.2.2.2.2.1 x.2.2.2.2.2.1 x.2.2.2.2.2.2.1) 1 Try_F20 (order_sorter_first_3_Eok N) (lenv_ok (by kernel_rfl) ⟨order_sorter_first_3_l2_ok N, trivial⟩) (rg0 (by kernel_rfl)) fun x => by kernel_rfl
noncomputable def Try_b12 : Code := Try.f12.body.getD .skip
theorem Try_F12 : FnF Try.prog 12 Try.f12 Try_b12 := ⟨Try_draw, by kernel_rfl, by kernel_rfl, by kernel_rfl⟩
def order_Sort_H : TH := { live := [(0, [0, 1]), (1, [0, 1, 18]), (2, [4]), (3, [0, 5]), (4, [5, 27, 28]), (5, [5, 27, 28, 29]), (6, [5, 6, 27, 28]), (7, [5, 27, 28]), (8, [5, 27, 28]), (9, [5, 7, 8]), (10, [5, 7, 44]), (11, [5]), (12, [5, 7, 8]), (13, [5, 7, 55]), (14, [5]), (15, [5, 7, 8]), (16, [5, 7, 82]), (17, [5]), (18, [4])], dec := [14], fresh := [20], nil := [(3, [⟨.ob 250 [4], 257, (.sl 71 t_api_Op)⟩])] }
def order_Sort_E (N : Nat) : List Ent := [slices_Clone_OpW_s, order_sorter_first_s N, order_sorter_next_s, order_sorter_first_2_s N, order_sorter_first_3_s N]
theorem order_Sort_Eok (N : Nat) : SmAll Try.prog (order_Sort_E N) := ⟨slices_Clone_OpW_ok, order_sorter_first_ok N, order_sorter_next_ok, order_sorter_first_2_ok N, order_sorter_first_3_ok N, trivial⟩
abbrev order_Sort_l5_F := Nat × List (Int × Bool × Nat) × List T_api_Op × List T_api_Op × List T_api_Op × Int
abbrev order_Sort_l5_Y := Nat × List (Int × Bool × Nat) × Int × Bool
def order_Sort_l5_o (f : order_Sort_l5_F) (y : order_Sort_l5_Y) : Ex × TSt := (.exit 0, ⟨0, 90, [], [(5, .p 250 [] 0), (27, xi f.2.2.2.2.2), (28, xi y.2.2.1), (29, xb y.2.2.2)], [(220, .map y.1 (.i .i64) .b (y.2.1 : List (Int × Bool × Nat))), (230, .map f.1 (.i .i64) .b f.2.1), (250, .cell false (.ag [.v 100050 f.2.2.2.1.length, .tv (.sl 71 t_api_Op) f.2.2.2.2.1, .m 220, .m 230, .v 257 f.2.2.1.length])), (257, .vec false 71 (.sl 71 t_api_Op) f.2.2.1), (100050, .vec false 71 (.sl 71 t_api_Op) f.2.2.2.1)], false, []⟩)
def order_Sort_l5_L (N : Nat) : List (Nat × LEnt) := []
abbrev order_Sort_l5_V := Nat × List (Int × Bool × Nat) × Int
def order_Sort_l5_p : SP := ⟨0, 90, [], [(5, .k (.p 250 [] 0)), (27, .x (.i .i64)), (28, .x (.i .i64))], [(220, .map (.i .i64) .b), (230, .map (.i .i64) .b), (250, .cell false (.ag [.vs 100050, .x (.sl 71 t_api_Op), .k (.m 220), .k (.m 230), .vs 257])), (257, .vec false 71), (100050, .vec false 71)], false, []⟩
def order_Sort_l5_h (f : order_Sort_l5_F) (v : order_Sort_l5_V) : TSt := fillS order_Sort_l5_p [dv .nat v.1, dv (entT (.i .i64) .b) v.2.1, dv .nat f.1, dv (entT (.i .i64) .b) f.2.1, dv (.sl 71 t_api_Op) f.2.2.1, dv (.sl 71 t_api_Op) f.2.2.2.1, dv (.sl 71 t_api_Op) f.2.2.2.2.1, dv (.i .i64) f.2.2.2.2.2, dv (.i .i64) v.2.2]
def order_Sort_l5_t (N : Nat) (o_5_3 : Nat) (o_5_4 : List (Int × Bool × Nat)) (o_5_5 : List T_api_Op) (o_5_6 : List T_api_Op) (o_5_7 : List T_api_Op) (s27_5 : Int) (v : order_Sort_l5_V) : Tree (order_Sort_l5_V ⊕ order_Sort_l5_Y) :=
 .cond (decide (v.2.2 < s27_5)) (
 .chk (in64 (v.2.2 + 1)) <|
 .ret (.inl ((putE (.i .i64) v.2.2 true v.1 v.2.1).1, (putE (.i .i64) v.2.2 true v.1 v.2.1).2, v.2.2 + 1))) <|
 .ret (.inr (v.1, v.2.1, v.2.2, decide (v.2.2 < s27_5)))
def order_Sort_l5_n (N n : Nat) (f : order_Sort_l5_F) (v : order_Sort_l5_V) : Option order_Sort_l5_Y := loopG (order_Sort_l5_t N f.1 f.2.1 f.2.2.1 f.2.2.2.1 f.2.2.2.2.1 f.2.2.2.2.2) some n v
theorem order_Sort_l5_q (N : Nat) (f : order_Sort_l5_F) (n : Nat) (v : order_Sort_l5_V) (y : order_Sort_l5_Y) (h : order_Sort_l5_n N n f v = some y) : LG Try.prog order_Sort_H 12 (lookC Try_b12 5) (order_Sort_l5_h f v) (order_Sort_l5_o f y) :=
  loop_g (E := order_Sort_E N) (L := lenv (order_Sort_l5_L N)) (st := order_Sort_l5_o f) (g := some) (R := order_Sort_l5_o f) (order_Sort_Eok N) (lenv_ok (by kernel_rfl) trivial) (rg0 (by kernel_rfl)) (fun v => by kernel_rfl) (good_self (st := order_Sort_l5_o f) fun y => by rfl) n v y h
def order_Sort_l5 (N : Nat) (o_5_3 : Nat) (o_5_4 : List (Int × Bool × Nat)) (o_5_5 : List T_api_Op) (o_5_6 : List T_api_Op) (o_5_7 : List T_api_Op) (s27_5 : Int) (o_5 : Nat) (o_5_2 : List (Int × Bool × Nat)) (s28_5 : Int) : Option order_Sort_l5_Y := order_Sort_l5_n N N (o_5_3, o_5_4, o_5_5, o_5_6, o_5_7, s27_5) (o_5, o_5_2, s28_5)
def order_Sort_l5_s (N : Nat) : LEnt := smL order_Sort_l5_p [.nat, (entT (.i .i64) .b), .nat, (entT (.i .i64) .b), (.sl 71 t_api_Op), (.sl 71 t_api_Op), (.sl 71 t_api_Op), (.i .i64), (.i .i64)] order_Sort_l5_Y (fun x => order_Sort_l5 N x.2.2.1 x.2.2.2.1 x.2.2.2.2.1 x.2.2.2.2.2.1 x.2.2.2.2.2.2.1 x.2.2.2.2.2.2.2.1 x.1 x.2.1 x.2.2.2.2.2.2.2.2.1) cs1 fun x => order_Sort_l5_o (x.2.2.1, x.2.2.2.1, x.2.2.2.2.1, x.2.2.2.2.2.1, x.2.2.2.2.2.2.1, x.2.2.2.2.2.2.2.1)
theorem order_Sort_l5_ok (N : Nat) : LsOK Try.prog order_Sort_H 12 (lookC Try_b12 5) (order_Sort_l5_s N) := smL_ok fun x z h => order_Sort_l5_q N (x.2.2.1, x.2.2.2.1, x.2.2.2.2.1, x.2.2.2.2.2.1, x.2.2.2.2.2.2.1, x.2.2.2.2.2.2.2.1) N (x.1, x.2.1, x.2.2.2.2.2.2.2.2.1) z h
abbrev order_Sort_l9_F := Nat × List T_api_Op
abbrev order_Sort_l9_Y := List (Int × Bool × Nat) × Nat × List (Int × Bool × Nat) × List T_api_Op × List T_api_Op × Nat × Int × Bool
def order_Sort_l9_o (f : order_Sort_l9_F) (y : order_Sort_l9_Y) : Ex × TSt := (.exit 2, ⟨0, 90, [], [(5, .p 250 [] 0), (7, xi y.2.2.2.2.2.2.1), (82, xb y.2.2.2.2.2.2.2)], [(220, .map f.1 (.i .i64) .b (y.1 : List (Int × Bool × Nat))), (230, .map y.2.1 (.i .i64) .b (y.2.2.1 : List (Int × Bool × Nat))), (250, .cell false (.ag [.v 100050 y.2.2.2.2.2.1, .tv (.sl 71 t_api_Op) f.2, .m 220, .m 230, .v 257 y.2.2.2.1.length])), (257, .vec false 71 (.sl 71 t_api_Op) (y.2.2.2.1 : List T_api_Op)), (100050, .vec false 71 (.sl 71 t_api_Op) (y.2.2.2.2.1 : List T_api_Op))], false, []⟩)
def order_Sort_l9_L (N : Nat) : List (Nat × LEnt) := []
abbrev order_Sort_l9_V := List (Int × Bool × Nat) × Nat × List (Int × Bool × Nat) × List T_api_Op × List T_api_Op × Nat
def order_Sort_l9_p : SP := ⟨0, 90, [], [(5, .k (.p 250 [] 0))], [(220, .map (.i .i64) .b), (230, .map (.i .i64) .b), (250, .cell false (.ag [.v 100050, .x (.sl 71 t_api_Op), .k (.m 220), .k (.m 230), .vs 257])), (257, .vec false 71), (100050, .vec false 71)], false, []⟩
def order_Sort_l9_h (f : order_Sort_l9_F) (v : order_Sort_l9_V) : TSt := fillS order_Sort_l9_p [dv .nat f.1, dv (entT (.i .i64) .b) v.1, dv .nat v.2.1, dv (entT (.i .i64) .b) v.2.2.1, dv (.sl 71 t_api_Op) v.2.2.2.1, dv (.sl 71 t_api_Op) v.2.2.2.2.1, dv .nat v.2.2.2.2.2, dv (.sl 71 t_api_Op) f.2]
def order_Sort_l9_t (N : Nat) (o_9 : Nat) (o_9_8 : List T_api_Op) (v : order_Sort_l9_V) : Tree (order_Sort_l9_V ⊕ order_Sort_l9_Y) :=
 .bind (chkLs [(v.2.2.2.2.1.length, v.2.2.2.2.2), (v.2.2.2.1.length, v.2.2.2.1.length)] (order_sorter_first N o_9 v.1 v.2.1 v.2.2.1 v.2.2.2.1 v.2.2.2.2.1 o_9_8)) fun r1 =>
 .cond r1.2 (
 .bind (chkLs [(v.2.2.2.2.1.length, v.2.2.2.2.1.length), (v.2.2.2.1.length, v.2.2.2.1.length)] (order_sorter_next o_9 v.1 v.2.1 v.2.2.1 v.2.2.2.1 v.2.2.2.2.1 o_9_8 r1.1)) fun r2 =>
 .ret (.inl (delE (β := Bool) (.i .i64) r1.1 v.1, v.2.1, v.2.2.1, r2, v.2.2.2.2.1, v.2.2.2.2.1.length))) <|
 .bind (chkLs [(v.2.2.2.2.1.length, v.2.2.2.2.1.length), (v.2.2.2.1.length, v.2.2.2.1.length)] (order_sorter_first_2 N o_9 v.1 v.2.1 v.2.2.1 v.2.2.2.1 v.2.2.2.2.1 o_9_8)) fun r2 =>
 .cond r2.2 (
 .bind (getI o_9_8 r2.1) fun e3 =>
 .chk (0 ≤ r2.1 ∧ r2.1 < ((v.2.2.2.2.1.length : Nat) : Int)) <|
 .chk (vecOK v.2.2.2.2.1.length v.2.2.2.2.1.length r2.1.toNat) <|
 .opt (fnd (β := Bool) (.i .i64) r2.1 v.2.2.1) (
 .bind (atM ((v.2.1 : Nat) : Int) true ((putE (.i .i64) r2.1 false v.2.1 v.2.2.1).2)) fun m5 =>
 .ret (.inl (v.1, (putE (.i .i64) r2.1 false v.2.1 v.2.2.1).1, m5, v.2.2.2.1, v.2.2.2.2.1.set r2.1.toNat e3, v.2.2.2.2.1.length))) fun e4 =>
 .bind (atM ((e4.2 : Nat) : Int) true ((putE (.i .i64) r2.1 e4.1 v.2.1 v.2.2.1).2)) fun m5 =>
 .ret (.inl (v.1, (putE (.i .i64) r2.1 e4.1 v.2.1 v.2.2.1).1, m5, v.2.2.2.1, v.2.2.2.2.1.set r2.1.toNat e3, v.2.2.2.2.1.length))) <|
 .bind (chkLs [(v.2.2.2.2.1.length, v.2.2.2.2.1.length), (v.2.2.2.1.length, v.2.2.2.1.length)] (order_sorter_first_3 N o_9 v.1 v.2.1 v.2.2.1 v.2.2.2.1 v.2.2.2.2.1 o_9_8)) fun r3 =>
 .cond (!r3.2) (
 .ret (.inr (v.1, v.2.1, v.2.2.1, v.2.2.2.1, v.2.2.2.2.1, v.2.2.2.2.1.length, r3.1, !r3.2))) <|
 .bind (chkLs [(v.2.2.2.2.1.length, v.2.2.2.2.1.length), (v.2.2.2.1.length, v.2.2.2.1.length)] (order_sorter_next o_9 v.1 v.2.1 v.2.2.1 v.2.2.2.1 v.2.2.2.2.1 o_9_8 r3.1)) fun r4 =>
 .ret (.inl (delE (β := Bool) (.i .i64) r3.1 v.1, v.2.1, v.2.2.1, r4, v.2.2.2.2.1, v.2.2.2.2.1.length))
def order_Sort_l9_n (N n : Nat) (f : order_Sort_l9_F) (v : order_Sort_l9_V) : Option order_Sort_l9_Y := loopG (order_Sort_l9_t N f.1 f.2) some n v
theorem order_Sort_l9_q (N : Nat) (f : order_Sort_l9_F) (n : Nat) (v : order_Sort_l9_V) (y : order_Sort_l9_Y) (h : order_Sort_l9_n N n f v = some y) : LG Try.prog order_Sort_H 12 (lookC Try_b12 9) (order_Sort_l9_h f v) (order_Sort_l9_o f y) :=
  loop_g (E := order_Sort_E N) (L := lenv (order_Sort_l9_L N)) (st := order_Sort_l9_o f) (g := some) (R := order_Sort_l9_o f) (order_Sort_Eok N) (lenv_ok (by kernel_rfl) trivial) (rg0 (by kernel_rfl)) (fun v => by kernel_rfl) (good_self (st := order_Sort_l9_o f) fun y => by rfl) n v y h
def order_Sort_l9 (N : Nat) (o_9 : Nat) (o_9_8 : List T_api_Op) (o_9_2 : List (Int × Bool × Nat)) (o_9_3 : Nat) (o_9_4 : List (Int × Bool × Nat)) (o_9_5 : List T_api_Op) (o_9_6 : List T_api_Op) (o_9_7 : Nat) : Option order_Sort_l9_Y := order_Sort_l9_n N N (o_9, o_9_8) (o_9_2, o_9_3, o_9_4, o_9_5, o_9_6, o_9_7)
def order_Sort_l9_s (N : Nat) : LEnt := smL order_Sort_l9_p [.nat, (entT (.i .i64) .b), .nat, (entT (.i .i64) .b), (.sl 71 t_api_Op), (.sl 71 t_api_Op), .nat, (.sl 71 t_api_Op)] order_Sort_l9_Y (fun x => order_Sort_l9 N x.1 x.2.2.2.2.2.2.2.1 x.2.1 x.2.2.1 x.2.2.2.1 x.2.2.2.2.1 x.2.2.2.2.2.1 x.2.2.2.2.2.2.1) cs1 fun x => order_Sort_l9_o (x.1, x.2.2.2.2.2.2.2.1)
theorem order_Sort_l9_ok (N : Nat) : LsOK Try.prog order_Sort_H 12 (lookC Try_b12 9) (order_Sort_l9_s N) := smL_ok fun x z h => order_Sort_l9_q N (x.1, x.2.2.2.2.2.2.2.1) N (x.2.1, x.2.2.1, x.2.2.2.1, x.2.2.2.2.1, x.2.2.2.2.2.1, x.2.2.2.2.2.2.1) z h
def order_Sort_o (z : List T_api_Op) : TV × THp := (.tv (.sl 71 t_api_Op) z, [])
def order_Sort_t (N : Nat) (a0 : List T_api_Op) (a1 : List T_api_Op) : Tree (List T_api_Op) :=
 .cond (!decide (((a0.length : Nat) : Int) = ((a1.length : Nat) : Int))) (
 .ret []) <|
 .cond (decide (((120 : Int)) < ((a0.length : Nat) : Int))) (
 .ret []) <|
 .bind (slices_Clone_OpW a0) fun r1 =>
 .bind (chkLs [(((([] : List T_api_Op)) ++ a0).length, ((([] : List T_api_Op)) ++ a0).length), (([] : List T_api_Op).length, 0)] (order_Sort_l5 N 0 [] [] ((([] : List T_api_Op)) ++ a0) a1 ((a0.length : Nat) : Int) 0 [] 0)) fun z2 =>
 .bind (chkLs [(([] : List T_api_Op).length, 0)] (order_Sort_l9 N z2.1 a1 z2.2.1 0 [] [] ((([] : List T_api_Op)) ++ a0) (((([] : List T_api_Op)) ++ a0).length))) fun z3 =>
 .chk (z3.2.2.2.1.length = z3.2.2.2.1.length) <|
 .ret z3.2.2.2.1
def order_Sort (N : Nat) (a0 : List T_api_Op) (a1 : List T_api_Op) : Option (List T_api_Op) := (order_Sort_t N a0 a1).run some
def order_Sort_L (N : Nat) : List (Nat × LEnt) := [(5, order_Sort_l5_s N), (9, order_Sort_l9_s N)]
def order_Sort_s (N : Nat) : Ent := smF ⟨12, [], [.x (.sl 71 t_api_Op), .x (.sl 71 t_api_Op)], [], []⟩ [(.sl 71 t_api_Op), (.sl 71 t_api_Op)] (List T_api_Op) (fun x => order_Sort N x.1 x.2.1) cs1 fun _ => order_Sort_o
theorem order_Sort_ok (N : Nat) : SmOK Try.prog (order_Sort_s N) :=
  fn_ok (H := order_Sort_H) (L := lenv (order_Sort_L N)) (ts := [(.sl 71 t_api_Op), (.sl 71 t_api_Op)]) (T := fun x => order_Sort_t N x.1 x.2.1) 0 Try_F12 (order_Sort_Eok N) (lenv_ok (by kernel_rfl) ⟨order_Sort_l5_ok N, order_Sort_l9_ok N, trivial⟩) (rg0 (by kernel_rfl)) fun x => by kernel_rfl
noncomputable def Try_b27 : Code := Try.f27.body.getD .skip
theorem Try_F27 : FnF Try.prog 27 Try.f27 Try_b27 := ⟨Try_draw, by kernel_rfl, by kernel_rfl, by kernel_rfl⟩
def slices_Chunk_Op_H : TH := { live := [(0, [2, 3]), (1, [2, 3, 6]), (2, [2, 3]), (3, [4])], esc := true }
def slices_Chunk_Op_E (N : Nat) : List Ent := []
theorem slices_Chunk_Op_Eok (N : Nat) : SmAll Try.prog (slices_Chunk_Op_E N) := trivial
def slices_Chunk_Op_o (a0 : List T_api_Op) (a1 : Int) (z : Unit) : TV × THp := (.fn (.func 31) [] [.p 100020 [] 0, .p 100030 [] 0], [(100020, .cell false (.tv (.sl 71 t_api_Op) a0)), (100030, .cell false (xi a1))])
def slices_Chunk_Op_t (a0 : List T_api_Op) (a1 : Int) : Tree (Unit) :=
 .cond (decide (a1 < ((1 : Int)))) (
 .no) <|
 .ret ()
def slices_Chunk_Op (a0 : List T_api_Op) (a1 : Int) : Option (Unit) := (slices_Chunk_Op_t a0 a1).run some
def slices_Chunk_Op_L : List (Nat × LEnt) := []
def slices_Chunk_Op_s : Ent := smF ⟨27, [], [.x (.sl 71 t_api_Op), .x (.i .i64)], [], []⟩ [(.sl 71 t_api_Op), (.i .i64)] (Unit) (fun x => slices_Chunk_Op x.1 x.2.1) cs1 fun x => slices_Chunk_Op_o x.1 x.2.1
theorem slices_Chunk_Op_ok : SmOK Try.prog (slices_Chunk_Op_s) :=
  fn_ok (H := slices_Chunk_Op_H) (L := lenv (slices_Chunk_Op_L)) (ts := [(.sl 71 t_api_Op), (.i .i64)]) (T := fun x => slices_Chunk_Op_t x.1 x.2.1) 0 Try_F27 (slices_Chunk_Op_Eok 0) (lenv_ok (by kernel_rfl) trivial) (rg0 (by kernel_rfl)) fun x => by kernel_rfl
def round_order_Split_3_H : TH := { live := [(0, [0]), (1, [0, 3]), (2, [3, 9]), (3, [3, 4]), (4, [3, 4, 5]), (5, [3, 5, 11, 12, 13]), (6, [3, 5, 11, 12, 13, 14]), (7, [3, 5, 7, 11, 12, 13]), (8, [3, 5, 11, 12, 13]), (9, [3, 5, 11, 12, 13]), (11, [2])], fresh := [9], nil := [(4, [⟨.sl 5, 200055, (.sl 71 t_api_Op)⟩])] }
def round_order_Split_3_E (N : Nat) : List Ent := [order_own_s]
theorem round_order_Split_3_Eok (N : Nat) : SmAll Try.prog (round_order_Split_3_E N) := ⟨order_own_ok, trivial⟩
abbrev round_order_Split_3_l6_F := List T_api_Op × Int × List T_api_Op × Int
abbrev round_order_Split_3_l6_Y := List T_api_Op × Int × Bool
def round_order_Split_3_l6_o (f : round_order_Split_3_l6_F) (y : round_order_Split_3_l6_Y) : Ex × TSt := (.exit 2, ⟨2, 28, [30, 50030, 50031, 100020, 100030], [(3, .p 30 [] 0), (5, .v 200055 y.1.length), (11, .tv (.sl 71 t_api_Op) f.2.2.1), (12, xi f.2.2.2), (13, xi y.2.1), (14, xb y.2.2)], [(30, .cell false .nils), (50030, .loop [10] 28 [(3, .p 30 [] 0), (9, .fn (.func 31) [] [.p 100020 [] 0, .p 100030 [] 0])] 1400003 14 .busy none 50031), (50031, .dfr true), (100020, .cell false (.tv (.sl 71 t_api_Op) f.1)), (100030, .cell false (xi f.2.1)), (200055, .vec false 71 (.sl 71 t_api_Op) (y.1 : List T_api_Op))], true, []⟩)
def round_order_Split_3_l6_L (N : Nat) : List (Nat × LEnt) := []
abbrev round_order_Split_3_l6_V := List T_api_Op × Int
def round_order_Split_3_l6_p : SP := ⟨2, 28, [30, 50030, 50031, 100020, 100030], [(3, .k (.p 30 [] 0)), (5, .vs 200055), (11, .x (.sl 71 t_api_Op)), (12, .x (.i .i64)), (13, .x (.i .i64))], [(30, .cell false (.k .nils)), (50030, .loop [10] 28 [(3, .k (.p 30 [] 0)), (9, .fn 31 [] [.k (.p 100020 [] 0), .k (.p 100030 [] 0)])] 1400003 14 .busy none 50031), (50031, .dfr true), (100020, .cell false (.x (.sl 71 t_api_Op))), (100030, .cell false (.x (.i .i64))), (200055, .vec false 71)], true, []⟩
def round_order_Split_3_l6_h (f : round_order_Split_3_l6_F) (v : round_order_Split_3_l6_V) : TSt := fillS round_order_Split_3_l6_p [dv (.sl 71 t_api_Op) v.1, dv (.sl 71 t_api_Op) f.1, dv (.i .i64) f.2.1, dv (.sl 71 t_api_Op) f.2.2.1, dv (.i .i64) f.2.2.2, dv (.i .i64) v.2]
def round_order_Split_3_l6_t (N : Nat) (o_6_2 : List T_api_Op) (o_6_3 : Int) (s11_6 : List T_api_Op) (s12_6 : Int) (v : round_order_Split_3_l6_V) : Tree (round_order_Split_3_l6_V ⊕ round_order_Split_3_l6_Y) :=
 .cond (decide (v.2 < s12_6)) (
 .bind (getI s11_6 v.2) fun e1 =>
 .bind (order_own e1) fun r2 =>
 .chk (avOK v.1.length v.1.length ((v.1 ++ [T_api_Op.mk (T_api_Op.Kind e1) (T_api_Op.ID e1) (T_api_Op.S e1) (T_api_Op.No e1) (T_api_Op.V e1) ((([] : List T_api_Piece)) ++ (T_api_Op.P e1)) (T_api_Op.From e1) (T_api_Op.FromNo e1) (T_api_Op.D e1)]).length) 144) <|
 .chk (in64 (v.2 + 1)) <|
 .ret (.inl (v.1 ++ [T_api_Op.mk (T_api_Op.Kind e1) (T_api_Op.ID e1) (T_api_Op.S e1) (T_api_Op.No e1) (T_api_Op.V e1) ((([] : List T_api_Piece)) ++ (T_api_Op.P e1)) (T_api_Op.From e1) (T_api_Op.FromNo e1) (T_api_Op.D e1)], v.2 + 1))) <|
 .ret (.inr (v.1, v.2, decide (v.2 < s12_6)))
def round_order_Split_3_l6_n (N n : Nat) (f : round_order_Split_3_l6_F) (v : round_order_Split_3_l6_V) : Option round_order_Split_3_l6_Y := loopG (round_order_Split_3_l6_t N f.1 f.2.1 f.2.2.1 f.2.2.2) some n v
theorem round_order_Split_3_l6_q (N : Nat) (f : round_order_Split_3_l6_F) (n : Nat) (v : round_order_Split_3_l6_V) (y : round_order_Split_3_l6_Y) (h : round_order_Split_3_l6_n N n f v = some y) : LG Try.prog round_order_Split_3_H 14 (lookC (CT.ct 1400003).2 6) (round_order_Split_3_l6_h f v) (round_order_Split_3_l6_o f y) :=
  loop_g (E := round_order_Split_3_E N) (L := lenv (round_order_Split_3_l6_L N)) (st := round_order_Split_3_l6_o f) (g := some) (R := round_order_Split_3_l6_o f) (round_order_Split_3_Eok N) (lenv_ok (by kernel_rfl) trivial) (rg0 (by kernel_rfl)) (fun v => by kernel_rfl) (good_self (st := round_order_Split_3_l6_o f) fun y => by rfl) n v y h
def round_order_Split_3_l6 (N : Nat) (o_6_2 : List T_api_Op) (o_6_3 : Int) (s11_6 : List T_api_Op) (s12_6 : Int) (o_6 : List T_api_Op) (s13_6 : Int) : Option round_order_Split_3_l6_Y := round_order_Split_3_l6_n N N (o_6_2, o_6_3, s11_6, s12_6) (o_6, s13_6)
def round_order_Split_3_l6_s (N : Nat) : LEnt := smL round_order_Split_3_l6_p [(.sl 71 t_api_Op), (.sl 71 t_api_Op), (.i .i64), (.sl 71 t_api_Op), (.i .i64), (.i .i64)] round_order_Split_3_l6_Y (fun x => round_order_Split_3_l6 N x.2.1 x.2.2.1 x.2.2.2.1 x.2.2.2.2.1 x.1 x.2.2.2.2.2.1) cs1 fun x => round_order_Split_3_l6_o (x.2.1, x.2.2.1, x.2.2.2.1, x.2.2.2.2.1)
theorem round_order_Split_3_l6_ok (N : Nat) : LsOK Try.prog round_order_Split_3_H 14 (lookC (CT.ct 1400003).2 6) (round_order_Split_3_l6_s N) := smL_ok fun x z h => round_order_Split_3_l6_q N (x.2.1, x.2.2.1, x.2.2.2.1, x.2.2.2.2.1) N (x.1, x.2.2.2.2.2.1) z h
def round_order_Split_3_o (a0 : List T_api_Op) (a1 : Int) (z : List (List T_api_Op)) : TV × THp := (.bc true, [(30, .cell false (.v 200260 z.length)), (50030, .loop [10] 28 [(3, .p 30 [] 0), (9, .fn (.func 31) [] [.p 100020 [] 0, .p 100030 [] 0])] 1400003 14 .ready none 50031), (50031, .dfr true), (100020, .cell false (.tv (.sl 71 t_api_Op) a0)), (100030, .cell false (xi a1)), (200260, .vec false 1 (.sl 1 (.sl 71 t_api_Op)) z)])
def round_order_Split_3_t (N : Nat) (a0 : List T_api_Op) (a1 : Int) (a2 : List T_api_Op) : Tree (List (List T_api_Op)) :=
 .bind (chkLs [(([] : List T_api_Op).length, 0)] (round_order_Split_3_l6 N a0 a1 a2 ((a2.length : Nat) : Int) [] 0)) fun z1 =>
 .chk (z1.1.length = z1.1.length) <|
 .chk (apOK 1 24) <|
 .ret [z1.1]
def round_order_Split_3 (N : Nat) (a0 : List T_api_Op) (a1 : Int) (a2 : List T_api_Op) : Option (List (List T_api_Op)) := (round_order_Split_3_t N a0 a1 a2).run some
def round_order_Split_3_L (N : Nat) : List (Nat × LEnt) := [(6, round_order_Split_3_l6_s N)]
def round_order_Split_3_s (N : Nat) : Ent := smR 50030 [.x (.sl 71 t_api_Op)] [(30, .cell false (.k .nils)), (50030, .loop [10] 28 [(3, .k (.p 30 [] 0)), (9, .fn 31 [] [.k (.p 100020 [] 0), .k (.p 100030 [] 0)])] 1400003 14 .ready none 50031), (50031, .dfr true), (100020, .cell false (.x (.sl 71 t_api_Op))), (100030, .cell false (.x (.i .i64)))] [(.sl 71 t_api_Op), (.i .i64), (.sl 71 t_api_Op)] (List (List T_api_Op)) (fun x => round_order_Split_3 N x.1 x.2.1 x.2.2.1) cs1 fun x => round_order_Split_3_o x.1 x.2.1
theorem round_order_Split_3_ok (N : Nat) : SmOK Try.prog (round_order_Split_3_s N) :=
  rd_ok (H := round_order_Split_3_H) (L := lenv (round_order_Split_3_L N)) (ts := [(.sl 71 t_api_Op), (.i .i64), (.sl 71 t_api_Op)]) (T := fun x => round_order_Split_3_t N x.1 x.2.1 x.2.2.1) (K := 14) (cid := 1400003) 2 Try_draw (round_order_Split_3_Eok N) (by kernel_rfl) (lenv_ok (by kernel_rfl) ⟨round_order_Split_3_l6_ok N, trivial⟩) (rg0 (by kernel_rfl)) (rg0 (by kernel_rfl)) (fun x => by kernel_rfl) fun x => by kernel_rfl
def round_order_Split_3_2_H : TH := { live := [(0, [0]), (1, [0, 3]), (2, [3, 9]), (3, [3, 4]), (4, [3, 4, 5]), (5, [3, 5, 11, 12, 13]), (6, [3, 5, 11, 12, 13, 14]), (7, [3, 5, 7, 11, 12, 13]), (8, [3, 5, 11, 12, 13]), (9, [3, 5, 11, 12, 13]), (11, [2])], fresh := [9], nil := [(4, [⟨.sl 5, 300055, (.sl 71 t_api_Op)⟩])] }
def round_order_Split_3_2_E (N : Nat) : List Ent := [order_own_s]
theorem round_order_Split_3_2_Eok (N : Nat) : SmAll Try.prog (round_order_Split_3_2_E N) := ⟨order_own_ok, trivial⟩
abbrev round_order_Split_3_2_l6_F := List (List T_api_Op) × List T_api_Op × Int × List T_api_Op × Int
abbrev round_order_Split_3_2_l6_Y := List T_api_Op × Int × Bool
def round_order_Split_3_2_l6_o (f : round_order_Split_3_2_l6_F) (y : round_order_Split_3_2_l6_Y) : Ex × TSt := (.exit 2, ⟨3, 28, [30, 50030, 50031, 100020, 100030, 200260], [(3, .p 30 [] 0), (5, .v 300055 y.1.length), (11, .tv (.sl 71 t_api_Op) f.2.2.2.1), (12, xi f.2.2.2.2), (13, xi y.2.1), (14, xb y.2.2)], [(30, .cell false (.v 200260 f.1.length)), (50030, .loop [10] 28 [(3, .p 30 [] 0), (9, .fn (.func 31) [] [.p 100020 [] 0, .p 100030 [] 0])] 1400003 14 .busy none 50031), (50031, .dfr true), (100020, .cell false (.tv (.sl 71 t_api_Op) f.2.1)), (100030, .cell false (xi f.2.2.1)), (200260, .vec false 1 (.sl 1 (.sl 71 t_api_Op)) f.1), (300055, .vec false 71 (.sl 71 t_api_Op) (y.1 : List T_api_Op))], true, []⟩)
def round_order_Split_3_2_l6_L (N : Nat) : List (Nat × LEnt) := []
abbrev round_order_Split_3_2_l6_V := List T_api_Op × Int
def round_order_Split_3_2_l6_p : SP := ⟨3, 28, [30, 50030, 50031, 100020, 100030, 200260], [(3, .k (.p 30 [] 0)), (5, .vs 300055), (11, .x (.sl 71 t_api_Op)), (12, .x (.i .i64)), (13, .x (.i .i64))], [(30, .cell false (.vs 200260)), (50030, .loop [10] 28 [(3, .k (.p 30 [] 0)), (9, .fn 31 [] [.k (.p 100020 [] 0), .k (.p 100030 [] 0)])] 1400003 14 .busy none 50031), (50031, .dfr true), (100020, .cell false (.x (.sl 71 t_api_Op))), (100030, .cell false (.x (.i .i64))), (200260, .vec false 1), (300055, .vec false 71)], true, []⟩
def round_order_Split_3_2_l6_h (f : round_order_Split_3_2_l6_F) (v : round_order_Split_3_2_l6_V) : TSt := fillS round_order_Split_3_2_l6_p [dv (.sl 1 (.sl 71 t_api_Op)) f.1, dv (.sl 71 t_api_Op) v.1, dv (.sl 71 t_api_Op) f.2.1, dv (.i .i64) f.2.2.1, dv (.sl 71 t_api_Op) f.2.2.2.1, dv (.i .i64) f.2.2.2.2, dv (.i .i64) v.2]
def round_order_Split_3_2_l6_t (N : Nat) (o_6 : List (List T_api_Op)) (o_6_3 : List T_api_Op) (o_6_4 : Int) (s11_6 : List T_api_Op) (s12_6 : Int) (v : round_order_Split_3_2_l6_V) : Tree (round_order_Split_3_2_l6_V ⊕ round_order_Split_3_2_l6_Y) :=
 .cond (decide (v.2 < s12_6)) (
 .bind (getI s11_6 v.2) fun e1 =>
 .bind (order_own e1) fun r2 =>
 .chk (avOK v.1.length v.1.length ((v.1 ++ [T_api_Op.mk (T_api_Op.Kind e1) (T_api_Op.ID e1) (T_api_Op.S e1) (T_api_Op.No e1) (T_api_Op.V e1) ((([] : List T_api_Piece)) ++ (T_api_Op.P e1)) (T_api_Op.From e1) (T_api_Op.FromNo e1) (T_api_Op.D e1)]).length) 144) <|
 .chk (in64 (v.2 + 1)) <|
 .ret (.inl (v.1 ++ [T_api_Op.mk (T_api_Op.Kind e1) (T_api_Op.ID e1) (T_api_Op.S e1) (T_api_Op.No e1) (T_api_Op.V e1) ((([] : List T_api_Piece)) ++ (T_api_Op.P e1)) (T_api_Op.From e1) (T_api_Op.FromNo e1) (T_api_Op.D e1)], v.2 + 1))) <|
 .ret (.inr (v.1, v.2, decide (v.2 < s12_6)))
def round_order_Split_3_2_l6_n (N n : Nat) (f : round_order_Split_3_2_l6_F) (v : round_order_Split_3_2_l6_V) : Option round_order_Split_3_2_l6_Y := loopG (round_order_Split_3_2_l6_t N f.1 f.2.1 f.2.2.1 f.2.2.2.1 f.2.2.2.2) some n v
theorem round_order_Split_3_2_l6_q (N : Nat) (f : round_order_Split_3_2_l6_F) (n : Nat) (v : round_order_Split_3_2_l6_V) (y : round_order_Split_3_2_l6_Y) (h : round_order_Split_3_2_l6_n N n f v = some y) : LG Try.prog round_order_Split_3_2_H 14 (lookC (CT.ct 1400003).2 6) (round_order_Split_3_2_l6_h f v) (round_order_Split_3_2_l6_o f y) :=
  loop_g (E := round_order_Split_3_2_E N) (L := lenv (round_order_Split_3_2_l6_L N)) (st := round_order_Split_3_2_l6_o f) (g := some) (R := round_order_Split_3_2_l6_o f) (round_order_Split_3_2_Eok N) (lenv_ok (by kernel_rfl) trivial) (rg0 (by kernel_rfl)) (fun v => by kernel_rfl) (good_self (st := round_order_Split_3_2_l6_o f) fun y => by rfl) n v y h
def round_order_Split_3_2_l6 (N : Nat) (o_6 : List (List T_api_Op)) (o_6_3 : List T_api_Op) (o_6_4 : Int) (s11_6 : List T_api_Op) (s12_6 : Int) (o_6_2 : List T_api_Op) (s13_6 : Int) : Option round_order_Split_3_2_l6_Y := round_order_Split_3_2_l6_n N N (o_6, o_6_3, o_6_4, s11_6, s12_6) (o_6_2, s13_6)
def round_order_Split_3_2_l6_s (N : Nat) : LEnt := smL round_order_Split_3_2_l6_p [(.sl 1 (.sl 71 t_api_Op)), (.sl 71 t_api_Op), (.sl 71 t_api_Op), (.i .i64), (.sl 71 t_api_Op), (.i .i64), (.i .i64)] round_order_Split_3_2_l6_Y (fun x => round_order_Split_3_2_l6 N x.1 x.2.2.1 x.2.2.2.1 x.2.2.2.2.1 x.2.2.2.2.2.1 x.2.1 x.2.2.2.2.2.2.1) cs1 fun x => round_order_Split_3_2_l6_o (x.1, x.2.2.1, x.2.2.2.1, x.2.2.2.2.1, x.2.2.2.2.2.1)
theorem round_order_Split_3_2_l6_ok (N : Nat) : LsOK Try.prog round_order_Split_3_2_H 14 (lookC (CT.ct 1400003).2 6) (round_order_Split_3_2_l6_s N) := smL_ok fun x z h => round_order_Split_3_2_l6_q N (x.1, x.2.2.1, x.2.2.2.1, x.2.2.2.2.1, x.2.2.2.2.2.1) N (x.2.1, x.2.2.2.2.2.2.1) z h
def round_order_Split_3_2_o (a1 : List T_api_Op) (a2 : Int) (z : List (List T_api_Op)) : TV × THp := (.bc true, [(30, .cell false (.v 200260 z.length)), (50030, .loop [10] 28 [(3, .p 30 [] 0), (9, .fn (.func 31) [] [.p 100020 [] 0, .p 100030 [] 0])] 1400003 14 .ready none 50031), (50031, .dfr true), (100020, .cell false (.tv (.sl 71 t_api_Op) a1)), (100030, .cell false (xi a2)), (200260, .vec false 1 (.sl 1 (.sl 71 t_api_Op)) z)])
def round_order_Split_3_2_t (N : Nat) (a0 : List (List T_api_Op)) (a1 : List T_api_Op) (a2 : Int) (a3 : List T_api_Op) : Tree (List (List T_api_Op)) :=
 .bind (chkLs [(a0.length, a0.length), (([] : List T_api_Op).length, 0)] (round_order_Split_3_2_l6 N a0 a1 a2 a3 ((a3.length : Nat) : Int) [] 0)) fun z1 =>
 .chk (z1.1.length = z1.1.length) <|
 .chk (avOK a0.length a0.length ((a0 ++ [z1.1]).length) 24) <|
 .ret (a0 ++ [z1.1])
def round_order_Split_3_2 (N : Nat) (a0 : List (List T_api_Op)) (a1 : List T_api_Op) (a2 : Int) (a3 : List T_api_Op) : Option (List (List T_api_Op)) := (round_order_Split_3_2_t N a0 a1 a2 a3).run some
def round_order_Split_3_2_L (N : Nat) : List (Nat × LEnt) := [(6, round_order_Split_3_2_l6_s N)]
def round_order_Split_3_2_s (N : Nat) : Ent := smR 50030 [.x (.sl 71 t_api_Op)] [(30, .cell false (.vs 200260)), (50030, .loop [10] 28 [(3, .k (.p 30 [] 0)), (9, .fn 31 [] [.k (.p 100020 [] 0), .k (.p 100030 [] 0)])] 1400003 14 .ready none 50031), (50031, .dfr true), (100020, .cell false (.x (.sl 71 t_api_Op))), (100030, .cell false (.x (.i .i64))), (200260, .vec false 1)] [(.sl 1 (.sl 71 t_api_Op)), (.sl 71 t_api_Op), (.i .i64), (.sl 71 t_api_Op)] (List (List T_api_Op)) (fun x => round_order_Split_3_2 N x.1 x.2.1 x.2.2.1 x.2.2.2.1) cs1 fun x => round_order_Split_3_2_o x.2.1 x.2.2.1
theorem round_order_Split_3_2_ok (N : Nat) : SmOK Try.prog (round_order_Split_3_2_s N) :=
  rd_ok (H := round_order_Split_3_2_H) (L := lenv (round_order_Split_3_2_L N)) (ts := [(.sl 1 (.sl 71 t_api_Op)), (.sl 71 t_api_Op), (.i .i64), (.sl 71 t_api_Op)]) (T := fun x => round_order_Split_3_2_t N x.1 x.2.1 x.2.2.1 x.2.2.2.1) (K := 14) (cid := 1400003) 3 Try_draw (round_order_Split_3_2_Eok N) (by kernel_rfl) (lenv_ok (by kernel_rfl) ⟨round_order_Split_3_2_l6_ok N, trivial⟩) (rg0 (by kernel_rfl)) (rg0 (by kernel_rfl)) (fun x => by kernel_rfl) fun x => by kernel_rfl
noncomputable def Try_b31 : Code := Try.f31.body.getD .skip
theorem Try_F31 : FnF Try.prog 31 Try.f31 Try_b31 := ⟨Try_draw, by kernel_rfl, by kernel_rfl, by kernel_rfl⟩
def slices_Chunk_api_Op_api_Op_1_H : TH := { live := [(0, [0, 1, 2, 4]), (1, [0, 1, 2, 4, 9]), (2, [0, 1, 2, 4]), (3, [0, 1, 2, 4, 5]), (4, [0, 1, 2, 4, 30])], fresh := [29] }
def slices_Chunk_api_Op_api_Op_1_E (N : Nat) : List Ent := [round_order_Split_3_s N, round_order_Split_3_2_s N]
theorem slices_Chunk_api_Op_api_Op_1_Eok (N : Nat) : SmAll Try.prog (slices_Chunk_api_Op_api_Op_1_E N) := ⟨round_order_Split_3_ok N, round_order_Split_3_2_ok N, trivial⟩
abbrev slices_Chunk_api_Op_api_Op_1_l1_F := List T_api_Op × Int
abbrev slices_Chunk_api_Op_api_Op_1_l1_Y := Unit ⊕ (List (List T_api_Op) × Int × Bool)
def slices_Chunk_api_Op_api_Op_1_l1_o (f : slices_Chunk_api_Op_api_Op_1_l1_F) : slices_Chunk_api_Op_api_Op_1_l1_Y → Ex × TSt
 | .inl y => (.exit 0, ⟨2, 31, [30, 50030, 50031, 100020, 100030], [(0, .yl 50030), (1, .p 100020 [] 0), (2, .p 100030 [] 0), (4, .ic .i64 0), (9, xb (decide (((0 : Int)) < ((f.1.length : Nat) : Int))))], [(30, .cell false .nils), (50030, .loop [10] 28 [(3, .p 30 [] 0), (9, .fn (.func 31) [] [.p 100020 [] 0, .p 100030 [] 0])] 1400003 14 .ready none 50031), (50031, .dfr true), (100020, .cell false (.tv (.sl 71 t_api_Op) f.1)), (100030, .cell false (xi f.2))], false, []⟩)
 | .inr y => (.exit 0, ⟨2, 31, [30, 50030, 50031, 100020, 100030], [(0, .yl 50030), (1, .p 100020 [] 0), (2, .p 100030 [] 0), (4, xi y.2.1), (9, xb y.2.2)], [(30, .cell false (.v 200260 y.1.length)), (50030, .loop [10] 28 [(3, .p 30 [] 0), (9, .fn (.func 31) [] [.p 100020 [] 0, .p 100030 [] 0])] 1400003 14 .ready none 50031), (50031, .dfr true), (100020, .cell false (.tv (.sl 71 t_api_Op) f.1)), (100030, .cell false (xi f.2)), (200260, .vec false 1 (.sl 1 (.sl 71 t_api_Op)) (y.1 : List (List T_api_Op)))], false, []⟩)
def slices_Chunk_api_Op_api_Op_1_l1_L (N : Nat) : List (Nat × LEnt) := []
abbrev slices_Chunk_api_Op_api_Op_1_l1_s1_V := List (List T_api_Op) × Int
def slices_Chunk_api_Op_api_Op_1_l1_s1_p : SP := ⟨2, 31, [30, 50030, 50031, 100020, 100030], [(0, .k (.yl 50030)), (1, .k (.p 100020 [] 0)), (2, .k (.p 100030 [] 0)), (4, .x (.i .i64))], [(30, .cell false (.vs 200260)), (50030, .loop [10] 28 [(3, .k (.p 30 [] 0)), (9, .fn 31 [] [.k (.p 100020 [] 0), .k (.p 100030 [] 0)])] 1400003 14 .ready none 50031), (50031, .dfr true), (100020, .cell false (.x (.sl 71 t_api_Op))), (100030, .cell false (.x (.i .i64))), (200260, .vec false 1)], false, []⟩
def slices_Chunk_api_Op_api_Op_1_l1_s1_h (f : slices_Chunk_api_Op_api_Op_1_l1_F) (v : slices_Chunk_api_Op_api_Op_1_l1_s1_V) : TSt := fillS slices_Chunk_api_Op_api_Op_1_l1_s1_p [dv (.sl 1 (.sl 71 t_api_Op)) v.1, dv (.sl 71 t_api_Op) f.1, dv (.i .i64) f.2, dv (.i .i64) v.2]
def slices_Chunk_api_Op_api_Op_1_l1_s1_t (N : Nat) (o_1 : List T_api_Op) (o_1_2 : Int) (v : slices_Chunk_api_Op_api_Op_1_l1_s1_V) : Tree (slices_Chunk_api_Op_api_Op_1_l1_s1_V ⊕ slices_Chunk_api_Op_api_Op_1_l1_Y) :=
 .cond (decide (v.2 < ((o_1.length : Nat) : Int))) (
 .chk (0 ≤ v.2 ∧ v.2 ≤ ((o_1.length : Nat) : Int)) <|
 .chk (in64 (v.2 + ((if (((o_1.drop v.2.toNat).length : Nat) : Int) < o_1_2 then (((o_1.drop v.2.toNat).length : Nat) : Int) else o_1_2)))) <|
 .chk (in64 (v.2 + ((if (((o_1.drop v.2.toNat).length : Nat) : Int) < o_1_2 then (((o_1.drop v.2.toNat).length : Nat) : Int) else o_1_2)))) <|
 .chk (0 ≤ v.2 ∧ v.2 ≤ (v.2 + ((if (((o_1.drop v.2.toNat).length : Nat) : Int) < o_1_2 then (((o_1.drop v.2.toNat).length : Nat) : Int) else o_1_2))) ∧ (v.2 + ((if (((o_1.drop v.2.toNat).length : Nat) : Int) < o_1_2 then (((o_1.drop v.2.toNat).length : Nat) : Int) else o_1_2))) ≤ ((o_1.length : Nat) : Int)) <|
 .chk ((((v.2 + ((if (((o_1.drop v.2.toNat).length : Nat) : Int) < o_1_2 then (((o_1.drop v.2.toNat).length : Nat) : Int) else o_1_2))).toNat : Nat) : Int) ≤ (v.2 + ((if (((o_1.drop v.2.toNat).length : Nat) : Int) < o_1_2 then (((o_1.drop v.2.toNat).length : Nat) : Int) else o_1_2))) ∧ (v.2 + ((if (((o_1.drop v.2.toNat).length : Nat) : Int) < o_1_2 then (((o_1.drop v.2.toNat).length : Nat) : Int) else o_1_2))) ≤ ((o_1.length : Nat) : Int)) <|
 .bind (chkLs [(v.1.length, v.1.length)] (round_order_Split_3_2 N v.1 o_1 o_1_2 ((o_1.take ((v.2 + ((if (((o_1.drop v.2.toNat).length : Nat) : Int) < o_1_2 then (((o_1.drop v.2.toNat).length : Nat) : Int) else o_1_2))).toNat)).drop v.2.toNat))) fun r1 =>
 .chk (in64 (v.2 + o_1_2)) <|
 .ret (.inl (r1, v.2 + o_1_2))) <|
 .ret (.inr (.inr ((v.1, v.2, decide (v.2 < ((o_1.length : Nat) : Int))))))
def slices_Chunk_api_Op_api_Op_1_l1_s1_n (N n : Nat) (f : slices_Chunk_api_Op_api_Op_1_l1_F) (v : slices_Chunk_api_Op_api_Op_1_l1_s1_V) : Option slices_Chunk_api_Op_api_Op_1_l1_Y := loopG (slices_Chunk_api_Op_api_Op_1_l1_s1_t N f.1 f.2) some n v
theorem slices_Chunk_api_Op_api_Op_1_l1_s1_q (N : Nat) (f : slices_Chunk_api_Op_api_Op_1_l1_F) (n : Nat) (v : slices_Chunk_api_Op_api_Op_1_l1_s1_V) (y : slices_Chunk_api_Op_api_Op_1_l1_Y) (h : slices_Chunk_api_Op_api_Op_1_l1_s1_n N n f v = some y) : LG Try.prog slices_Chunk_api_Op_api_Op_1_H 31 (lookC Try_b31 1) (slices_Chunk_api_Op_api_Op_1_l1_s1_h f v) (slices_Chunk_api_Op_api_Op_1_l1_o f y) :=
  loop_g (E := slices_Chunk_api_Op_api_Op_1_E N) (L := lenv (slices_Chunk_api_Op_api_Op_1_l1_L N)) (st := slices_Chunk_api_Op_api_Op_1_l1_o f) (g := some) (R := slices_Chunk_api_Op_api_Op_1_l1_o f) (slices_Chunk_api_Op_api_Op_1_Eok N) (lenv_ok (by kernel_rfl) trivial) (rg0 (by kernel_rfl)) (fun v => by kernel_rfl) (good_self (st := slices_Chunk_api_Op_api_Op_1_l1_o f) fun y => by rcases y with _ | _ <;> rfl) n v y h
abbrev slices_Chunk_api_Op_api_Op_1_l1_V := Unit
def slices_Chunk_api_Op_api_Op_1_l1_p : SP := ⟨2, 31, [30, 50030, 50031, 100020, 100030], [(0, .k (.yl 50030)), (1, .k (.p 100020 [] 0)), (2, .k (.p 100030 [] 0)), (4, .k (.ic .i64 0))], [(30, .cell false (.k .nils)), (50030, .loop [10] 28 [(3, .k (.p 30 [] 0)), (9, .fn 31 [] [.k (.p 100020 [] 0), .k (.p 100030 [] 0)])] 1400003 14 .ready none 50031), (50031, .dfr true), (100020, .cell false (.x (.sl 71 t_api_Op))), (100030, .cell false (.x (.i .i64)))], false, []⟩
def slices_Chunk_api_Op_api_Op_1_l1_h (f : slices_Chunk_api_Op_api_Op_1_l1_F) (v : slices_Chunk_api_Op_api_Op_1_l1_V) : TSt := fillS slices_Chunk_api_Op_api_Op_1_l1_p [dv (.sl 71 t_api_Op) f.1, dv (.i .i64) f.2]
abbrev slices_Chunk_api_Op_api_Op_1_l1_W := slices_Chunk_api_Op_api_Op_1_l1_s1_V ⊕ slices_Chunk_api_Op_api_Op_1_l1_Y
def slices_Chunk_api_Op_api_Op_1_l1_t (N : Nat) (o_1 : List T_api_Op) (o_1_2 : Int) (v : slices_Chunk_api_Op_api_Op_1_l1_V) : Tree (slices_Chunk_api_Op_api_Op_1_l1_V ⊕ slices_Chunk_api_Op_api_Op_1_l1_W) :=
 .cond (decide (((0 : Int)) < ((o_1.length : Nat) : Int))) (
 .chk (0 ≤ (0 : Int) ∧ (0 : Int) ≤ ((o_1.length : Nat) : Int)) <|
 .chk (in64 (((0 : Int)) + ((if (((o_1.drop 0).length : Nat) : Int) < o_1_2 then (((o_1.drop 0).length : Nat) : Int) else o_1_2)))) <|
 .chk (in64 (((0 : Int)) + ((if (((o_1.drop 0).length : Nat) : Int) < o_1_2 then (((o_1.drop 0).length : Nat) : Int) else o_1_2)))) <|
 .chk (0 ≤ (0 : Int) ∧ (0 : Int) ≤ (((0 : Int)) + ((if (((o_1.drop 0).length : Nat) : Int) < o_1_2 then (((o_1.drop 0).length : Nat) : Int) else o_1_2))) ∧ (((0 : Int)) + ((if (((o_1.drop 0).length : Nat) : Int) < o_1_2 then (((o_1.drop 0).length : Nat) : Int) else o_1_2))) ≤ ((o_1.length : Nat) : Int)) <|
 .chk ((((((0 : Int)) + ((if (((o_1.drop 0).length : Nat) : Int) < o_1_2 then (((o_1.drop 0).length : Nat) : Int) else o_1_2))).toNat : Nat) : Int) ≤ (((0 : Int)) + ((if (((o_1.drop 0).length : Nat) : Int) < o_1_2 then (((o_1.drop 0).length : Nat) : Int) else o_1_2))) ∧ (((0 : Int)) + ((if (((o_1.drop 0).length : Nat) : Int) < o_1_2 then (((o_1.drop 0).length : Nat) : Int) else o_1_2))) ≤ ((o_1.length : Nat) : Int)) <|
 .bind (round_order_Split_3 N o_1 o_1_2 ((o_1.take ((((0 : Int)) + ((if (((o_1.drop 0).length : Nat) : Int) < o_1_2 then (((o_1.drop 0).length : Nat) : Int) else o_1_2))).toNat)).drop 0)) fun r1 =>
 .chk (in64 (((0 : Int)) + o_1_2)) <|
 .ret (.inr (.inl (r1, ((0 : Int)) + o_1_2)))) <|
 .ret (.inr (.inr ((.inl ()))))
def slices_Chunk_api_Op_api_Op_1_l1_g (N n : Nat) (f : slices_Chunk_api_Op_api_Op_1_l1_F) : slices_Chunk_api_Op_api_Op_1_l1_W → Option slices_Chunk_api_Op_api_Op_1_l1_Y
 | .inl w => slices_Chunk_api_Op_api_Op_1_l1_s1_n N n f w
 | .inr w => some w
def slices_Chunk_api_Op_api_Op_1_l1_w (f : slices_Chunk_api_Op_api_Op_1_l1_F) : slices_Chunk_api_Op_api_Op_1_l1_W → Ex × TSt
 | .inl w => (.normal, slices_Chunk_api_Op_api_Op_1_l1_s1_h f w)
 | .inr w => slices_Chunk_api_Op_api_Op_1_l1_o f w
def slices_Chunk_api_Op_api_Op_1_l1_n (N n : Nat) (f : slices_Chunk_api_Op_api_Op_1_l1_F) (v : slices_Chunk_api_Op_api_Op_1_l1_V) : Option slices_Chunk_api_Op_api_Op_1_l1_Y := loopG (slices_Chunk_api_Op_api_Op_1_l1_t N f.1 f.2) (slices_Chunk_api_Op_api_Op_1_l1_g N n f) n v
theorem slices_Chunk_api_Op_api_Op_1_l1_q (N : Nat) (f : slices_Chunk_api_Op_api_Op_1_l1_F) (n : Nat) (v : slices_Chunk_api_Op_api_Op_1_l1_V) (y : slices_Chunk_api_Op_api_Op_1_l1_Y) (h : slices_Chunk_api_Op_api_Op_1_l1_n N n f v = some y) : LG Try.prog slices_Chunk_api_Op_api_Op_1_H 31 (lookC Try_b31 1) (slices_Chunk_api_Op_api_Op_1_l1_h f v) (slices_Chunk_api_Op_api_Op_1_l1_o f y) :=
  loop_g (E := slices_Chunk_api_Op_api_Op_1_E N) (L := lenv (slices_Chunk_api_Op_api_Op_1_l1_L N)) (st := slices_Chunk_api_Op_api_Op_1_l1_w f) (g := (slices_Chunk_api_Op_api_Op_1_l1_g N n f)) (R := slices_Chunk_api_Op_api_Op_1_l1_o f) (slices_Chunk_api_Op_api_Op_1_Eok N) (lenv_ok (by kernel_rfl) trivial) (rg0 (by kernel_rfl)) (fun v => by kernel_rfl) (fun w y h => by
  rcases w with w | w
  · exact slices_Chunk_api_Op_api_Op_1_l1_s1_q N f n w y h
  · exact good_self (st := slices_Chunk_api_Op_api_Op_1_l1_o f) (fun y => by rcases y with _ | _ <;> rfl) w y h
) n v y h
def slices_Chunk_api_Op_api_Op_1_l1 (N : Nat) (o_1 : List T_api_Op) (o_1_2 : Int) : Option slices_Chunk_api_Op_api_Op_1_l1_Y := slices_Chunk_api_Op_api_Op_1_l1_n N N (o_1, o_1_2) ()
def slices_Chunk_api_Op_api_Op_1_l1_s (N : Nat) : LEnt := smL slices_Chunk_api_Op_api_Op_1_l1_p [(.sl 71 t_api_Op), (.i .i64)] slices_Chunk_api_Op_api_Op_1_l1_Y (fun x => slices_Chunk_api_Op_api_Op_1_l1 N x.1 x.2.1) (csS cs1) fun x => slices_Chunk_api_Op_api_Op_1_l1_o (x.1, x.2.1)
theorem slices_Chunk_api_Op_api_Op_1_l1_ok (N : Nat) : LsOK Try.prog slices_Chunk_api_Op_api_Op_1_H 31 (lookC Try_b31 1) (slices_Chunk_api_Op_api_Op_1_l1_s N) := smL_ok fun x z h => slices_Chunk_api_Op_api_Op_1_l1_q N (x.1, x.2.1) N () z h
def slices_Chunk_api_Op_api_Op_1_o (a0 : List T_api_Op) (a1 : Int) : Unit ⊕ List (List T_api_Op) → TV × THp
 | .inl z => (.tup [], [(30, .cell false .nils), (50030, .loop [10] 28 [(3, .p 30 [] 0), (9, .fn (.func 31) [] [.p 100020 [] 0, .p 100030 [] 0])] 1400003 14 .ready none 50031), (50031, .dfr true), (100020, .cell false (.tv (.sl 71 t_api_Op) a0)), (100030, .cell false (xi a1))])
 | .inr z => (.tup [], [(30, .cell false (.v 200260 z.length)), (50030, .loop [10] 28 [(3, .p 30 [] 0), (9, .fn (.func 31) [] [.p 100020 [] 0, .p 100030 [] 0])] 1400003 14 .ready none 50031), (50031, .dfr true), (100020, .cell false (.tv (.sl 71 t_api_Op) a0)), (100030, .cell false (xi a1)), (200260, .vec false 1 (.sl 1 (.sl 71 t_api_Op)) z)])
def slices_Chunk_api_Op_api_Op_1_t (N : Nat) (a0 : List T_api_Op) (a1 : Int) : Tree (Unit ⊕ List (List T_api_Op)) :=
 .bind (slices_Chunk_api_Op_api_Op_1_l1 N a0 a1) fun z1 =>
 .sum z1 (fun z2 =>
 .ret (.inl ())) fun z2 =>
 .ret (.inr z2.1)
def slices_Chunk_api_Op_api_Op_1 (N : Nat) (a0 : List T_api_Op) (a1 : Int) : Option (Unit ⊕ List (List T_api_Op)) := (slices_Chunk_api_Op_api_Op_1_t N a0 a1).run some
def slices_Chunk_api_Op_api_Op_1_L (N : Nat) : List (Nat × LEnt) := [(1, slices_Chunk_api_Op_api_Op_1_l1_s N)]
def slices_Chunk_api_Op_api_Op_1_s (N : Nat) : Ent := smF ⟨31, [], [.k (.yl 50030)], [.k (.p 100020 [] 0), .k (.p 100030 [] 0)], [(30, .cell false (.k .nils)), (50030, .loop [10] 28 [(3, .k (.p 30 [] 0)), (9, .fn 31 [] [.k (.p 100020 [] 0), .k (.p 100030 [] 0)])] 1400003 14 .ready none 50031), (50031, .dfr true), (100020, .cell false (.x (.sl 71 t_api_Op))), (100030, .cell false (.x (.i .i64)))]⟩ [(.sl 71 t_api_Op), (.i .i64)] (Unit ⊕ List (List T_api_Op)) (fun x => slices_Chunk_api_Op_api_Op_1 N x.1 x.2.1) (csS cs1) fun x => slices_Chunk_api_Op_api_Op_1_o x.1 x.2.1
theorem slices_Chunk_api_Op_api_Op_1_ok (N : Nat) : SmOK Try.prog (slices_Chunk_api_Op_api_Op_1_s N) :=
  fn_ok (H := slices_Chunk_api_Op_api_Op_1_H) (L := lenv (slices_Chunk_api_Op_api_Op_1_L N)) (ts := [(.sl 71 t_api_Op), (.i .i64)]) (T := fun x => slices_Chunk_api_Op_api_Op_1_t N x.1 x.2.1) 1 Try_F31 (slices_Chunk_api_Op_api_Op_1_Eok N) (lenv_ok (by kernel_rfl) ⟨slices_Chunk_api_Op_api_Op_1_l1_ok N, trivial⟩) (rg0 (by kernel_rfl)) fun x => by kernel_rfl
noncomputable def Try_b14 : Code := Try.f14.body.getD .skip
theorem Try_F14 : FnF Try.prog 14 Try.f14 Try_b14 := ⟨Try_draw, by kernel_rfl, by kernel_rfl, by kernel_rfl⟩
def order_Split_H : TH := { live := [(0, [0]), (1, [0, 3]), (2, [3, 9]), (3, [3, 4]), (4, [3, 4, 5]), (5, [3, 5, 11, 12, 13]), (6, [3, 5, 11, 12, 13, 14]), (7, [3, 5, 7, 11, 12, 13]), (8, [3, 5, 11, 12, 13]), (9, [3, 5, 11, 12, 13]), (11, [2])], fresh := [9] }
def order_Split_E (N : Nat) : List Ent := [slices_Chunk_Op_s, slices_Chunk_api_Op_api_Op_1_s N]
theorem order_Split_Eok (N : Nat) : SmAll Try.prog (order_Split_E N) := ⟨slices_Chunk_Op_ok, slices_Chunk_api_Op_api_Op_1_ok N, trivial⟩
def order_Split_o (z : List (List T_api_Op)) : TV × THp := (.tv (.sl 1 (.sl 71 t_api_Op)) z, [])
def order_Split_t (N : Nat) (a0 : List T_api_Op) : Tree (List (List T_api_Op)) :=
 .bind (slices_Chunk_Op a0 20) fun r1 =>
 .bind (slices_Chunk_api_Op_api_Op_1 N a0 20) fun r2 =>
 .sum r2 (fun r3 =>
 .ret []) fun r3 =>
 .chk (r3.length = r3.length) <|
 .ret r3
def order_Split (N : Nat) (a0 : List T_api_Op) : Option (List (List T_api_Op)) := (order_Split_t N a0).run some
def order_Split_L (N : Nat) : List (Nat × LEnt) := []
def order_Split_s (N : Nat) : Ent := smF ⟨14, [], [.x (.sl 71 t_api_Op)], [], []⟩ [(.sl 71 t_api_Op)] (List (List T_api_Op)) (fun x => order_Split N x.1) cs1 fun _ => order_Split_o
theorem order_Split_ok (N : Nat) : SmOK Try.prog (order_Split_s N) :=
  fn_ok (H := order_Split_H) (L := lenv (order_Split_L N)) (ts := [(.sl 71 t_api_Op)]) (T := fun x => order_Split_t N x.1) 0 Try_F14 (order_Split_Eok N) (lenv_ok (by kernel_rfl) trivial) (rgs (by kernel_rfl)) fun x => by kernel_rfl
noncomputable def Try_b9 : Code := Try.f9.body.getD .skip
theorem Try_F9 : FnF Try.prog 9 Try.f9 Try_b9 := ⟨Try_draw, by kernel_rfl, by kernel_rfl, by kernel_rfl⟩
def rolodexlaw17_awake_H : TH := { live := [(1, [1]), (2, [1, 2]), (3, [1, 2, 3]), (4, [1, 2, 3, 4]), (5, [1, 2, 4, 5]), (6, [0])], dec := [32, 39, 44, 51, 59, 66, 71] }
def rolodexlaw17_awake_E (N : Nat) : List Ent := [order_Sort_s N, order_Reads_s, order_Split_s N]
theorem rolodexlaw17_awake_Eok (N : Nat) : SmAll Try.prog (rolodexlaw17_awake_E N) := ⟨order_Sort_ok N, order_Reads_ok, order_Split_ok N, trivial⟩
def rolodexlaw17_awake_o (z : Bool) : TV × THp := (xb z, [])
def rolodexlaw17_awake_t (N : Nat) : Tree (Bool) :=
 .chk (0 < 16) <|
 .chk (0 < 16) <|
 .chk (0 < 16) <|
 .chk (0 < 16) <|
 .chk (0 < 16) <|
 .bind (order_Sort N [T_api_Op.mk 1 (((Vector.replicate 16 0)).setIfInBounds 0 ((UInt8.ofNat 1))) (T_api_Stamp.mk 0 0) 0 [] [] ((Vector.replicate 16 0)) 0 ((Vector.replicate 32 0)), T_api_Op.mk 2 (((Vector.replicate 16 0)).setIfInBounds 0 ((UInt8.ofNat 2))) (T_api_Stamp.mk 0 0) 0 [] [] (((Vector.replicate 16 0)).setIfInBounds 0 ((UInt8.ofNat 1))) 0 ((Vector.replicate 32 0))] [T_api_Op.mk 1 (((Vector.replicate 16 0)).setIfInBounds 0 ((UInt8.ofNat 1))) (T_api_Stamp.mk 0 0) 0 [] [] ((Vector.replicate 16 0)) 0 ((Vector.replicate 32 0)), T_api_Op.mk 1 (((Vector.replicate 16 0)).setIfInBounds 0 ((UInt8.ofNat 1))) (T_api_Stamp.mk 0 0) 0 [] [] ((Vector.replicate 16 0)) 0 ((Vector.replicate 32 0))]) fun r1 =>
 .chk (0 < 16) <|
 .bind (order_Sort N [T_api_Op.mk 2 (((Vector.replicate 16 0)).setIfInBounds 0 ((UInt8.ofNat 2))) (T_api_Stamp.mk 0 0) 0 [] [] (((Vector.replicate 16 0)).setIfInBounds 0 ((UInt8.ofNat 1))) 0 ((Vector.replicate 32 0)), T_api_Op.mk 2 (((Vector.replicate 16 0)).setIfInBounds 0 ((UInt8.ofNat 1))) (T_api_Stamp.mk 0 0) 0 [] [] (((Vector.replicate 16 0)).setIfInBounds 0 ((UInt8.ofNat 2))) 0 ((Vector.replicate 32 0))] [T_api_Op.mk 1 (((Vector.replicate 16 0)).setIfInBounds 0 ((UInt8.ofNat 2))) (T_api_Stamp.mk 0 0) 0 [] [] ((Vector.replicate 16 0)) 0 ((Vector.replicate 32 0)), T_api_Op.mk 1 (((Vector.replicate 16 0)).setIfInBounds 0 ((UInt8.ofNat 1))) (T_api_Stamp.mk 0 0) 0 [] [] ((Vector.replicate 16 0)) 0 ((Vector.replicate 32 0))]) fun r2 =>
 .cond (decide (((r1.length : Nat) : Int) = ((2 : Int)))) (
 .bind (getI r1 0) fun e3 =>
 .cond (decide ((T_api_Op.Kind e3) = ((2 : Int)))) (
 .cond (decide (((r2.length : Nat) : Int) = ((2 : Int)))) (
 .bind (getI r2 0) fun e4 =>
 .cond (decide ((T_api_Op.Kind e4) = ((2 : Int)))) (
 .bind (getI r2 0) fun e5 =>
 .chk (0 < 16) <|
 .cond (eqE (.ba 16) (T_api_Op.ID e5) (((Vector.replicate 16 0)).setIfInBounds 0 ((UInt8.ofNat 1)))) (
 .bind (getI r2 1) fun e6 =>
 .cond (decide ((T_api_Op.Kind e6) = ((1 : Int)))) (
 .bind (order_Reads (T_api_Op.mk 2 (((Vector.replicate 16 0)).setIfInBounds 0 ((UInt8.ofNat 2))) (T_api_Stamp.mk 0 0) 0 [] [] (((Vector.replicate 16 0)).setIfInBounds 0 ((UInt8.ofNat 1))) 0 ((Vector.replicate 32 0))) (T_api_Op.mk 1 (((Vector.replicate 16 0)).setIfInBounds 0 ((UInt8.ofNat 1))) (T_api_Stamp.mk 0 0) 0 [] [] ((Vector.replicate 16 0)) 0 ((Vector.replicate 32 0)))) fun r7 =>
 .cond r7 (
 .bind (order_Split N r2) fun r8 =>
 .ret (decide (((r8.length : Nat) : Int) = ((1 : Int))))) <|
 .ret false) <|
 .ret false) <|
 .ret false) <|
 .ret false) <|
 .ret false) <|
 .ret false) <|
 .ret false
def rolodexlaw17_awake (N : Nat) : Option (Bool) := (rolodexlaw17_awake_t N).run some
def rolodexlaw17_awake_L (N : Nat) : List (Nat × LEnt) := []
def rolodexlaw17_awake_s (N : Nat) : Ent := smF ⟨9, [], [], [], []⟩ [] (Bool) (fun x => rolodexlaw17_awake N) cs1 fun _ => rolodexlaw17_awake_o
theorem rolodexlaw17_awake_ok (N : Nat) : SmOK Try.prog (rolodexlaw17_awake_s N) :=
  fn_ok (H := rolodexlaw17_awake_H) (L := lenv (rolodexlaw17_awake_L N)) (ts := []) (T := fun x => rolodexlaw17_awake_t N) 0 Try_F9 (rolodexlaw17_awake_Eok N) (lenv_ok (by kernel_rfl) trivial) (rg0 (by kernel_rfl)) fun x => by kernel_rfl
noncomputable def Try_b30 : Code := Try.f30.body.getD .skip
theorem Try_F30 : FnF Try.prog 30 Try.f30 Try_b30 := ⟨Try_draw, by kernel_rfl, by kernel_rfl, by kernel_rfl⟩
def rolodexref11_Same_H : TH := { live := [(0, [0, 1]), (1, [0, 1, 10]), (2, [4]), (3, [0, 1, 5]), (4, [0, 1, 5, 14]), (5, [0, 1, 5]), (6, [0, 1, 5, 25]), (7, [4]), (8, [4])] }
def rolodexref11_Same_E (N : Nat) : List Ent := []
theorem rolodexref11_Same_Eok (N : Nat) : SmAll Try.prog (rolodexref11_Same_E N) := trivial
abbrev rolodexref11_Same_l4_F := List T_api_Piece × List T_api_Piece
abbrev rolodexref11_Same_l4_Y := Unit ⊕ (Int × Bool)
def rolodexref11_Same_l4_o (f : rolodexref11_Same_l4_F) : rolodexref11_Same_l4_Y → Ex × TSt
 | .inl y => (.ret, ⟨0, 26, [], [(4, .bc false)], [], false, []⟩)
 | .inr y => (.exit 0, ⟨0, 26, [], [(0, .tv (.sl 4 t_api_Piece) f.1), (1, .tv (.sl 4 t_api_Piece) f.2), (5, xi y.1), (14, xb y.2)], [], false, []⟩)
def rolodexref11_Same_l4_L (N : Nat) : List (Nat × LEnt) := []
abbrev rolodexref11_Same_l4_V := Int
def rolodexref11_Same_l4_p : SP := ⟨0, 26, [], [(0, .x (.sl 4 t_api_Piece)), (1, .x (.sl 4 t_api_Piece)), (5, .x (.i .i64))], [], false, []⟩
def rolodexref11_Same_l4_h (f : rolodexref11_Same_l4_F) (v : rolodexref11_Same_l4_V) : TSt := fillS rolodexref11_Same_l4_p [dv (.sl 4 t_api_Piece) f.1, dv (.sl 4 t_api_Piece) f.2, dv (.i .i64) v]
def rolodexref11_Same_l4_t (N : Nat) (s0_4 : List T_api_Piece) (s1_4 : List T_api_Piece) (v : rolodexref11_Same_l4_V) : Tree (rolodexref11_Same_l4_V ⊕ rolodexref11_Same_l4_Y) :=
 .cond (decide (v < ((s0_4.length : Nat) : Int))) (
 .bind (getI s0_4 v) fun e1 =>
 .bind (getI s1_4 v) fun e2 =>
 .cond (!(eqE t_api_Piece e1 e2)) (
 .ret (.inr (.inl ()))) <|
 .chk (in64 (v + 1)) <|
 .ret (.inl (v + 1))) <|
 .ret (.inr (.inr ((v, decide (v < ((s0_4.length : Nat) : Int))))))
def rolodexref11_Same_l4_n (N n : Nat) (f : rolodexref11_Same_l4_F) (v : rolodexref11_Same_l4_V) : Option rolodexref11_Same_l4_Y := loopG (rolodexref11_Same_l4_t N f.1 f.2) some n v
theorem rolodexref11_Same_l4_q (N : Nat) (f : rolodexref11_Same_l4_F) (n : Nat) (v : rolodexref11_Same_l4_V) (y : rolodexref11_Same_l4_Y) (h : rolodexref11_Same_l4_n N n f v = some y) : LG Try.prog rolodexref11_Same_H 30 (lookC Try_b30 4) (rolodexref11_Same_l4_h f v) (rolodexref11_Same_l4_o f y) :=
  loop_g (E := rolodexref11_Same_E N) (L := lenv (rolodexref11_Same_l4_L N)) (st := rolodexref11_Same_l4_o f) (g := some) (R := rolodexref11_Same_l4_o f) (rolodexref11_Same_Eok N) (lenv_ok (by kernel_rfl) trivial) (rg0 (by kernel_rfl)) (fun v => by kernel_rfl) (good_self (st := rolodexref11_Same_l4_o f) fun y => by rcases y with _ | _ <;> rfl) n v y h
def rolodexref11_Same_l4 (N : Nat) (s0_4 : List T_api_Piece) (s1_4 : List T_api_Piece) (s5_4 : Int) : Option rolodexref11_Same_l4_Y := rolodexref11_Same_l4_n N N (s0_4, s1_4) s5_4
def rolodexref11_Same_l4_s (N : Nat) : LEnt := smL rolodexref11_Same_l4_p [(.sl 4 t_api_Piece), (.sl 4 t_api_Piece), (.i .i64)] rolodexref11_Same_l4_Y (fun x => rolodexref11_Same_l4 N x.1 x.2.1 x.2.2.1) (csS cs1) fun x => rolodexref11_Same_l4_o (x.1, x.2.1)
theorem rolodexref11_Same_l4_ok (N : Nat) : LsOK Try.prog rolodexref11_Same_H 30 (lookC Try_b30 4) (rolodexref11_Same_l4_s N) := smL_ok fun x z h => rolodexref11_Same_l4_q N (x.1, x.2.1) N x.2.2.1 z h
def rolodexref11_Same_o (z : Bool) : TV × THp := (xb z, [])
def rolodexref11_Same_t (N : Nat) (a0 : List T_api_Piece) (a1 : List T_api_Piece) : Tree (Bool) :=
 .cond (!decide (((a0.length : Nat) : Int) = ((a1.length : Nat) : Int))) (
 .ret false) <|
 .bind (rolodexref11_Same_l4 N a0 a1 0) fun z1 =>
 .sum z1 (fun z2 =>
 .ret false) fun z2 =>
 .ret true
def rolodexref11_Same (N : Nat) (a0 : List T_api_Piece) (a1 : List T_api_Piece) : Option (Bool) := (rolodexref11_Same_t N a0 a1).run some
def rolodexref11_Same_L (N : Nat) : List (Nat × LEnt) := [(4, rolodexref11_Same_l4_s N)]
def rolodexref11_Same_s (N : Nat) : Ent := smF ⟨30, [], [.x (.sl 4 t_api_Piece), .x (.sl 4 t_api_Piece)], [], []⟩ [(.sl 4 t_api_Piece), (.sl 4 t_api_Piece)] (Bool) (fun x => rolodexref11_Same N x.1 x.2.1) cs1 fun _ => rolodexref11_Same_o
theorem rolodexref11_Same_ok (N : Nat) : SmOK Try.prog (rolodexref11_Same_s N) :=
  fn_ok (H := rolodexref11_Same_H) (L := lenv (rolodexref11_Same_L N)) (ts := [(.sl 4 t_api_Piece), (.sl 4 t_api_Piece)]) (T := fun x => rolodexref11_Same_t N x.1 x.2.1) 0 Try_F30 (rolodexref11_Same_Eok N) (lenv_ok (by kernel_rfl) ⟨rolodexref11_Same_l4_ok N, trivial⟩) (rg0 (by kernel_rfl)) fun x => by kernel_rfl
noncomputable def Try_b18 : Code := Try.f18.body.getD .skip
theorem Try_F18 : FnF Try.prog 18 Try.f18 Try_b18 := ⟨Try_draw, by kernel_rfl, by kernel_rfl, by kernel_rfl⟩
def rolodexref15_Same_H : TH := { live := [(0, [2, 3]), (1, [2, 3, 5]), (2, [4])], dec := [12, 19, 26, 33, 40, 47, 54, 61] }
def rolodexref15_Same_E (N : Nat) : List Ent := [rolodexref11_Same_s N]
theorem rolodexref15_Same_Eok (N : Nat) : SmAll Try.prog (rolodexref15_Same_E N) := ⟨rolodexref11_Same_ok N, trivial⟩
def rolodexref15_Same_o (z : Bool) : TV × THp := (xb z, [])
def rolodexref15_Same_t (N : Nat) (a0 : T_api_Op) (a1 : T_api_Op) : Tree (Bool) :=
 .bind (rolodexref11_Same N (T_api_Op.P a0) (T_api_Op.P a1)) fun r1 =>
 .cond r1 (
 .cond (decide ((T_api_Op.Kind a0) = (T_api_Op.Kind a1))) (
 .cond (eqE (.ba 16) (T_api_Op.ID a0) (T_api_Op.ID a1)) (
 .cond (eqE t_api_Stamp (T_api_Op.S a0) (T_api_Op.S a1)) (
 .cond (decide ((T_api_Op.No a0) = (T_api_Op.No a1))) (
 .cond (decide ((T_api_Op.V a0) = (T_api_Op.V a1))) (
 .cond (eqE (.ba 16) (T_api_Op.From a0) (T_api_Op.From a1)) (
 .cond (decide ((T_api_Op.FromNo a0) = (T_api_Op.FromNo a1))) (
 .ret (eqE (.ba 32) (T_api_Op.D a0) (T_api_Op.D a1))) <|
 .ret false) <|
 .ret false) <|
 .ret false) <|
 .ret false) <|
 .ret false) <|
 .ret false) <|
 .ret false) <|
 .ret false
def rolodexref15_Same (N : Nat) (a0 : T_api_Op) (a1 : T_api_Op) : Option (Bool) := (rolodexref15_Same_t N a0 a1).run some
def rolodexref15_Same_L (N : Nat) : List (Nat × LEnt) := []
def rolodexref15_Same_s (N : Nat) : Ent := smF ⟨18, [], [.x t_api_Op, .x t_api_Op], [], []⟩ [t_api_Op, t_api_Op] (Bool) (fun x => rolodexref15_Same N x.1 x.2.1) cs1 fun _ => rolodexref15_Same_o
theorem rolodexref15_Same_ok (N : Nat) : SmOK Try.prog (rolodexref15_Same_s N) :=
  fn_ok (H := rolodexref15_Same_H) (L := lenv (rolodexref15_Same_L N)) (ts := [t_api_Op, t_api_Op]) (T := fun x => rolodexref15_Same_t N x.1 x.2.1) 0 Try_F18 (rolodexref15_Same_Eok N) (lenv_ok (by kernel_rfl) trivial) (rg0 (by kernel_rfl)) fun x => by kernel_rfl
noncomputable def Try_b11 : Code := Try.f11.body.getD .skip
theorem Try_F11 : FnF Try.prog 11 Try.f11 Try_b11 := ⟨Try_draw, by kernel_rfl, by kernel_rfl, by kernel_rfl⟩
def rolodexref16_Same_H : TH := { live := [(0, [0, 1]), (1, [0, 1, 11]), (2, [4]), (3, [0, 1, 5]), (4, [0, 1, 5, 15]), (5, [0, 1, 5]), (6, [0, 1, 5, 6]), (7, [0, 1, 5, 28]), (8, [4]), (9, [4])] }
def rolodexref16_Same_E (N : Nat) : List Ent := [rolodexref15_Same_s N]
theorem rolodexref16_Same_Eok (N : Nat) : SmAll Try.prog (rolodexref16_Same_E N) := ⟨rolodexref15_Same_ok N, trivial⟩
abbrev rolodexref16_Same_l4_F := List T_api_Op × List T_api_Op
abbrev rolodexref16_Same_l4_Y := Unit ⊕ (Int × Bool)
def rolodexref16_Same_l4_o (f : rolodexref16_Same_l4_F) : rolodexref16_Same_l4_Y → Ex × TSt
 | .inl y => (.ret, ⟨0, 29, [], [(4, .bc false)], [], false, []⟩)
 | .inr y => (.exit 0, ⟨0, 29, [], [(0, .tv (.sl 71 t_api_Op) f.1), (1, .tv (.sl 71 t_api_Op) f.2), (5, xi y.1), (15, xb y.2)], [], false, []⟩)
def rolodexref16_Same_l4_L (N : Nat) : List (Nat × LEnt) := []
abbrev rolodexref16_Same_l4_V := Int
def rolodexref16_Same_l4_p : SP := ⟨0, 29, [], [(0, .x (.sl 71 t_api_Op)), (1, .x (.sl 71 t_api_Op)), (5, .x (.i .i64))], [], false, []⟩
def rolodexref16_Same_l4_h (f : rolodexref16_Same_l4_F) (v : rolodexref16_Same_l4_V) : TSt := fillS rolodexref16_Same_l4_p [dv (.sl 71 t_api_Op) f.1, dv (.sl 71 t_api_Op) f.2, dv (.i .i64) v]
def rolodexref16_Same_l4_t (N : Nat) (s0_4 : List T_api_Op) (s1_4 : List T_api_Op) (v : rolodexref16_Same_l4_V) : Tree (rolodexref16_Same_l4_V ⊕ rolodexref16_Same_l4_Y) :=
 .cond (decide (v < ((s0_4.length : Nat) : Int))) (
 .bind (getI s0_4 v) fun e1 =>
 .bind (getI s1_4 v) fun e2 =>
 .bind (rolodexref15_Same N e1 e2) fun r3 =>
 .cond (!r3) (
 .ret (.inr (.inl ()))) <|
 .chk (in64 (v + 1)) <|
 .ret (.inl (v + 1))) <|
 .ret (.inr (.inr ((v, decide (v < ((s0_4.length : Nat) : Int))))))
def rolodexref16_Same_l4_n (N n : Nat) (f : rolodexref16_Same_l4_F) (v : rolodexref16_Same_l4_V) : Option rolodexref16_Same_l4_Y := loopG (rolodexref16_Same_l4_t N f.1 f.2) some n v
theorem rolodexref16_Same_l4_q (N : Nat) (f : rolodexref16_Same_l4_F) (n : Nat) (v : rolodexref16_Same_l4_V) (y : rolodexref16_Same_l4_Y) (h : rolodexref16_Same_l4_n N n f v = some y) : LG Try.prog rolodexref16_Same_H 11 (lookC Try_b11 4) (rolodexref16_Same_l4_h f v) (rolodexref16_Same_l4_o f y) :=
  loop_g (E := rolodexref16_Same_E N) (L := lenv (rolodexref16_Same_l4_L N)) (st := rolodexref16_Same_l4_o f) (g := some) (R := rolodexref16_Same_l4_o f) (rolodexref16_Same_Eok N) (lenv_ok (by kernel_rfl) trivial) (rg0 (by kernel_rfl)) (fun v => by kernel_rfl) (good_self (st := rolodexref16_Same_l4_o f) fun y => by rcases y with _ | _ <;> rfl) n v y h
def rolodexref16_Same_l4 (N : Nat) (s0_4 : List T_api_Op) (s1_4 : List T_api_Op) (s5_4 : Int) : Option rolodexref16_Same_l4_Y := rolodexref16_Same_l4_n N N (s0_4, s1_4) s5_4
def rolodexref16_Same_l4_s (N : Nat) : LEnt := smL rolodexref16_Same_l4_p [(.sl 71 t_api_Op), (.sl 71 t_api_Op), (.i .i64)] rolodexref16_Same_l4_Y (fun x => rolodexref16_Same_l4 N x.1 x.2.1 x.2.2.1) (csS cs1) fun x => rolodexref16_Same_l4_o (x.1, x.2.1)
theorem rolodexref16_Same_l4_ok (N : Nat) : LsOK Try.prog rolodexref16_Same_H 11 (lookC Try_b11 4) (rolodexref16_Same_l4_s N) := smL_ok fun x z h => rolodexref16_Same_l4_q N (x.1, x.2.1) N x.2.2.1 z h
def rolodexref16_Same_o (z : Bool) : TV × THp := (xb z, [])
def rolodexref16_Same_t (N : Nat) (a0 : List T_api_Op) (a1 : List T_api_Op) : Tree (Bool) :=
 .cond (!decide (((a0.length : Nat) : Int) = ((a1.length : Nat) : Int))) (
 .ret false) <|
 .bind (rolodexref16_Same_l4 N a0 a1 0) fun z1 =>
 .sum z1 (fun z2 =>
 .ret false) fun z2 =>
 .ret true
def rolodexref16_Same (N : Nat) (a0 : List T_api_Op) (a1 : List T_api_Op) : Option (Bool) := (rolodexref16_Same_t N a0 a1).run some
def rolodexref16_Same_L (N : Nat) : List (Nat × LEnt) := [(4, rolodexref16_Same_l4_s N)]
def rolodexref16_Same_s (N : Nat) : Ent := smF ⟨11, [], [.x (.sl 71 t_api_Op), .x (.sl 71 t_api_Op)], [], []⟩ [(.sl 71 t_api_Op), (.sl 71 t_api_Op)] (Bool) (fun x => rolodexref16_Same N x.1 x.2.1) cs1 fun _ => rolodexref16_Same_o
theorem rolodexref16_Same_ok (N : Nat) : SmOK Try.prog (rolodexref16_Same_s N) :=
  fn_ok (H := rolodexref16_Same_H) (L := lenv (rolodexref16_Same_L N)) (ts := [(.sl 71 t_api_Op), (.sl 71 t_api_Op)]) (T := fun x => rolodexref16_Same_t N x.1 x.2.1) 0 Try_F11 (rolodexref16_Same_Eok N) (lenv_ok (by kernel_rfl) ⟨rolodexref16_Same_l4_ok N, trivial⟩) (rg0 (by kernel_rfl)) fun x => by kernel_rfl
noncomputable def Try_b7 : Code := Try.f7.body.getD .skip
theorem Try_F7 : FnF Try.prog 7 Try.f7 Try_b7 := ⟨Try_draw, by kernel_rfl, by kernel_rfl, by kernel_rfl⟩
def rolodexlaw17_OrderFree_H : TH := { live := [(0, [4, 5, 6, 7]), (1, [4, 5, 6, 7, 9]), (2, [4, 5, 9, 10]), (3, [4, 5, 10, 29]), (4, [8]), (5, [4, 5, 10, 11]), (6, [4, 5, 10, 11, 12]), (7, [4, 5, 10, 11, 12, 37]), (8, [13]), (9, [8]), (10, [4, 5, 10, 48]), (11, [14]), (12, [8]), (13, [8])], dec := [25, 45] }
def rolodexlaw17_OrderFree_E (N : Nat) : List Ent := [rolodexlaw17_awake_s N, order_Sort_s N, order_Reads_s, rolodexref16_Same_s N]
theorem rolodexlaw17_OrderFree_Eok (N : Nat) : SmAll Try.prog (rolodexlaw17_OrderFree_E N) := ⟨rolodexlaw17_awake_ok N, order_Sort_ok N, order_Reads_ok, rolodexref16_Same_ok N, trivial⟩
def rolodexlaw17_OrderFree_o (z : Bool) : TV × THp := (xb z, [])
def rolodexlaw17_OrderFree_t (N : Nat) (a0 : T_api_Op) (a1 : T_api_Op) (a2 : T_api_Op) (a3 : T_api_Op) : Tree (Bool) :=
 .bind (rolodexlaw17_awake N) fun r1 =>
 .bind (order_Sort N [a0, a1] [a2, a3]) fun r2 =>
 .cond (!r1) (
 .ret false) <|
 .cond (!decide (((r2.length : Nat) : Int) = ((2 : Int)))) (
 .ret false) <|
 .bind (order_Reads a0 a1) fun r3 =>
 .bind (order_Reads a1 a0) fun r4 =>
 .cond (!r4) (
 .bind (rolodexref16_Same N r2 [a0, a1]) fun r5 =>
 .ret r5) <|
 .cond r4 (
 .cond (!r3) (
 .bind (rolodexref16_Same N r2 [a1, a0]) fun r5 =>
 .ret r5) <|
 .ret true) <|
 .ret true
def rolodexlaw17_OrderFree (N : Nat) (a0 : T_api_Op) (a1 : T_api_Op) (a2 : T_api_Op) (a3 : T_api_Op) : Option (Bool) := (rolodexlaw17_OrderFree_t N a0 a1 a2 a3).run some
def rolodexlaw17_OrderFree_L (N : Nat) : List (Nat × LEnt) := []
def rolodexlaw17_OrderFree_s (N : Nat) : Ent := smF ⟨7, [], [.x t_api_Op, .x t_api_Op, .x t_api_Op, .x t_api_Op], [], []⟩ [t_api_Op, t_api_Op, t_api_Op, t_api_Op] (Bool) (fun x => rolodexlaw17_OrderFree N x.1 x.2.1 x.2.2.1 x.2.2.2.1) cs1 fun _ => rolodexlaw17_OrderFree_o
theorem rolodexlaw17_OrderFree_val (N : Nat) : FnVal Try.prog ⟨7, [], [.x t_api_Op, .x t_api_Op, .x t_api_Op, .x t_api_Op], [], []⟩ [t_api_Op, t_api_Op, t_api_Op, t_api_Op] (fun x => rolodexlaw17_OrderFree_t N x.1 x.2.1 x.2.2.1 x.2.2.2.1) (fun _ => rolodexlaw17_OrderFree_o) :=
  fn_val (H := rolodexlaw17_OrderFree_H) (L := lenv (rolodexlaw17_OrderFree_L N)) 0 Try_F7 (rolodexlaw17_OrderFree_Eok N) (lenv_ok (by kernel_rfl) trivial) (rg0 (by kernel_rfl)) fun x => by kernel_rfl
end Go.Rx
set_option maxRecDepth 100000
namespace Go.Rx
open Go.Proofs
def zOp : T_api_Op := T_api_Op.mk 0 (Vector.replicate 16 0) (T_api_Stamp.mk 0 0) 0 [] [] (Vector.replicate 16 0) 0 (Vector.replicate 32 0)
def rdO (a : T_api_Op) : Bool := decide (T_api_Op.Kind a = 2) || decide (T_api_Op.Kind a = 3)
def readsO (a b : T_api_Op) : Bool :=
  if T_api_Op.Kind a = 2 then decide (T_api_Op.From a = T_api_Op.ID b) && (decide (T_api_Op.Kind b = 0) || decide (T_api_Op.FromNo a = T_api_Op.No b))
  else if T_api_Op.Kind a = 3 then decide (T_api_Op.ID a = T_api_Op.ID b) && (decide (T_api_Op.Kind b = 0) || decide (T_api_Op.No a = T_api_Op.No b)) else false
theorem eqE_dec {t : Ty} {x y : El t} {p : Prop} [Decidable p] (h : x = y ↔ p) : eqE t x y = decide p := by
  rw [Bool.eq_iff_iff, eqE_iff, h, decide_eq_true_iff]
def placeO (a : T_api_Op) : T_order_place := if T_api_Op.Kind a = 2 then (T_api_Op.From a, T_api_Op.FromNo a) else if T_api_Op.Kind a = 3 then (T_api_Op.ID a, T_api_Op.No a) else (Vector.replicate 16 0, 0)
theorem read_ok (a : T_api_Op) : order_read a = some (placeO a, rdO a) := by
  unfold order_read order_read_t rdO placeO
  simp only [Tree.run]
  by_cases h : T_api_Op.Kind a = 2
  · rw [decide_eq_true h, if_pos h]; rfl
  · rw [decide_eq_false h, if_neg h]
    by_cases h3 : T_api_Op.Kind a = 3
    · rw [decide_eq_true h3, if_pos h3]; rfl
    · rw [decide_eq_false h3, if_neg h3]; rfl
theorem Reads_ok (a b : T_api_Op) : order_Reads a b = some (readsO a b) := by
  unfold order_Reads order_Reads_t
  simp only [Tree.run, read_ok, Option.bind_some]
  unfold readsO rdO placeO
  have e2 : ∀ x : Vector UInt8 16 × Int, eqE t_order_place x (T_order_place.mk (T_api_Op.ID b) (T_api_Op.No b)) = (decide (x.1 = T_api_Op.ID b) && decide (x.2 = T_api_Op.No b)) := fun x => by
    rw [← Bool.decide_and]
    exact eqE_dec (t := t_order_place) (by constructor
                                           · intro h; rw [h]; exact ⟨rfl, rfl⟩
                                           · intro h; exact Prod.ext h.1 h.2)
  have e1 : ∀ x y : Vector UInt8 16, eqE (.ba 16) x y = decide (x = y) := fun x y => eqE_dec (t := .ba 16) Iff.rfl
  rw [e1, e2]
  by_cases hb : T_api_Op.Kind b = 0 <;> by_cases h : T_api_Op.Kind a = 2 <;> by_cases h3 : T_api_Op.Kind a = 3 <;> simp [hb, h, h3, T_order_place.id]
def freeO (l : List T_api_Op) (left : List Bool) (i : Nat) : Bool :=
  (firstF (fun k => !decide (k = i) && left.getD k false && readsO (l.getD k zOp) (l.getD i zOp)) l.length 0).isNone
def fstFree (l : List T_api_Op) (left : List Bool) : Option Nat := firstF (fun i => left.getD i false && freeO l left i) l.length 0
def fstRead (l : List T_api_Op) (left told : List Bool) : Option Nat := firstF (fun i => left.getD i false && (rdO (l.getD i zOp) && !told.getD i false)) l.length 0
def fstAny (l : List T_api_Op) (left : List Bool) : Option Nat := firstF (fun i => left.getD i false) l.length 0
def MapB (m : List (Int × Bool × Nat)) (f : List Bool) : Prop := ∀ k : Nat, valM (k : Int) m = if f.getD k false then some true else none
theorem int_at {l : List T_api_Op} {k : Nat} (h : k < l.length) : (0 : Int) ≤ (k : Int) ∧ (k : Int) < ((l.length : Nat) : Int) := by omega
theorem in64_succ {k : Nat} (h : k ≤ 1000) : in64 ((k + 1 : Nat) : Int) := by unfold in64; omega
theorem dec_ne {i k : Nat} : (!decide ((k : Int) = (i : Int))) = !decide (k = i) := by
  congr 1
  exact decide_eq_decide.2 (by omega)
theorem free_round {N c1 c2 : Nat} {m1 m2 : List (Int × Bool × Nat)} {out l whole : List T_api_Op} {left : List Bool} {i k : Nat} (hm : MapB m1 left) (hi : i < l.length) (hl : l.length ≤ 200) (hk : k < l.length) :
    (order_sorter_free_l2_t N c1 m1 c2 m2 out l whole (i : Int) ((l.length : Nat) : Int) (k : Int)).run some = some (if (!decide (k = i) && left.getD k false && readsO (l.getD k zOp) (l.getD i zOp)) then .inr (.inr ()) else .inl ((k + 1 : Nat) : Int)) := by
  unfold order_sorter_free_l2_t
  simp only [Tree.run, dec_lt hk, cond_true, dec_ne, int_succ, chk_pos' (in64_succ (k := k) (by omega))]
  have hv := hm k
  cases hd : decide (k = i) with
  | true => rfl
  | false =>
    cases hf : left.getD k false with
    | false =>
      rw [hf] at hv
      rw [fndV_none (by simpa using hv)]
      rfl
    | true =>
      rw [hf] at hv
      obtain ⟨c, hc⟩ := fndV_some (x := true) (by simpa using hv)
      rw [hc]
      simp only [optcase, cond_true, Bool.not_false, chk_pos' (int_at hk), chk_pos' (int_at hi), Int.toNat_natCast, getV_D (d := zOp) rfl hk, getV_D (d := zOp) rfl hi, Option.bind_some, Reads_ok]
      cases readsO (l.getD k zOp) (l.getD i zOp) <;> rfl
theorem free_end {N c1 c2 : Nat} {m1 m2 : List (Int × Bool × Nat)} {out l whole : List T_api_Op} {i : Int} :
    (order_sorter_free_l2_t N c1 m1 c2 m2 out l whole i ((l.length : Nat) : Int) ((l.length : Nat) : Int)).run some = some (.inr (.inl (((l.length : Nat) : Int), decide (((l.length : Nat) : Int) < ((l.length : Nat) : Int))))) := by
  unfold order_sorter_free_l2_t
  simp only [Tree.run, dec_nlt (Nat.lt_irrefl l.length), cond_false]
theorem free_ok {N c1 c2 : Nat} {m1 m2 : List (Int × Bool × Nat)} {out l whole : List T_api_Op} {left : List Bool} {i : Nat} (hm : MapB m1 left) (hi : i < l.length) (hl : l.length ≤ 200) (hN : 300 < N) :
    order_sorter_free N c1 m1 c2 m2 out l whole (i : Int) = some (freeO l left i) := by
  have key := loop_find (B := order_sorter_free_l2_t N c1 m1 c2 m2 out l whole (i : Int) ((l.length : Nat) : Int)) (g := some) (n := l.length)
    (p := fun k => !decide (k = i) && left.getD k false && readsO (l.getD k zOp) (l.getD i zOp)) (hit := fun _ => .inr ())
    (fun k hk => free_round hm hi hl hk) free_end N 0 (by omega) (by omega)
  unfold order_sorter_free order_sorter_free_t
  simp only [Tree.run, chkLs_pos, chkLs_nil]
  have e : order_sorter_free_l2 N c1 m1 c2 m2 out l whole (i : Int) ((l.length : Nat) : Int) 0 = loopG (order_sorter_free_l2_t N c1 m1 c2 m2 out l whole (i : Int) ((l.length : Nat) : Int)) some N ((0 : Nat) : Int) := rfl
  rw [e, key, Option.bind_some]
  unfold freeO
  simp only [Nat.sub_zero]
  cases firstF (fun k => !decide (k = i) && left.getD k false && readsO (l.getD k zOp) (l.getD i zOp)) l.length 0 <;> rfl
theorem reads_ok {c1 c2 : Nat} {m1 m2 : List (Int × Bool × Nat)} {out l whole : List T_api_Op} {told : List Bool} {i : Nat} (hm : MapB m2 told) (hi : i < l.length) :
    order_sorter_reads c1 m1 c2 m2 out l whole (i : Int) = some (rdO (l.getD i zOp) && !told.getD i false) := by
  unfold order_sorter_reads order_sorter_reads_t
  simp only [Tree.run, chk_pos' (int_at hi), Int.toNat_natCast, getV_D (d := zOp) rfl hi, Option.bind_some, read_ok]
  cases rdO (l.getD i zOp) with
  | false => rfl
  | true =>
    have hv := hm i
    cases hf : told.getD i false with
    | false =>
      rw [hf] at hv
      rw [fndV_none (by simpa using hv)]
      rfl
    | true =>
      rw [hf] at hv
      obtain ⟨c, hc⟩ := fndV_some (x := true) (by simpa using hv)
      rw [hc]
      rfl
def ansO : Option Nat → Int × Bool
  | some i => ((i : Int), true)
  | none => (0, false)
theorem first_round {N c1 c2 : Nat} {m1 m2 : List (Int × Bool × Nat)} {out l whole : List T_api_Op} {left told : List Bool} {k : Nat} (hm : MapB m1 left) (hm2 : MapB m2 told) (hl : l.length ≤ 200) (hN : 300 < N) (hk : k < l.length) :
    (order_sorter_first_l2_t N c1 m1 c2 m2 out l whole ((l.length : Nat) : Int) (k : Int)).run some = some (if left.getD k false && freeO l left k then .inr (.inr (k : Int)) else .inl ((k + 1 : Nat) : Int)) := by
  unfold order_sorter_first_l2_t
  simp only [Tree.run, dec_lt hk, cond_true, int_succ, chk_pos' (in64_succ (k := k) (by omega)), chkLs_pos, chkLs_nil]
  have hv := hm k
  cases hf : left.getD k false with
  | false =>
    rw [hf] at hv
    rw [fndV_none (by simpa using hv)]
    rfl
  | true =>
    rw [hf] at hv
    obtain ⟨c, hc⟩ := fndV_some (x := true) (by simpa using hv)
    rw [hc]
    simp only [optcase, cond_true, free_ok hm hk hl hN, Option.bind_some]
    cases freeO l left k <;> rfl
theorem first_ok {N c1 c2 : Nat} {m1 m2 : List (Int × Bool × Nat)} {out l whole : List T_api_Op} {left told : List Bool} (hm : MapB m1 left) (hm2 : MapB m2 told) (hl : l.length ≤ 200) (hN : 300 < N) :
    order_sorter_first N c1 m1 c2 m2 out l whole = some (ansO (firstF (fun k => left.getD k false && freeO l left k) l.length 0)) := by
  have key := loop_find (B := order_sorter_first_l2_t N c1 m1 c2 m2 out l whole ((l.length : Nat) : Int)) (g := some) (n := l.length)
    (p := fun k => left.getD k false && freeO l left k) (hit := fun (k : Nat) => .inr (k : Int)) (fin := .inl (((l.length : Nat) : Int), false))
    (fun k hk => first_round hm hm2 hl hN hk) (by
      unfold order_sorter_first_l2_t
      simp only [Tree.run, dec_nlt (Nat.lt_irrefl l.length), cond_false]) N 0 (by omega) (by omega)
  unfold order_sorter_first order_sorter_first_t
  simp only [Tree.run, chkLs_pos, chkLs_nil]
  have e : order_sorter_first_l2 N c1 m1 c2 m2 out l whole ((l.length : Nat) : Int) 0 = loopG (order_sorter_first_l2_t N c1 m1 c2 m2 out l whole ((l.length : Nat) : Int)) some N ((0 : Nat) : Int) := rfl
  rw [e, key, Option.bind_some]
  simp only [Nat.sub_zero]
  cases firstF (fun k => left.getD k false && freeO l left k) l.length 0 <;> rfl
theorem first_2_round {N c1 c2 : Nat} {m1 m2 : List (Int × Bool × Nat)} {out l whole : List T_api_Op} {left told : List Bool} {k : Nat} (hm : MapB m1 left) (hm2 : MapB m2 told) (hl : l.length ≤ 200) (hN : 300 < N) (hk : k < l.length) :
    (order_sorter_first_2_l2_t N c1 m1 c2 m2 out l whole ((l.length : Nat) : Int) (k : Int)).run some = some (if left.getD k false && (rdO (l.getD k zOp) && !told.getD k false) then .inr (.inr (k : Int)) else .inl ((k + 1 : Nat) : Int)) := by
  unfold order_sorter_first_2_l2_t
  simp only [Tree.run, dec_lt hk, cond_true, int_succ, chk_pos' (in64_succ (k := k) (by omega)), chkLs_pos, chkLs_nil]
  have hv := hm k
  cases hf : left.getD k false with
  | false =>
    rw [hf] at hv
    rw [fndV_none (by simpa using hv)]
    rfl
  | true =>
    rw [hf] at hv
    obtain ⟨c, hc⟩ := fndV_some (x := true) (by simpa using hv)
    rw [hc]
    simp only [optcase, cond_true, reads_ok (c1 := c1) (m1 := m1) (out := out) (whole := whole) (c2 := c2) hm2 hk, Option.bind_some]
    cases (rdO (l.getD k zOp) && !told.getD k false) <;> rfl
theorem first_2_ok {N c1 c2 : Nat} {m1 m2 : List (Int × Bool × Nat)} {out l whole : List T_api_Op} {left told : List Bool} (hm : MapB m1 left) (hm2 : MapB m2 told) (hl : l.length ≤ 200) (hN : 300 < N) :
    order_sorter_first_2 N c1 m1 c2 m2 out l whole = some (ansO (firstF (fun k => left.getD k false && (rdO (l.getD k zOp) && !told.getD k false)) l.length 0)) := by
  have key := loop_find (B := order_sorter_first_2_l2_t N c1 m1 c2 m2 out l whole ((l.length : Nat) : Int)) (g := some) (n := l.length)
    (p := fun k => left.getD k false && (rdO (l.getD k zOp) && !told.getD k false)) (hit := fun (k : Nat) => .inr (k : Int)) (fin := .inl (((l.length : Nat) : Int), false))
    (fun k hk => first_2_round hm hm2 hl hN hk) (by
      unfold order_sorter_first_2_l2_t
      simp only [Tree.run, dec_nlt (Nat.lt_irrefl l.length), cond_false]) N 0 (by omega) (by omega)
  unfold order_sorter_first_2 order_sorter_first_2_t
  simp only [Tree.run, chkLs_pos, chkLs_nil]
  have e : order_sorter_first_2_l2 N c1 m1 c2 m2 out l whole ((l.length : Nat) : Int) 0 = loopG (order_sorter_first_2_l2_t N c1 m1 c2 m2 out l whole ((l.length : Nat) : Int)) some N ((0 : Nat) : Int) := rfl
  rw [e, key, Option.bind_some]
  simp only [Nat.sub_zero]
  cases firstF (fun k => left.getD k false && (rdO (l.getD k zOp) && !told.getD k false)) l.length 0 <;> rfl
theorem first_3_round {N c1 c2 : Nat} {m1 m2 : List (Int × Bool × Nat)} {out l whole : List T_api_Op} {left told : List Bool} {k : Nat} (hm : MapB m1 left) (hm2 : MapB m2 told) (hl : l.length ≤ 200) (hN : 300 < N) (hk : k < l.length) :
    (order_sorter_first_3_l2_t N c1 m1 c2 m2 out l whole ((l.length : Nat) : Int) (k : Int)).run some = some (if left.getD k false && true then .inr (.inr (k : Int)) else .inl ((k + 1 : Nat) : Int)) := by
  unfold order_sorter_first_3_l2_t
  simp only [Tree.run, dec_lt hk, cond_true, int_succ, chk_pos' (in64_succ (k := k) (by omega)), chkLs_pos, chkLs_nil]
  have hv := hm k
  cases hf : left.getD k false with
  | false =>
    rw [hf] at hv
    rw [fndV_none (by simpa using hv)]
    rfl
  | true =>
    rw [hf] at hv
    obtain ⟨c, hc⟩ := fndV_some (x := true) (by simpa using hv)
    rw [hc]
    simp only [optcase, cond_true, order_Sort_1, order_Sort_1_t, Tree.run, Option.bind_some]
    rfl
theorem first_3_ok {N c1 c2 : Nat} {m1 m2 : List (Int × Bool × Nat)} {out l whole : List T_api_Op} {left told : List Bool} (hm : MapB m1 left) (hm2 : MapB m2 told) (hl : l.length ≤ 200) (hN : 300 < N) :
    order_sorter_first_3 N c1 m1 c2 m2 out l whole = some (ansO (firstF (fun k => left.getD k false && true) l.length 0)) := by
  have key := loop_find (B := order_sorter_first_3_l2_t N c1 m1 c2 m2 out l whole ((l.length : Nat) : Int)) (g := some) (n := l.length)
    (p := fun k => left.getD k false && true) (hit := fun (k : Nat) => .inr (k : Int)) (fin := .inl (((l.length : Nat) : Int), false))
    (fun k hk => first_3_round hm hm2 hl hN hk) (by
      unfold order_sorter_first_3_l2_t
      simp only [Tree.run, dec_nlt (Nat.lt_irrefl l.length), cond_false]) N 0 (by omega) (by omega)
  unfold order_sorter_first_3 order_sorter_first_3_t
  simp only [Tree.run, chkLs_pos, chkLs_nil]
  have e : order_sorter_first_3_l2 N c1 m1 c2 m2 out l whole ((l.length : Nat) : Int) 0 = loopG (order_sorter_first_3_l2_t N c1 m1 c2 m2 out l whole ((l.length : Nat) : Int)) some N ((0 : Nat) : Int) := rfl
  rw [e, key, Option.bind_some]
  simp only [Nat.sub_zero]
  cases firstF (fun k => left.getD k false && true) l.length 0 <;> rfl
end Go.Rx
set_option maxRecDepth 100000
namespace Go.Rx
open Go.Proofs
def SmallO (o : T_api_Op) : Prop := (T_api_Op.P o).length * 40 ≤ 140737488351232
theorem zOp_small : SmallO zOp := by show (0 : Nat) * 40 ≤ 140737488351232; omega
theorem own_ok {o : T_api_Op} (h : SmallO o) : order_own o = some () := by
  unfold order_own order_own_t
  simp only [Tree.run]
  have : slices_Clone_PieceW (T_api_Op.P o) = some () := by
    unfold slices_Clone_PieceW
    unfold SmallO at h
    cases hp : T_api_Op.P o with
    | nil => rfl
    | cons x xs =>
      rw [hp] at h
      show slices_Clone_Piece (x :: xs) = some ()
      unfold slices_Clone_Piece slices_Clone_Piece_t
      simp only [Tree.run]
      rw [chk_pos' (by rfl), chk_pos' ⟨by rfl, by simp only [List.nil_append]; exact Nat.le_trans h (by decide)⟩]
      exact chk_pos' trivial
  rw [this]; rfl
theorem get_small {l : List T_api_Op} (h : ∀ o ∈ l, SmallO o) (i : Nat) : SmallO (l.getD i zOp) := by
  by_cases hi : i < l.length
  · have : l.getD i zOp = l[i] := by simp [List.getD, List.getElem?_eq_getElem hi]
    rw [this]; exact h _ (List.getElem_mem hi)
  · have : l.getD i zOp = zOp := by simp [List.getD, List.getElem?_eq_none (Nat.le_of_not_lt hi)]
    rw [this]; exact zOp_small
theorem next_ok {c1 c2 : Nat} {m1 m2 : List (Int × Bool × Nat)} {out l whole : List T_api_Op} {i : Nat} (hi : i < l.length) (hs : ∀ o ∈ l, SmallO o) (ho : out.length ≤ 1000) :
    order_sorter_next c1 m1 c2 m2 out l whole (i : Int) = some (out ++ [l.getD i zOp]) := by
  unfold order_sorter_next order_sorter_next_t
  simp only [Tree.run, chk_pos' (int_at hi), Int.toNat_natCast, getV_D (d := zOp) rfl hi, Option.bind_some, own_ok (get_small hs i)]
  refine chk_pos' ⟨rfl, ?_⟩
  rw [List.length_append, List.length_singleton]
  exact Nat.le_trans (Nat.mul_le_mul_right 144 (Nat.succ_le_succ ho)) (by decide)
theorem putE_eq {k : Int} {x : Bool} {c : Nat} {m : List (Int × Bool × Nat)} : putE (.i .i64) k x c m = putM k x c m := by
  unfold putE
  congr 1
  exact Subsingleton.elim _ _
theorem delE_eq {k : Int} {m : List (Int × Bool × Nat)} : delE (β := Bool) (.i .i64) k m = delM k m := by
  unfold delE
  congr 1
  exact Subsingleton.elim _ _
def sortF (whole : List T_api_Op) : Nat → List T_api_Op → List Bool → List Bool → List T_api_Op → List T_api_Op
  | 0, _, _, _, out => out
  | F + 1, l, left, told, out =>
    match fstFree l left with
    | some i => sortF whole F l (left.set i false) told (out ++ [l.getD i zOp])
    | none => match fstRead l left told with
      | some i => sortF whole F (l.set i (whole.getD i zOp)) left (told.set i true) out
      | none => match fstAny l left with
        | some i => sortF whole F l (left.set i false) told (out ++ [l.getD i zOp])
        | none => out
def sortO (l whole : List T_api_Op) : List T_api_Op := sortF whole (2 * l.length + 1) l (List.replicate l.length true) (List.replicate l.length false) []
theorem mapB_del {m : List (Int × Bool × Nat)} {left : List Bool} {i : Nat} (h : MapB m left) (hk : KeysOK m) (hi : i < left.length) : MapB (delM (i : Int) m) (left.set i false) := by
  intro k
  rw [valM_del hk, getD_setD hi, h k]
  by_cases e : k = i
  · subst e; simp
  · rw [if_neg (by omega), if_neg e]
theorem mapB_app {m : List (Int × Bool × Nat)} {told : List Bool} {i c : Nat} (h : MapB m told) (hi : i < told.length) (hn : told.getD i false = false) : MapB (m ++ [((i : Int), true, c)]) (told.set i true) := by
  intro k
  have h0 := h i
  rw [hn] at h0
  rw [valM_app (by simpa using h0), getD_setD hi, h k]
  by_cases e : k = i
  · subst e; simp
  · rw [if_neg (by omega), if_neg e]
theorem set_small {l : List T_api_Op} (h : ∀ o ∈ l, SmallO o) {i : Nat} {x : T_api_Op} (hx : SmallO x) : ∀ o ∈ l.set i x, SmallO o := fun o ho => by
  rcases List.mem_or_eq_of_mem_set ho with h1 | rfl
  · exact h o h1
  · exact hx
theorem l9_ok {N c1 : Nat} {whole : List T_api_Op} (hN : 300 < N) (hw : ∀ o ∈ whole, SmallO o) : ∀ (F n c2 cap : Nat) (m1 m2 : List (Int × Bool × Nat)) (out l : List T_api_Op) (left told : List Bool),
    MapB m1 left → KeysOK m1 → MapB m2 told → BornOK m2 c2 → left.length = l.length → told.length = l.length → whole.length = l.length → l.length ≤ 200 → (∀ o ∈ l, SmallO o) → cap = l.length → out.length + countF left ≤ 200 →
    countF left + uncountF told < F → F ≤ n → ∃ y : order_Sort_l9_Y, loopG (order_Sort_l9_t N c1 whole) some n (m1, c2, m2, out, l, cap) = some y ∧ y.2.2.2.1 = sortF whole F l left told out
  | 0, n, c2, cap, m1, m2, out, l, left, told, _, _, _, _, _, _, _, _, _, _, _, hF, _ => by omega
  | F + 1, 0, c2, cap, m1, m2, out, l, left, told, _, _, _, _, _, _, _, _, _, _, _, _, hn => by omega
  | F + 1, n + 1, c2, cap, m1, m2, out, l, left, told, h1, h2, h3, h4, h5, h6, h7, h8, h9, h10, h11, hF, hn => by
    subst h10
    have e1 := first_ok (N := N) (c1 := c1) (c2 := c2) (out := out) (whole := whole) h1 h3 h8 hN
    have e2 := first_2_ok (N := N) (c1 := c1) (c2 := c2) (out := out) (whole := whole) h1 h3 h8 hN
    have e3 := first_3_ok (N := N) (c1 := c1) (c2 := c2) (out := out) (whole := whole) h1 h3 h8 hN
    unfold sortF
    cases g1 : fstFree l left with
    | some i =>
      have g1' := g1
      unfold fstFree at g1'
      obtain ⟨p1, p2, p3, p4⟩ := firstF_some g1'
      simp only [Bool.and_eq_true] at p1
      have hi : i < l.length := by omega
      have hc := countF_set left i p1.1
      have hr : (order_Sort_l9_t N c1 whole (m1, c2, m2, out, l, l.length)).run some = some (.inl (delM (i : Int) m1, c2, m2, out ++ [l.getD i zOp], l, l.length)) := by
        have e4 := next_ok (c1 := c1) (c2 := c2) (m1 := m1) (m2 := m2) (out := out) (whole := whole) hi h9 (by omega)
        unfold order_Sort_l9_t
        simp only [Tree.run, chkLs_pos, chkLs_nil, e1, g1', ansO, Option.bind_some, cond_true, e4, delE_eq]
      rw [loop_next hr]
      exact l9_ok hN hw F n c2 _ _ m2 _ l (left.set i false) told (mapB_del h1 h2 (by omega)) (keys_del h2).1 h3 h4 (by rw [List.length_set]; exact h5) h6 h7 h8 h9 rfl (by rw [List.length_append, List.length_singleton]; omega) (by omega) (by omega)
    | none =>
      have g1' := g1
      unfold fstFree at g1'
      simp only
      cases g2 : fstRead l left told with
      | some i =>
        have g2' := g2
        unfold fstRead at g2'
        obtain ⟨p1, p2, p3, p4⟩ := firstF_some g2'
        simp only [Bool.and_eq_true, Bool.not_eq_true'] at p1
        have hi : i < l.length := by omega
        have hc := uncountF_set told i (by omega) p1.2.2
        have hv := h3 i
        rw [p1.2.2] at hv
        have hv : valM (i : Int) m2 = none := by simpa using hv
        have hr : (order_Sort_l9_t N c1 whole (m1, c2, m2, out, l, l.length)).run some = some (.inl (m1, c2 + 1, m2 ++ [((i : Int), true, c2)], out, l.set i (whole.getD i zOp), l.length)) := by
          have e5 : atM (c2 : Int) true (m2 ++ [((i : Int), false, c2)]) = some (m2 ++ [((i : Int), true, c2)]) := at_new h4
          have e6 : vecOK l.length l.length i := ⟨rfl, hi⟩
          unfold order_Sort_l9_t
          simp only [Tree.run, chkLs_pos, chkLs_nil, e1, g1', ansO, Option.bind_some, cond_false, e2, g2', cond_true, getI_D (d := zOp) (show i < whole.length by omega), chk_pos' (int_at hi), Int.toNat_natCast, fndV_none hv, optcase, putE_eq, putM_none hv, chk_pos' e6]
          exact congrArg (fun o => Option.bind o fun x => some (Sum.inl (m1, c2 + 1, x, out, l.set i (whole.getD i zOp), l.length))) e5
        rw [loop_next hr]
        exact l9_ok hN hw F n _ _ m1 _ out _ left (told.set i true) h1 h2 (mapB_app h3 (by omega) p1.2.2) (born_app h4) (by rw [List.length_set]; exact h5) (by rw [List.length_set, List.length_set]; exact h6) (by rw [List.length_set]; exact h7) (by rw [List.length_set]; exact h8) (set_small h9 (get_small hw i)) (by rw [List.length_set]) h11 (by omega) (by omega)
      | none =>
        have g2' := g2
        unfold fstRead at g2'
        simp only
        cases g3 : fstAny l left with
        | some i =>
          have g3' := g3
          unfold fstAny at g3'
          obtain ⟨p1, p2, p3, p4⟩ := firstF_some g3'
          have hi : i < l.length := by omega
          have hc := countF_set left i p1
          have hr : (order_Sort_l9_t N c1 whole (m1, c2, m2, out, l, l.length)).run some = some (.inl (delM (i : Int) m1, c2, m2, out ++ [l.getD i zOp], l, l.length)) := by
            have e4 := next_ok (c1 := c1) (c2 := c2) (m1 := m1) (m2 := m2) (out := out) (whole := whole) hi h9 (by omega)
            unfold order_Sort_l9_t
            simp only [Bool.and_true] at e3
            simp only [Tree.run, chkLs_pos, chkLs_nil, e1, g1', ansO, Option.bind_some, cond_false, e2, g2', e3, g3', Bool.not_true, e4, delE_eq]
          rw [loop_next hr]
          exact l9_ok hN hw F n c2 _ _ m2 _ l (left.set i false) told (mapB_del h1 h2 (by omega)) (keys_del h2).1 h3 h4 (by rw [List.length_set]; exact h5) h6 h7 h8 h9 rfl (by rw [List.length_append, List.length_singleton]; omega) (by omega) (by omega)
        | none =>
          have g3' := g3
          unfold fstAny at g3'
          have hr : (order_Sort_l9_t N c1 whole (m1, c2, m2, out, l, l.length)).run some = some (.inr (m1, c2, m2, out, l, l.length, 0, true)) := by
            unfold order_Sort_l9_t
            simp only [Bool.and_true] at e3
            simp only [Tree.run, chkLs_pos, chkLs_nil, e1, g1', ansO, Option.bind_some, cond_false, e2, g2', e3, g3', Bool.not_false, cond_true]
          rw [loop_stop hr]
          exact ⟨_, rfl, rfl⟩
end Go.Rx
set_option maxRecDepth 100000
namespace Go.Rx
open Go.Proofs
theorem l5_ok {N c2 n : Nat} {m2 : List (Int × Bool × Nat)} {out l whole : List T_api_Op} (hl : n ≤ 200) : ∀ (F c1 k : Nat) (m1 : List (Int × Bool × Nat)), n < F + k → k ≤ n → MapB m1 (List.replicate k true) → KeysOK m1 →
    ∃ y : order_Sort_l5_Y, loopG (order_Sort_l5_t N c2 m2 out l whole ((n : Nat) : Int)) some F (c1, m1, (k : Int)) = some y ∧ MapB y.2.1 (List.replicate n true) ∧ KeysOK y.2.1
  | 0, c1, k, m1, hF, hk, _, _ => by omega
  | F + 1, c1, k, m1, hF, hk, h1, h2 => by
    by_cases e : k = n
    · subst e
      have hr : (order_Sort_l5_t N c2 m2 out l whole ((k : Nat) : Int) (c1, m1, (k : Int))).run some = some (.inr (c1, m1, (k : Int), false)) := by
        unfold order_Sort_l5_t
        simp only [Tree.run, dec_nlt (Nat.lt_irrefl k), cond_false]
      rw [loop_stop hr]
      exact ⟨_, rfl, h1, h2⟩
    · have hk' : k < n := by omega
      have hv : valM (k : Int) m1 = none := by
        have := h1 k
        rw [getD_rep] at this
        simpa using this
      have hr : (order_Sort_l5_t N c2 m2 out l whole ((n : Nat) : Int) (c1, m1, (k : Int))).run some = some (.inl (c1 + 1, m1 ++ [((k : Int), true, c1)], ((k + 1 : Nat) : Int))) := by
        unfold order_Sort_l5_t
        simp only [Tree.run, dec_lt hk', cond_true, int_succ, chk_pos' (in64_succ (k := k) (by omega)), putE_eq, putM_none hv]
      rw [loop_next hr]
      refine l5_ok hl F _ (k + 1) _ (by omega) (by omega) ?_ ?_
      · intro j
        rw [valM_app hv, h1 j, getD_rep, getD_rep]
        by_cases ej : j = k
        · subst ej; simp
        · rw [if_neg (by omega)]
          have : decide (j < k + 1) = decide (j < k) := decide_eq_decide.2 (by omega)
          rw [this]
      · have := keys_put (x := true) (c := c1) h2 hv
        rw [putM_none hv] at this
        exact this
theorem Sort_ok {N : Nat} {l whole : List T_api_Op} (hN : 600 < N) (hl : l.length = whole.length) (h120 : l.length ≤ 120) (hs : ∀ o ∈ l, SmallO o) (hw : ∀ o ∈ whole, SmallO o) : order_Sort N l whole = some (sortO l whole) := by
  unfold order_Sort order_Sort_t
  have hc : slices_Clone_OpW l = some () := by
    unfold slices_Clone_OpW
    cases l with
    | nil => rfl
    | cons x xs =>
      show slices_Clone_Op (x :: xs) = some ()
      unfold slices_Clone_Op slices_Clone_Op_t
      simp only [Tree.run]
      rw [chk_pos' (by rfl)]
      exact chk_pos' ⟨rfl, by simp only [List.nil_append]; exact Nat.le_trans (Nat.mul_le_mul_right 144 h120) (by decide)⟩
  have e1 : (!decide (((l.length : Nat) : Int) = ((whole.length : Nat) : Int))) = false := by rw [decide_eq_true (by omega)]; rfl
  have e2 : decide ((120 : Int) < ((l.length : Nat) : Int)) = false := decide_eq_false (by omega)
  obtain ⟨y, h1, h2, h3⟩ := l5_ok (N := N) (c2 := 0) (m2 := []) (out := []) (l := l) (whole := whole) (n := l.length) (by omega) N 0 0 [] (by omega) (by omega) (fun k => by simp [valM_nil]) (by unfold KeysOK; simp)
  obtain ⟨z, g1, g2⟩ := l9_ok (N := N) (c1 := y.1) (whole := whole) (by omega) hw (2 * l.length + 1) N 0 l.length y.2.1 [] [] l (List.replicate l.length true) (List.replicate l.length false) h2 h3
    (fun k => by rw [valM_nil, getD_rep]; simp) (fun e he => by simp at he) (by simp) (by simp) hl.symm (by omega) hs rfl (by rw [countF_rep]; simp; omega) (by rw [countF_rep, uncountF_rep]; omega) (by omega)
  have f1 : order_Sort_l5 N 0 [] [] l whole ((l.length : Nat) : Int) 0 [] 0 = some y := h1
  have f2 : order_Sort_l9 N y.1 whole y.2.1 0 [] [] l l.length = some z := g1
  simp only [Tree.run, e1, e2, cond_false, hc, Option.bind_some, List.nil_append, List.length_nil, chkLs_pos, chkLs_nil, f1, f2]
  rw [g2]
  exact chk_pos' trivial
theorem Sort_no {N : Nat} {l whole : List T_api_Op} (h : l.length ≠ whole.length ∨ 120 < l.length) : order_Sort N l whole = some [] := by
  unfold order_Sort order_Sort_t
  simp only [Tree.run]
  by_cases e : l.length = whole.length
  · rw [decide_eq_true (show ((l.length : Nat) : Int) = ((whole.length : Nat) : Int) by omega), decide_eq_true (show (120 : Int) < ((l.length : Nat) : Int) by omega)]; rfl
  · rw [decide_eq_false (show ¬ ((l.length : Nat) : Int) = ((whole.length : Nat) : Int) by omega)]; rfl
end Go.Rx
set_option maxRecDepth 100000
namespace Go.Rx
open Go.Proofs
theorem sortF_len {whole : List T_api_Op} : ∀ (F : Nat) (l : List T_api_Op) (left told : List Bool) (out : List T_api_Op), left.length = l.length → told.length = l.length → countF left + uncountF told < F → (sortF whole F l left told out).length = out.length + countF left
  | 0, l, left, told, out, _, _, hF => by omega
  | F + 1, l, left, told, out, h1, h2, hF => by
    unfold sortF
    cases a1 : fstFree l left with
    | some i =>
      have a1' := a1
      unfold fstFree at a1'
      obtain ⟨p1, p2, p3, p4⟩ := firstF_some a1'
      simp only [Bool.and_eq_true] at p1
      have hc := countF_set left i p1.1
      simp only
      rw [sortF_len F l (left.set i false) told _ (by rw [List.length_set]; exact h1) h2 (by omega), List.length_append, List.length_singleton]
      omega
    | none =>
      simp only
      cases a2 : fstRead l left told with
      | some i =>
        have a2' := a2
        unfold fstRead at a2'
        obtain ⟨p1, p2, p3, p4⟩ := firstF_some a2'
        simp only [Bool.and_eq_true, Bool.not_eq_true'] at p1
        have hc := uncountF_set told i (by omega) p1.2.2
        simp only
        rw [sortF_len F _ left (told.set i true) out (by rw [List.length_set]; exact h1) (by rw [List.length_set, List.length_set]; exact h2) (by omega)]
      | none =>
        simp only
        cases a3 : fstAny l left with
        | some i =>
          have a3' := a3
          unfold fstAny at a3'
          obtain ⟨p1, p2, p3, p4⟩ := firstF_some a3'
          have hc := countF_set left i p1
          simp only
          rw [sortF_len F l (left.set i false) told _ (by rw [List.length_set]; exact h1) h2 (by omega), List.length_append, List.length_singleton]
          omega
        | none =>
          have hz : countF left = 0 := by
            cases hz : countF left with
            | zero => rfl
            | succ m =>
              obtain ⟨j, hj1, hj2⟩ := countF_pos left (by omega)
              unfold fstAny at a3
              have := firstF_none a3 j (by omega) (by omega)
              rw [this] at hj2; cases hj2
          simp only
          omega
theorem sortO_len {l whole : List T_api_Op} : (sortO l whole).length = l.length := by
  unfold sortO
  rw [sortF_len _ _ _ _ _ (by simp) (by simp) (by rw [countF_rep, uncountF_rep]; omega), countF_rep]
  simp
end Go.Rx
set_option maxRecDepth 100000
namespace Go.Rx
open Go.Proofs
theorem avOK_ok {a b c n : Nat} (h : a = b) (hc : c ≤ 100000) (hn : n ≤ 1000) : avOK a b c n := ⟨h, Nat.le_trans (Nat.mul_le_mul hc hn) (by decide)⟩
theorem getD_at {α : Type} {l : List α} {k : Nat} {d : α} (h : k < l.length) : l.getD k d = l[k] := by simp [List.getD, List.getElem?_eq_getElem h]
theorem r1_l {N : Nat} {o2 : List T_api_Op} {o3 : Int} {l : List T_api_Op} (hP : ∀ o ∈ l, SmallO o) (hl : l.length ≤ 1000) : ∀ (F k : Nat) (out : List T_api_Op), l.length < F + k → k ≤ l.length → out.length ≤ k →
    loopG (round_order_Split_3_l6_t N o2 o3 l ((l.length : Nat) : Int)) some F (out, (k : Int)) = some (out ++ l.drop k, ((l.length : Nat) : Int), false)
  | 0, k, out, hF, hk, ho => by omega
  | F + 1, k, out, hF, hk, ho => by
    by_cases e : k = l.length
    · subst e
      have hr : (round_order_Split_3_l6_t N o2 o3 l ((l.length : Nat) : Int) (out, ((l.length : Nat) : Int))).run some = some (.inr (out, ((l.length : Nat) : Int), false)) := by
        unfold round_order_Split_3_l6_t
        simp only [Tree.run, dec_nlt (Nat.lt_irrefl l.length), cond_false]
      rw [loop_stop hr, List.drop_length, List.append_nil]
    · have hk' : k < l.length := by omega
      have hr : (round_order_Split_3_l6_t N o2 o3 l ((l.length : Nat) : Int) (out, (k : Int))).run some = some (.inl (out ++ [l.getD k zOp], ((k + 1 : Nat) : Int))) := by
        unfold round_order_Split_3_l6_t
        simp only [Tree.run, dec_lt hk', cond_true, getI_D (d := zOp) hk', Option.bind_some, own_ok (get_small hP k), int_succ]
        rw [chk_pos' (avOK_ok rfl (by rw [List.length_append, List.length_singleton]; omega) (by decide)), chk_pos' (in64_succ (k := k) (by omega))] <;> rfl
      rw [loop_next hr, r1_l hP hl F (k + 1) _ (by omega) (by omega) (by rw [List.length_append, List.length_singleton]; omega), getD_at hk', app_drop hk']
theorem r2_l {N : Nat} {o1 : List (List T_api_Op)} {o2 : List T_api_Op} {o3 : Int} {l : List T_api_Op} (hP : ∀ o ∈ l, SmallO o) (hl : l.length ≤ 1000) : ∀ (F k : Nat) (out : List T_api_Op), l.length < F + k → k ≤ l.length → out.length ≤ k →
    loopG (round_order_Split_3_2_l6_t N o1 o2 o3 l ((l.length : Nat) : Int)) some F (out, (k : Int)) = some (out ++ l.drop k, ((l.length : Nat) : Int), false)
  | 0, k, out, hF, hk, ho => by omega
  | F + 1, k, out, hF, hk, ho => by
    by_cases e : k = l.length
    · subst e
      have hr : (round_order_Split_3_2_l6_t N o1 o2 o3 l ((l.length : Nat) : Int) (out, ((l.length : Nat) : Int))).run some = some (.inr (out, ((l.length : Nat) : Int), false)) := by
        unfold round_order_Split_3_2_l6_t
        simp only [Tree.run, dec_nlt (Nat.lt_irrefl l.length), cond_false]
      rw [loop_stop hr, List.drop_length, List.append_nil]
    · have hk' : k < l.length := by omega
      have hr : (round_order_Split_3_2_l6_t N o1 o2 o3 l ((l.length : Nat) : Int) (out, (k : Int))).run some = some (.inl (out ++ [l.getD k zOp], ((k + 1 : Nat) : Int))) := by
        unfold round_order_Split_3_2_l6_t
        simp only [Tree.run, dec_lt hk', cond_true, getI_D (d := zOp) hk', Option.bind_some, own_ok (get_small hP k), int_succ]
        rw [chk_pos' (avOK_ok rfl (by rw [List.length_append, List.length_singleton]; omega) (by decide)), chk_pos' (in64_succ (k := k) (by omega))] <;> rfl
      rw [loop_next hr, r2_l hP hl F (k + 1) _ (by omega) (by omega) (by rw [List.length_append, List.length_singleton]; omega), getD_at hk', app_drop hk']
theorem r1_ok {N : Nat} {a0 a2 : List T_api_Op} {a1 : Int} (hP : ∀ o ∈ a2, SmallO o) (hl : a2.length ≤ 1000) (hN : a2.length < N) : round_order_Split_3 N a0 a1 a2 = some [a2] := by
  have key := r1_l (N := N) (o2 := a0) (o3 := a1) hP hl N 0 [] (by omega) (by omega) (by simp)
  have f : round_order_Split_3_l6 N a0 a1 a2 ((a2.length : Nat) : Int) [] 0 = some ([] ++ a2.drop 0, ((a2.length : Nat) : Int), false) := key
  unfold round_order_Split_3 round_order_Split_3_t
  simp only [Tree.run, List.length_nil, chkLs_pos, chkLs_nil, f, Option.bind_some, List.nil_append, List.drop_zero]
  rw [chk_pos' trivial]
  exact chk_pos' (by unfold apOK; decide)
theorem r2_ok {N : Nat} {a0 : List (List T_api_Op)} {a1 a3 : List T_api_Op} {a2 : Int} (hP : ∀ o ∈ a3, SmallO o) (hl : a3.length ≤ 1000) (h0 : a0.length ≤ 1000) (hN : a3.length < N) : round_order_Split_3_2 N a0 a1 a2 a3 = some (a0 ++ [a3]) := by
  have key := r2_l (N := N) (o1 := a0) (o2 := a1) (o3 := a2) hP hl N 0 [] (by omega) (by omega) (by simp)
  have f : round_order_Split_3_2_l6 N a0 a1 a2 a3 ((a3.length : Nat) : Int) [] 0 = some ([] ++ a3.drop 0, ((a3.length : Nat) : Int), false) := key
  unfold round_order_Split_3_2 round_order_Split_3_2_t
  simp only [Tree.run, List.length_nil, chkLs_pos, chkLs_nil, f, Option.bind_some, List.nil_append, List.drop_zero]
  rw [chk_pos' trivial]
  exact chk_pos' (avOK_ok rfl (by rw [List.length_append, List.length_singleton]; omega) (by decide))
theorem smalls_sub {l m : List T_api_Op} (h : ∀ o ∈ l, SmallO o) (hs : ∀ o ∈ m, o ∈ l) : ∀ o ∈ m, SmallO o := fun o ho => h o (hs o ho)
theorem min_20 {m : Nat} : (if (((m : Nat) : Int) < 20) then ((m : Nat) : Int) else 20) = ((min 20 m : Nat) : Int) := by
  split <;> omega
theorem ck_l {N : Nat} {a0 : List T_api_Op} (hP : ∀ o ∈ a0, SmallO o) (hl : a0.length ≤ 1000) (hN : 30 < N) : ∀ (F f k : Nat) (o : List (List T_api_Op)), (a0.drop k).length ≤ 20 * f → f < F → o.length + f ≤ 1000 → k ≤ a0.length + 20 →
    ∃ s, loopG (slices_Chunk_api_Op_api_Op_1_l1_s1_t N a0 20) some F (o, (k : Int)) = some (.inr (o ++ chunks 20 f (a0.drop k), s))
  | 0, f, k, o, _, hF, _, _ => by omega
  | F + 1, f, k, o, hf, hF, ho, hk2 => by
    by_cases hk : k < a0.length
    · have hd : (a0.drop k).length = a0.length - k := List.length_drop
      have hm : min 20 (a0.length - k) ≤ a0.length - k := Nat.min_le_right ..
      have h64 : in64 ((k : Int) + ((min 20 (a0.length - k) : Nat) : Int)) := by unfold in64; omega
      have e1 : ((k : Int) + ((min 20 (a0.length - k) : Nat) : Int)).toNat = k + min 20 (a0.length - k) := by omega
      have e2 : (a0.drop k).take (min 20 (a0.length - k)) = (a0.drop k).take 20 := by rw [← hd, take_min_len]
      have hr : (slices_Chunk_api_Op_api_Op_1_l1_s1_t N a0 20 (o, (k : Int))).run some = some (.inl (o ++ [(a0.drop k).take 20], ((k + 20 : Nat) : Int))) := by
        unfold slices_Chunk_api_Op_api_Op_1_l1_s1_t
        simp only [Tree.run, dec_lt hk, cond_true, Int.toNat_natCast, min_20, hd]
        rw [chk_pos' (by omega), chk_pos' h64, chk_pos' h64, chk_pos' (by omega), chk_pos' (by omega), chkLs_pos rfl, chkLs_nil, e1, take_drop_seg, e2,
          r2_ok (smalls_sub hP (fun o ho => List.mem_of_mem_drop (List.mem_of_mem_take ho))) (by rw [List.length_take]; omega) (by omega) (by rw [List.length_take]; omega), Option.bind_some, chk_pos' (by unfold in64; omega)] <;> rfl
      rw [hd] at hf
      obtain ⟨g, rfl⟩ : ∃ g, f = g + 1 := ⟨f - 1, by omega⟩
      obtain ⟨s, hs⟩ := ck_l hP hl hN F g (k + 20) (o ++ [(a0.drop k).take 20]) (by rw [List.length_drop]; omega) (by omega) (by rw [List.length_append, List.length_singleton]; omega) (by omega)
      refine ⟨s, ?_⟩
      rw [loop_next hr, hs, chunks_cons (by intro h0; have := congrArg List.length h0; rw [hd] at this; simp at this; omega), List.drop_drop]
      simp
    · have hr : (slices_Chunk_api_Op_api_Op_1_l1_s1_t N a0 20 (o, (k : Int))).run some = some (.inr (.inr (o, (k : Int), false))) := by
        unfold slices_Chunk_api_Op_api_Op_1_l1_s1_t
        simp only [Tree.run, dec_nlt hk, cond_false]
      rw [loop_stop hr]
      exact ⟨_, by rw [show a0.drop k = [] from List.drop_eq_nil_of_le (by omega), chunks_nil, List.append_nil]⟩
theorem Split_ok {a0 : List T_api_Op} {N : Nat} (hP : ∀ o ∈ a0, SmallO o) (hl : a0.length ≤ 1000) (hN : 80 < N) : order_Split N a0 = some (chunks 20 50 a0) := by
  have e0 : slices_Chunk_Op a0 20 = some () := rfl
  by_cases h0 : a0 = []
  · subst h0
    have e3 : slices_Chunk_api_Op_api_Op_1 N [] 20 = some (.inl ()) := by
      have f : slices_Chunk_api_Op_api_Op_1_l1 N [] 20 = some (.inl ()) := by
        have hr : (slices_Chunk_api_Op_api_Op_1_l1_t N [] 20 ()).run some = some (.inr (.inr (.inl ()))) := rfl
        obtain ⟨M, hM⟩ : ∃ M, N = M + 1 := ⟨N - 1, by omega⟩
        have : slices_Chunk_api_Op_api_Op_1_l1 N [] 20 = loopG (slices_Chunk_api_Op_api_Op_1_l1_t N [] 20) (slices_Chunk_api_Op_api_Op_1_l1_g N N ([], 20)) (M + 1) () := by rw [← hM] <;> rfl
        rw [this, loop_stop hr] <;> rfl
      unfold slices_Chunk_api_Op_api_Op_1 slices_Chunk_api_Op_api_Op_1_t
      simp only [Tree.run, f, Option.bind_some]
    unfold order_Split order_Split_t
    simp only [Tree.run, e0, e3, Option.bind_some] <;> rfl
  · have hp : 0 < a0.length := by cases a0 <;> simp_all
    have e2 : decide ((0 : Int) < ((a0.length : Nat) : Int)) = true := decide_eq_true (by omega)
    have h64 : in64 ((0 : Int) + ((min 20 a0.length : Nat) : Int)) := by unfold in64; omega
    have e1 : ((0 : Int) + ((min 20 a0.length : Nat) : Int)).toNat = min 20 a0.length := by omega
    have e3 : a0.take (min 20 a0.length) = a0.take 20 := by rw [take_min_len]
    have hr : (slices_Chunk_api_Op_api_Op_1_l1_t N a0 20 ()).run some = some (.inr (.inl ([a0.take 20], ((20 : Nat) : Int)))) := by
      unfold slices_Chunk_api_Op_api_Op_1_l1_t
      simp only [Tree.run, e2, cond_true, List.drop_zero, min_20]
      rw [chk_pos' (by omega), chk_pos' h64, chk_pos' h64, chk_pos' (by omega), chk_pos' (by omega), e1, e3,
        r1_ok (smalls_sub hP (fun o ho => List.mem_of_mem_take ho)) (by rw [List.length_take]; omega) (by rw [List.length_take]; omega), Option.bind_some, chk_pos' (by unfold in64; omega)] <;> rfl
    obtain ⟨s, hs⟩ := ck_l (N := N) hP hl (by omega) N 49 20 [a0.take 20] (by rw [List.length_drop]; omega) (by omega) (by simp) (by omega)
    have f : slices_Chunk_api_Op_api_Op_1_l1 N a0 20 = some (.inr ([a0.take 20] ++ chunks 20 49 (a0.drop 20), s)) := by
      rw [← hs]
      obtain ⟨M, hM⟩ : ∃ M, N = M + 1 := ⟨N - 1, by omega⟩
      have : slices_Chunk_api_Op_api_Op_1_l1 N a0 20 = loopG (slices_Chunk_api_Op_api_Op_1_l1_t N a0 20) (slices_Chunk_api_Op_api_Op_1_l1_g N N (a0, 20)) (M + 1) () := by rw [← hM] <;> rfl
      rw [this, loop_stop hr] <;> rfl
    have e4 : slices_Chunk_api_Op_api_Op_1 N a0 20 = some (.inr (chunks 20 50 a0)) := by
      unfold slices_Chunk_api_Op_api_Op_1 slices_Chunk_api_Op_api_Op_1_t
      simp only [Tree.run, f, Option.bind_some]
      rw [chunks_cons h0] <;> rfl
    unfold order_Split order_Split_t
    simp only [Tree.run, e0, e4, Option.bind_some]
    exact chk_pos' trivial
end Go.Rx
set_option maxRecDepth 100000
namespace Go.Rx
open Go.Proofs
theorem same_list {α : Type} [DecidableEq α] {p q : List α} {z : α} (h : p.length = q.length) : (firstF (fun k => !decide (p.getD k z = q.getD k z)) p.length 0).isNone = decide (p = q) := by
  rw [Bool.eq_iff_iff, decide_eq_true_iff, Option.isNone_iff_eq_none]
  constructor
  · intro e
    refine List.ext_getElem h fun k h1 h2 => ?_
    have := firstF_none e k (by omega) (by omega)
    simp only [Bool.not_eq_eq_eq_not, Bool.not_false, decide_eq_true_eq] at this
    rw [getD_at h1, getD_at h2] at this
    exact this
  · rintro rfl
    cases hf : firstF (fun k => !decide (p.getD k z = p.getD k z)) p.length 0 with
    | none => rfl
    | some i => have := (firstF_some hf).1; simp at this
theorem in64_big {k : Nat} (h : k ≤ 1000000000000000) : in64 ((k + 1 : Nat) : Int) := by unfold in64; omega
def zPc : T_api_Piece := T_api_Piece.mk false 0 0 []
theorem same11_ok {N : Nat} {p q : List T_api_Piece} (hp : p.length ≤ 1000000000000000) (hN : p.length < N) : rolodexref11_Same N p q = some (decide (p = q)) := by
  unfold rolodexref11_Same rolodexref11_Same_t
  simp only [Tree.run]
  by_cases e : p.length = q.length
  · have c1 : decide (((p.length : Nat) : Int) = ((q.length : Nat) : Int)) = true := decide_eq_true (by omega)
    have key := loop_find (B := rolodexref11_Same_l4_t N p q) (g := some) (n := p.length) (p := fun k => !decide (p.getD k zPc = q.getD k zPc)) (hit := fun _ => .inl ()) (fin := .inr (((p.length : Nat) : Int), false))
      (fun k hk => by
        unfold rolodexref11_Same_l4_t
        simp only [Tree.run, dec_lt hk, cond_true, getI_D (d := zPc) hk, getI_D (d := zPc) (show k < q.length by omega), Option.bind_some, int_succ, chk_pos' (in64_big (k := k) (by omega))]
        have e2 : eqE t_api_Piece (p.getD k zPc) (q.getD k zPc) = decide (p.getD k zPc = q.getD k zPc) := eqE_dec (t := t_api_Piece) Iff.rfl
        rw [e2]
        cases decide (p.getD k zPc = q.getD k zPc) <;> rfl)
      (by
        unfold rolodexref11_Same_l4_t
        simp only [Tree.run, dec_nlt (Nat.lt_irrefl p.length), cond_false]) N 0 (by omega) (by omega)
    have f : rolodexref11_Same_l4 N p q 0 = loopG (rolodexref11_Same_l4_t N p q) some N ((0 : Nat) : Int) := rfl
    rw [c1, f, key, ← same_list (z := zPc) e]
    simp only [Bool.not_true, cond_false, Option.bind_some, Nat.sub_zero]
    cases firstF (fun k => !decide (p.getD k zPc = q.getD k zPc)) p.length 0 <;> rfl
  · have c1 : decide (((p.length : Nat) : Int) = ((q.length : Nat) : Int)) = false := decide_eq_false (by omega)
    rw [c1, decide_eq_false (fun h => e (congrArg _ h))] <;> rfl
theorem same15_ok {N : Nat} {a b : T_api_Op} (ha : SmallO a) (hN : (T_api_Op.P a).length < N) : rolodexref15_Same N a b = some (decide (a = b)) := by
  unfold rolodexref15_Same rolodexref15_Same_t
  unfold SmallO at ha
  simp only [Tree.run, same11_ok (N := N) (p := T_api_Op.P a) (q := T_api_Op.P b) (by omega) (by omega), Option.bind_some]
  have e16 : ∀ x y : Vector UInt8 16, eqE (.ba 16) x y = decide (x = y) := fun x y => eqE_dec (t := .ba 16) Iff.rfl
  have e32 : ∀ x y : Vector UInt8 32, eqE (.ba 32) x y = decide (x = y) := fun x y => eqE_dec (t := .ba 32) Iff.rfl
  have eS : ∀ x y : T_api_Stamp, eqE t_api_Stamp x y = decide (x = y) := fun x y => eqE_dec (t := t_api_Stamp) Iff.rfl
  rw [e16, e16, e32, eS]
  obtain ⟨k, id, s, no, v, p, fr, fn, d⟩ := a
  obtain ⟨k', id', s', no', v', p', fr', fn', d'⟩ := b
  show _ = some (decide ((k, id, s, no, v, p, fr, fn, d) = (k', id', s', no', v', p', fr', fn', d')))
  unfold T_api_Op.P T_api_Op.Kind T_api_Op.ID T_api_Op.S T_api_Op.No T_api_Op.V T_api_Op.From T_api_Op.FromNo T_api_Op.D
  simp only [Prod.mk.injEq]
  by_cases h1 : p = p' <;> by_cases h2 : k = k' <;> by_cases h3 : id = id' <;> by_cases h4 : s = s' <;> by_cases h5 : no = no' <;> simp [h1, h2, h3, h4, h5]
  by_cases h6 : v = v' <;> by_cases h7 : fr = fr' <;> by_cases h8 : fn = fn' <;> simp [h6, h7, h8]
theorem get_len {l : List T_api_Op} {M : Nat} (hM : 0 < M) (h : ∀ o ∈ l, (T_api_Op.P o).length < M) (i : Nat) : (T_api_Op.P (l.getD i zOp)).length < M := by
  by_cases hi : i < l.length
  · rw [getD_at hi]; exact h _ (List.getElem_mem hi)
  · have : l.getD i zOp = zOp := by simp [List.getD, List.getElem?_eq_none (Nat.le_of_not_lt hi)]
    rw [this]; exact hM
theorem same16_ok {N : Nat} {p q : List T_api_Op} (hs : ∀ o ∈ p, SmallO o) (hb : ∀ o ∈ p, (T_api_Op.P o).length < N) (hp : p.length ≤ 200) (hN : 300 < N) : rolodexref16_Same N p q = some (decide (p = q)) := by
  unfold rolodexref16_Same rolodexref16_Same_t
  simp only [Tree.run]
  by_cases e : p.length = q.length
  · have c1 : decide (((p.length : Nat) : Int) = ((q.length : Nat) : Int)) = true := decide_eq_true (by omega)
    have key := loop_find (B := rolodexref16_Same_l4_t N p q) (g := some) (n := p.length) (p := fun k => !decide (p.getD k zOp = q.getD k zOp)) (hit := fun _ => .inl ()) (fin := .inr (((p.length : Nat) : Int), false))
      (fun k hk => by
        unfold rolodexref16_Same_l4_t
        simp only [Tree.run, dec_lt hk, cond_true, getI_D (d := zOp) hk, getI_D (d := zOp) (show k < q.length by omega), Option.bind_some, int_succ, chk_pos' (in64_succ (k := k) (by omega)), same15_ok (get_small hs k) (get_len (by omega) hb k)]
        cases decide (p.getD k zOp = q.getD k zOp) <;> rfl)
      (by
        unfold rolodexref16_Same_l4_t
        simp only [Tree.run, dec_nlt (Nat.lt_irrefl p.length), cond_false]) N 0 (by omega) (by omega)
    have f : rolodexref16_Same_l4 N p q 0 = loopG (rolodexref16_Same_l4_t N p q) some N ((0 : Nat) : Int) := rfl
    rw [c1, f, key, ← same_list (z := zOp) e]
    simp only [Bool.not_true, cond_false, Option.bind_some, Nat.sub_zero]
    cases firstF (fun k => !decide (p.getD k zOp = q.getD k zOp)) p.length 0 <;> rfl
  · have c1 : decide (((p.length : Nat) : Int) = ((q.length : Nat) : Int)) = false := decide_eq_false (by omega)
    rw [c1, decide_eq_false (fun h => e (congrArg _ h))] <;> rfl
theorem sortF_small {whole : List T_api_Op} (hw : ∀ o ∈ whole, SmallO o) : ∀ (F : Nat) (l : List T_api_Op) (left told : List Bool) (out : List T_api_Op), (∀ o ∈ l, SmallO o) → (∀ o ∈ out, SmallO o) → ∀ o ∈ sortF whole F l left told out, SmallO o
  | 0, l, left, told, out, _, h2 => h2
  | F + 1, l, left, told, out, h1, h2 => by
    have ha : ∀ i, ∀ o ∈ out ++ [l.getD i zOp], SmallO o := fun i o ho => by
      rcases List.mem_append.1 ho with h | h
      · exact h2 o h
      · rw [List.mem_singleton.1 h]; exact get_small h1 i
    unfold sortF
    cases fstFree l left with
    | some i => exact sortF_small hw F _ _ _ _ h1 (ha i)
    | none =>
      simp only
      cases fstRead l left told with
      | some i => exact sortF_small hw F _ _ _ _ (set_small h1 (get_small hw i)) h2
      | none =>
        simp only
        cases fstAny l left with
        | some i => exact sortF_small hw F _ _ _ _ h1 (ha i)
        | none => exact h2
theorem sortO_small {l whole : List T_api_Op} (h : ∀ o ∈ l, SmallO o) (hw : ∀ o ∈ whole, SmallO o) : ∀ o ∈ sortO l whole, SmallO o := sortF_small hw _ _ _ _ _ h (by simp)
end Go.Rx
set_option maxRecDepth 100000
namespace Go.Rx
open Go.Proofs
theorem free0 {a b : T_api_Op} : freeO [a, b] [true, true] 0 = !readsO b a := by
  cases h : readsO b a <;> simp [freeO, firstF, h]
theorem free1 {a b : T_api_Op} : freeO [a, b] [true, true] 1 = !readsO a b := by
  cases h : readsO a b <;> simp [freeO, firstF, h]
theorem free01 {a b : T_api_Op} : freeO [a, b] [false, true] 1 = true := by simp [freeO, firstF]
theorem free10 {a b : T_api_Op} : freeO [a, b] [true, false] 0 = true := by simp [freeO, firstF]
theorem sort_as {a b x y : T_api_Op} (h : readsO b a = false) : sortO [a, b] [x, y] = [a, b] := by
  have f0 : fstFree [a, b] [true, true] = some 0 := by simp [fstFree, firstF, free0, h]
  have f1 : fstFree [a, b] [false, true] = some 1 := by simp [fstFree, firstF, free01]
  have f2 : fstFree [a, b] [false, false] = none := by simp [fstFree, firstF]
  have f3 : fstRead [a, b] [false, false] [false, false] = none := by simp [fstRead, firstF]
  have f4 : fstAny [a, b] [false, false] = none := by simp [fstAny, firstF]
  show sortF [x, y] 5 [a, b] [true, true] [false, false] [] = [a, b]
  unfold sortF; rw [f0]
  show sortF [x, y] 4 [a, b] [false, true] [false, false] [a] = [a, b]
  unfold sortF; rw [f1]
  show sortF [x, y] 3 [a, b] [false, false] [false, false] [a, b] = [a, b]
  unfold sortF; rw [f2, f3, f4]
theorem sort_turn {a b x y : T_api_Op} (h : readsO b a = true) (h2 : readsO a b = false) : sortO [a, b] [x, y] = [b, a] := by
  have f0 : fstFree [a, b] [true, true] = some 1 := by simp [fstFree, firstF, free0, free1, h, h2]
  have f1 : fstFree [a, b] [true, false] = some 0 := by simp [fstFree, firstF, free10]
  have f2 : fstFree [a, b] [false, false] = none := by simp [fstFree, firstF]
  have f3 : fstRead [a, b] [false, false] [false, false] = none := by simp [fstRead, firstF]
  have f4 : fstAny [a, b] [false, false] = none := by simp [fstAny, firstF]
  show sortF [x, y] 5 [a, b] [true, true] [false, false] [] = [b, a]
  unfold sortF; rw [f0]
  show sortF [x, y] 4 [a, b] [true, false] [false, false] [b] = [b, a]
  unfold sortF; rw [f1]
  show sortF [x, y] 3 [a, b] [false, false] [false, false] [b, a] = [b, a]
  unfold sortF; rw [f2, f3, f4]
def AwSmall (l : List T_api_Op) : Bool := l.all fun o => decide ((T_api_Op.P o).length = 0)
theorem aw_small {l : List T_api_Op} (h : AwSmall l = true) : ∀ o ∈ l, SmallO o := fun o ho => by
  unfold AwSmall at h
  have := List.all_eq_true.1 h o ho
  simp only [decide_eq_true_eq] at this
  unfold SmallO; omega
theorem awake_N {N : Nat} (hN : 700 < N) : rolodexlaw17_awake N = some true := by
  unfold rolodexlaw17_awake rolodexlaw17_awake_t
  simp only [Tree.run]
  rw [chk_pos' (by decide), chk_pos' (by decide), chk_pos' (by decide), chk_pos' (by decide), chk_pos' (by decide)]
  rw [Sort_ok (by omega) (by rfl) (by decide) (aw_small (by kernel_rfl)) (aw_small (by kernel_rfl)), Option.bind_some, chk_pos' (by decide)]
  rw [Sort_ok (by omega) (by rfl) (by decide) (aw_small (by kernel_rfl)) (aw_small (by kernel_rfl)), Option.bind_some]
  rw [Split_ok (sortO_small (aw_small (by kernel_rfl)) (aw_small (by kernel_rfl))) (by rw [sortO_len]; decide) (by omega)]
  kernel_rfl
theorem orderFree (a b x y : T_api_Op) (ha : SmallO a) (hb : SmallO b) (hx : SmallO x) (hy : SmallO y) : ∃ N : Nat, rolodexlaw17_OrderFree N a b x y = some true := by
  obtain ⟨N, hN, h1, h2⟩ : ∃ N, 700 < N ∧ (T_api_Op.P a).length < N ∧ (T_api_Op.P b).length < N := ⟨701 + (T_api_Op.P a).length + (T_api_Op.P b).length, by omega, by omega, by omega⟩
  refine ⟨N, ?_⟩
  have sl : ∀ o ∈ [a, b], SmallO o := by simp [ha, hb]
  have sw : ∀ o ∈ [x, y], SmallO o := by simp [hx, hy]
  have c1 : decide ((((sortO [a, b] [x, y]).length : Nat) : Int) = 2) = true := decide_eq_true (by rw [sortO_len]; rfl)
  unfold rolodexlaw17_OrderFree rolodexlaw17_OrderFree_t
  simp only [Tree.run]
  rw [awake_N hN, Option.bind_some, Sort_ok (by omega) (by rfl) (by show 2 ≤ 120; omega) sl sw, Option.bind_some, Reads_ok, Option.bind_some, Reads_ok, Option.bind_some, c1]
  simp only [Bool.not_true, cond_false]
  cases h3 : readsO b a with
  | false =>
    rw [sort_as h3, same16_ok sl (by simp [h1, h2]) (by show 2 ≤ 200; omega) (by omega), decide_eq_true rfl] <;> rfl
  | true =>
    cases h4 : readsO a b with
    | true => rfl
    | false =>
      have e : rolodexref16_Same N [b, a] [b, a] = some true := by rw [same16_ok (by simp [ha, hb]) (by simp [h1, h2]) (by show 2 ≤ 200; omega) (by omega), decide_eq_true rfl]
      rw [sort_turn h3 h4, e] <;> rfl
end Go.Rx
