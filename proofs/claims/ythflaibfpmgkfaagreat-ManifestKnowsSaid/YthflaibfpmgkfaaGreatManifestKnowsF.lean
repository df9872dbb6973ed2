/- A part of the proof of ManifestKnows: the law returns true for every input, and its arguments read as before. No condition. -/
import Derived.Test.YthflaibfpmgkfaaGreatProg
import Derived.Test.YthflaibfpmgkfaaGreatComE
set_option linter.unusedSimpArgs false
set_option linter.unusedVariables false
set_option linter.unusedSectionVars false
noncomputable section
namespace Go.Rx
theorem run_via {α R : Type} (n : α → Option R) : ∀ t : Tree α, t.run n = (t.run some).bind n
  | .ret a => rfl
  | .no => rfl
  | .cond b s t => by
    simp only [Tree.run]
    cases b
    · exact run_via n t
    · exact run_via n s
  | @Tree.chk _ p d t => by
    simp only [Tree.run, chk]
    split
    · exact run_via n t
    · rfl
  | .bind o k => by
    simp only [Tree.run]
    cases o with
    | none => rfl
    | some x => exact run_via n (k x)
  | .opt o s k => by
    simp only [Tree.run]
    cases o with
    | none => exact run_via n s
    | some x => exact run_via n (k x)
  | .sum x f g => by
    cases x with
    | inl a => exact run_via n (f a)
    | inr b => exact run_via n (g b)
section r
variable {α R : Type} {n : α → Option R}
theorem run_ret {a : α} : (Tree.ret a).run n = n a := rfl
theorem run_cond {b : Bool} {s t : Tree α} : (Tree.cond b s t).run n = bif b then s.run n else t.run n := rfl
theorem run_chk {p : Prop} [Decidable p] {t : Tree α} : (Tree.chk p t).run n = chk p (t.run n) := rfl
theorem run_bind {β : Type} {o : Option β} {k : β → Tree α} : (Tree.bind o k).run n = o.bind fun x => (k x).run n := rfl
theorem run_suml {β γ : Type} {x : β} {f : β → Tree α} {g : γ → Tree α} : (Tree.sum (.inl x) f g).run n = (f x).run n := rfl
theorem run_sumr {β γ : Type} {x : γ} {f : β → Tree α} {g : γ → Tree α} : (Tree.sum (.inr x) f g).run n = (g x).run n := rfl
end r
theorem loop_next {V W Y : Type} {B : V → Tree (V ⊕ W)} {g : W → Option Y} {v v' : V} (h : (B v).run some = some (.inl v')) (N : Nat) : loopG B g (N + 1) v = loopG B g N v' := by
  simp only [loopG]
  rw [run_via, h]; rfl
theorem loop_stop {V W Y : Type} {B : V → Tree (V ⊕ W)} {g : W → Option Y} {v : V} {x : W} (h : (B v).run some = some (.inr x)) (N : Nat) : loopG B g (N + 1) v = g x := by
  simp only [loopG]
  rw [run_via, h]; rfl
theorem loop_inv {V W Y : Type} {B : V → Tree (V ⊕ W)} {g : W → Option Y} {I : V → Prop} {Q : Y → Prop} (m : V → Nat)
    (h : ∀ v, I v → (∃ v', (B v).run some = some (.inl v') ∧ I v' ∧ m v' < m v) ∨ ∃ x y, (B v).run some = some (.inr x) ∧ g x = some y ∧ Q y) :
    ∀ (N : Nat) (v : V), I v → m v < N → ∃ y, loopG B g N v = some y ∧ Q y
  | 0, v, _, hm => by omega
  | N + 1, v, hi, hm => by
    rcases h v hi with ⟨v', h1, h2, h3⟩ | ⟨x, y, h1, h2, h3⟩
    · rw [loop_next h1]
      exact loop_inv m h N v' h2 (by omega)
    · rw [loop_stop h1]
      exact ⟨y, h2, h3⟩
theorem loop_find {W Y : Type} {B : Int → Tree (Int ⊕ W)} {g : W → Option Y} {p : Nat → Bool} {n : Nat} {hit : Nat → W} {fin : W}
    (h1 : ∀ k, k < n → (B (k : Int)).run some = some (if p k then .inr (hit k) else .inl ((k + 1 : Nat) : Int))) (h2 : (B (n : Int)).run some = some (.inr fin)) :
    ∀ (N k : Nat), k ≤ n → n < N + k → loopG B g N (k : Int) = g (match firstF p (n - k) k with | some j => hit j | none => fin)
  | 0, k, hk, hN => by omega
  | N + 1, k, hk, hN => by
    by_cases e : k = n
    · subst e
      rw [loop_stop h2, Nat.sub_self]; rfl
    · obtain ⟨m, hm⟩ : ∃ m, n - k = m + 1 := ⟨n - k - 1, by omega⟩
      have h3 := h1 k (by omega)
      rw [hm]
      unfold firstF
      cases hp : p k with
      | true =>
        rw [hp, if_pos rfl] at h3
        rw [loop_stop h3, if_pos rfl]
      | false =>
        rw [hp, if_neg (by simp)] at h3
        rw [loop_next h3, loop_find h1 h2 N (k + 1) (by omega) (by omega), if_neg (by simp), show n - (k + 1) = m by omega]
def foldF {σ : Type} (f : Nat → σ → σ) : Nat → Nat → σ → σ
  | 0, _, s => s
  | m + 1, k, s => foldF f m (k + 1) (f k s)
theorem loop_fold {σ W Y : Type} {V : Type} {B : V → Tree (V ⊕ W)} {g : W → Option Y} {at_ : Nat → σ → V} {I : Nat → σ → Prop} {f : Nat → σ → σ} {n : Nat} {fin : σ → W}
    (h1 : ∀ k s, k < n → I k s → (B (at_ k s)).run some = some (.inl (at_ (k + 1) (f k s))) ∧ I (k + 1) (f k s)) (h2 : ∀ s, I n s → (B (at_ n s)).run some = some (.inr (fin s))) :
    ∀ (N k : Nat) (s : σ), I k s → k ≤ n → n < N + k → loopG B g N (at_ k s) = g (fin (foldF f (n - k) k s))
  | 0, k, s, _, hk, hN => by omega
  | N + 1, k, s, hi, hk, hN => by
    by_cases e : k = n
    · subst e
      rw [loop_stop (h2 s hi), Nat.sub_self]; rfl
    · obtain ⟨m, hm⟩ : ∃ m, n - k = m + 1 := ⟨n - k - 1, by omega⟩
      obtain ⟨h3, h4⟩ := h1 k s (by omega) hi
      rw [loop_next h3, loop_fold h1 h2 N (k + 1) _ h4 (by omega) (by omega), hm, show n - (k + 1) = m by omega]
      rfl
theorem getV_lt {α : Type} {l : List α} {k : Nat} (h : k < l.length) : getV l l.length k = some l[k] := by
  unfold getV; rw [if_pos rfl, List.getElem?_eq_getElem h]
theorem getV_D {α : Type} {l : List α} {k n : Nat} {d : α} (hn : l.length = n) (h : k < l.length) : getV l n k = some (l.getD k d) := by
  unfold getV; rw [if_pos hn, List.getElem?_eq_getElem h]; simp [List.getD, List.getElem?_eq_getElem h]
theorem chk_pos' {α : Type} {p : Prop} [Decidable p] {x : Option α} (h : p) : chk p x = x := if_pos h
theorem chkLs_nil {Z : Type} (o : Option Z) : chkLs [] o = o := rfl
theorem chkLs_pos {Z : Type} {a b : Nat} {ps : List (Nat × Nat)} {o : Option Z} (h : a = b) : chkLs ((a, b) :: ps) o = chkLs ps o := if_pos h
theorem in64_ok {n : Int} (h1 : -1000000000 ≤ n) (h2 : n ≤ 1000000000) : in64 n := by unfold in64; omega
theorem fndV_none {k : Int} {m : List (Int × Bool × Nat)} (h : valM k m = none) : fnd (β := Bool) (.i .i64) k m = none := by
  have : fnd (β := Bool) (.i .i64) k m = findM k m := by
    unfold fnd
    congr 1
  rw [this]; exact find_none h
theorem fndV_some {k : Int} {m : List (Int × Bool × Nat)} {x : Bool} (h : valM k m = some x) : ∃ c, fnd (β := Bool) (.i .i64) k m = some (x, c) := by
  have : fnd (β := Bool) (.i .i64) k m = findM k m := by
    unfold fnd
    congr 1
  rw [this]; exact find_some h
end Go.Rx
end
noncomputable section
namespace Go.Rx
def t_api_Stamp : Ty := .ag [.i .i64, .i .i64]
abbrev T_api_Stamp := Int × Int
def T_api_Stamp.N (x : T_api_Stamp) : Int := x.1
def T_api_Stamp.Rep (x : T_api_Stamp) : Int := x.2
def T_api_Stamp.mk (x0 : Int) (x1 : Int) : T_api_Stamp := (x0, x1)
instance T_api_Stamp.dec : DecidableEq T_api_Stamp := decE t_api_Stamp
def t_api_Cell : Ty := .ag [t_api_Stamp, .s]
abbrev T_api_Cell := T_api_Stamp × List UInt8
def T_api_Cell.S (x : T_api_Cell) : T_api_Stamp := x.1
def T_api_Cell.V (x : T_api_Cell) : List UInt8 := x.2
def T_api_Cell.mk (x0 : T_api_Stamp) (x1 : List UInt8) : T_api_Cell := (x0, x1)
instance T_api_Cell.dec : DecidableEq T_api_Cell := decE t_api_Cell
def t_api_Field : Ty := .ag [.i .i64, t_api_Cell]
abbrev T_api_Field := Int × T_api_Cell
def T_api_Field.No (x : T_api_Field) : Int := x.1
def T_api_Field.C (x : T_api_Field) : T_api_Cell := x.2
def T_api_Field.mk (x0 : Int) (x1 : T_api_Cell) : T_api_Field := (x0, x1)
instance T_api_Field.dec : DecidableEq T_api_Field := decE t_api_Field
def t_api_Rec : Ty := .ag [.ba 16, t_api_Stamp, .sl 4 t_api_Field]
abbrev T_api_Rec := Vector UInt8 16 × T_api_Stamp × List T_api_Field
def T_api_Rec.ID (x : T_api_Rec) : Vector UInt8 16 := x.1
def T_api_Rec.Dead (x : T_api_Rec) : T_api_Stamp := x.2.1
def T_api_Rec.F (x : T_api_Rec) : List T_api_Field := x.2.2
def T_api_Rec.mk (x0 : Vector UInt8 16) (x1 : T_api_Stamp) (x2 : List T_api_Field) : T_api_Rec := (x0, x1, x2)
instance T_api_Rec.dec : DecidableEq T_api_Rec := decE t_api_Rec
def t_api_Book : Ty := .ag [.sl 19 t_api_Rec]
abbrev T_api_Book := List T_api_Rec
def T_api_Book.R (x : T_api_Book) : List T_api_Rec := x
def T_api_Book.mk (x0 : List T_api_Rec) : T_api_Book := (x0)
instance T_api_Book.dec : DecidableEq T_api_Book := decE t_api_Book
def t_api_Sig : Ty := .ag [.i .u32, .ba 32]
abbrev T_api_Sig := Int × Vector UInt8 32
def T_api_Sig.Weak (x : T_api_Sig) : Int := x.1
def T_api_Sig.Strong (x : T_api_Sig) : Vector UInt8 32 := x.2
def T_api_Sig.mk (x0 : Int) (x1 : Vector UInt8 32) : T_api_Sig := (x0, x1)
instance T_api_Sig.dec : DecidableEq T_api_Sig := decE t_api_Sig
def t_api_Entry : Ty := .ag [.i .i64, t_api_Stamp, .i .i64, .ba 32, .sl 33 t_api_Sig]
abbrev T_api_Entry := Int × T_api_Stamp × Int × Vector UInt8 32 × List T_api_Sig
def T_api_Entry.No (x : T_api_Entry) : Int := x.1
def T_api_Entry.S (x : T_api_Entry) : T_api_Stamp := x.2.1
def T_api_Entry.Len (x : T_api_Entry) : Int := x.2.2.1
def T_api_Entry.D (x : T_api_Entry) : Vector UInt8 32 := x.2.2.2.1
def T_api_Entry.B (x : T_api_Entry) : List T_api_Sig := x.2.2.2.2
def T_api_Entry.mk (x0 : Int) (x1 : T_api_Stamp) (x2 : Int) (x3 : Vector UInt8 32) (x4 : List T_api_Sig) : T_api_Entry := (x0, x1, x2, x3, x4)
instance T_api_Entry.dec : DecidableEq T_api_Entry := decE t_api_Entry
def t_api_Line : Ty := .ag [.ba 16, t_api_Stamp, .sl 37 t_api_Entry]
abbrev T_api_Line := Vector UInt8 16 × T_api_Stamp × List T_api_Entry
def T_api_Line.ID (x : T_api_Line) : Vector UInt8 16 := x.1
def T_api_Line.Dead (x : T_api_Line) : T_api_Stamp := x.2.1
def T_api_Line.F (x : T_api_Line) : List T_api_Entry := x.2.2
def T_api_Line.mk (x0 : Vector UInt8 16) (x1 : T_api_Stamp) (x2 : List T_api_Entry) : T_api_Line := (x0, x1, x2)
instance T_api_Line.dec : DecidableEq T_api_Line := decE t_api_Line
def t_api_Manifest : Ty := .ag [.ba 32, .sl 19 t_api_Line]
abbrev T_api_Manifest := Vector UInt8 32 × List T_api_Line
def T_api_Manifest.Base (x : T_api_Manifest) : Vector UInt8 32 := x.1
def T_api_Manifest.L (x : T_api_Manifest) : List T_api_Line := x.2
def T_api_Manifest.mk (x0 : Vector UInt8 32) (x1 : List T_api_Line) : T_api_Manifest := (x0, x1)
instance T_api_Manifest.dec : DecidableEq T_api_Manifest := decE t_api_Manifest
end Go.Rx
end
set_option maxRecDepth 100000
noncomputable section
namespace Go.Rx
open Go.Proofs
theorem Tryz_draw : Tryz.prog.follows .mixedOrders = true := by kernel_rfl
noncomputable instance Tryz_ct : CT := ⟨ctF Tryz.prog⟩
def bcmp_s : Ent := cmpS 107
theorem bcmp_ok : SmOK Tryz.prog bcmp_s := cmpS_ok (fn := Tryz.f107) (by kernel_rfl) (by kernel_rfl) (by kernel_rfl) (by kernel_rfl) (by kernel_rfl)
noncomputable def Tryz_b69 : Code := Tryz.f69.body.getD .skip
theorem Tryz_F69 : FnF Tryz.prog 69 Tryz.f69 Tryz_b69 := ⟨Tryz_draw, by kernel_rfl, by kernel_rfl, by kernel_rfl⟩
def bytes_Clone_H : TH := { live := [(0, [0]), (1, [0, 4]), (2, [2]), (3, [2])], vecs := [5], esc := true }
def bytes_Clone_E (N : Nat) : List Ent := []
theorem bytes_Clone_Eok (N : Nat) : SmAll Tryz.prog (bytes_Clone_E N) := trivial
def bytes_Clone_o (a0 : List UInt8) (z : Unit) : TV × THp := (.v 100050 (((([] : List UInt8)) ++ a0).length), [(100050, .vec false 1 .bl ((([] : List UInt8)) ++ a0 : List UInt8))])
def bytes_Clone_t (a0 : List UInt8) : Tree (Unit) :=
 .chk (List.isEmpty a0 = false) <|
 .chk (avOK ((([] : List UInt8)).length) 0 (((([] : List UInt8)) ++ a0).length) 1) <|
 .ret ()
def bytes_Clone (a0 : List UInt8) : Option (Unit) := (bytes_Clone_t a0).run some
def bytes_Clone_L : List (Nat × LEnt) := []
def bytes_Clone_s : Ent := smF ⟨69, [], [.x .bl], [], []⟩ [.bl] (Unit) (fun x => bytes_Clone x.1) cs1 fun x => bytes_Clone_o x.1
theorem bytes_Clone_val : FnVal Tryz.prog ⟨69, [], [.x .bl], [], []⟩ [.bl] (fun x => bytes_Clone_t x.1) (fun x => bytes_Clone_o x.1) :=
  fn_val (H := bytes_Clone_H) (L := lenv (bytes_Clone_L)) 0 Tryz_F69 (bytes_Clone_Eok 0) (lenv_ok (by kernel_rfl) trivial) (rg0 (by kernel_rfl)) fun x => by kernel_rfl
theorem bytes_Clone_ok : SmOK Tryz.prog (bytes_Clone_s) := smF_ok (bytes_Clone_val)
def bytes_Clone_2_H : TH := { live := [(0, [0]), (1, [0, 4]), (2, [2]), (3, [2])], vecs := [5], esc := true }
def bytes_Clone_2_E (N : Nat) : List Ent := []
theorem bytes_Clone_2_Eok (N : Nat) : SmAll Tryz.prog (bytes_Clone_2_E N) := trivial
def bytes_Clone_2_o (z : Unit) : TV × THp := (.v 100050 0, [(100050, .vec false 1 .bl ([] : List UInt8))])
def bytes_Clone_2_t : Tree (Unit) :=
 .chk (0 = 0) <|
 .ret ()
def bytes_Clone_2 : Option (Unit) := (bytes_Clone_2_t).run some
def bytes_Clone_2_L : List (Nat × LEnt) := []
def bytes_Clone_2_s : Ent := smF ⟨69, [], [.k (.es 0)], [], []⟩ [] (Unit) (fun x => bytes_Clone_2) cs1 fun _ => bytes_Clone_2_o
theorem bytes_Clone_2_val : FnVal Tryz.prog ⟨69, [], [.k (.es 0)], [], []⟩ [] (fun x => bytes_Clone_2_t) (fun _ => bytes_Clone_2_o) :=
  fn_val (H := bytes_Clone_2_H) (L := lenv (bytes_Clone_2_L)) 0 Tryz_F69 (bytes_Clone_2_Eok 0) (lenv_ok (by kernel_rfl) trivial) (rg0 (by kernel_rfl)) fun x => by kernel_rfl
theorem bytes_Clone_2_ok : SmOK Tryz.prog (bytes_Clone_2_s) := smF_ok (bytes_Clone_2_val)
def bytes_Clone_3_H : TH := { live := [(0, [0]), (1, [0, 4]), (2, [2]), (3, [2])], vecs := [5], esc := true }
def bytes_Clone_3_E (N : Nat) : List Ent := []
theorem bytes_Clone_3_Eok (N : Nat) : SmAll Tryz.prog (bytes_Clone_3_E N) := trivial
def bytes_Clone_3_o (z : Unit) : TV × THp := (.nils, [])
def bytes_Clone_3_t : Tree (Unit) :=
 .ret ()
def bytes_Clone_3 : Option (Unit) := (bytes_Clone_3_t).run some
def bytes_Clone_3_L : List (Nat × LEnt) := []
def bytes_Clone_3_s : Ent := smF ⟨69, [], [.k (.es 1)], [], []⟩ [] (Unit) (fun x => bytes_Clone_3) cs1 fun _ => bytes_Clone_3_o
theorem bytes_Clone_3_val : FnVal Tryz.prog ⟨69, [], [.k (.es 1)], [], []⟩ [] (fun x => bytes_Clone_3_t) (fun _ => bytes_Clone_3_o) :=
  fn_val (H := bytes_Clone_3_H) (L := lenv (bytes_Clone_3_L)) 0 Tryz_F69 (bytes_Clone_3_Eok 0) (lenv_ok (by kernel_rfl) trivial) (rg0 (by kernel_rfl)) fun x => by kernel_rfl
theorem bytes_Clone_3_ok : SmOK Tryz.prog (bytes_Clone_3_s) := smF_ok (bytes_Clone_3_val)
def bytes_CloneW_c0 (z : Unit) : Unit := ()
def bytes_CloneW_c1 (z : Unit) : Unit := ()
def bytes_CloneW (a0 : List UInt8) : Option (Unit) :=
 bif a0.isEmpty then
  (bytes_Clone_2).bind fun z0 => (bytes_Clone_3).bind fun z1 => chk (bytes_CloneW_c0 z0 = bytes_CloneW_c1 z1) (some (bytes_CloneW_c0 z0))
 else bytes_Clone a0
def bytes_CloneW_s : Ent := smF ⟨69, [], [.x .bl], [], []⟩ [.bl] (Unit) (fun x => bytes_CloneW x.1) cs1 fun x => bytes_Clone_o x.1
theorem bytes_CloneW_ok : SmOK Tryz.prog (bytes_CloneW_s) := smF_ok fun x z h l => by
  obtain ⟨a0, _⟩ := x
  replace h : bytes_CloneW a0 = some z := h
  unfold bytes_CloneW at h
  rcases cond_some h with ⟨e, h2⟩ | ⟨_, h2⟩ <;> clear h
  · have e := List.isEmpty_iff.1 e
    subst e
    obtain ⟨z0, c0, h2⟩ := bind_some h2
    obtain ⟨z1, c1, h2⟩ := bind_some h2
    obtain ⟨hE, h2⟩ := chk_some h2
    obtain rfl := Option.some.inj h2
    refine maybe_val (t := .bl) (x := []) rfl (TV.ers []) (TV.ers []) (by exact bytes_Clone_2_val (()) _ c0 l) ?_
    rw [hE]
    exact (nil_vec (n := 100050) (sz := 1) (x := toPV .bl ([] : List UInt8)) rfl (by kernel_rfl) (by kernel_rfl) (bytes_Clone_3_val (()) _ c1 l))
  · exact bytes_Clone_val (a0, ()) z h2 l
noncomputable def Tryz_b70 : Code := Tryz.f70.body.getD .skip
theorem Tryz_F70 : FnF Tryz.prog 70 Tryz.f70 Tryz_b70 := ⟨Tryz_draw, by kernel_rfl, by kernel_rfl, by kernel_rfl⟩
def sha_begun_H : TH := { live := [(0, [0]), (1, [0])] }
def sha_begun_E (N : Nat) : List Ent := []
theorem sha_begun_Eok (N : Nat) : SmAll Tryz.prog (sha_begun_E N) := trivial
def sha_begun_o (z : Unit) : TV × THp := (.tv (.wa 8) ((((((((((Vector.replicate 8 0)).setIfInBounds 0 ((UInt32.ofNat 1779033703))).setIfInBounds 1 ((UInt32.ofNat 3144134277))).setIfInBounds 2 ((UInt32.ofNat 1013904242))).setIfInBounds 3 ((UInt32.ofNat 2773480762))).setIfInBounds 4 ((UInt32.ofNat 1359893119))).setIfInBounds 5 ((UInt32.ofNat 2600822924))).setIfInBounds 6 ((UInt32.ofNat 528734635))).setIfInBounds 7 ((UInt32.ofNat 1541459225)) : Vector UInt32 8), [])
def sha_begun_t : Tree (Unit) :=
 .chk (0 < 8) <|
 .chk (1 < 8) <|
 .chk (2 < 8) <|
 .chk (3 < 8) <|
 .chk (4 < 8) <|
 .chk (5 < 8) <|
 .chk (6 < 8) <|
 .chk (7 < 8) <|
 .ret ()
def sha_begun : Option (Unit) := (sha_begun_t).run some
def sha_begun_L : List (Nat × LEnt) := []
def sha_begun_s : Ent := smF ⟨70, [], [], [], []⟩ [] (Unit) (fun x => sha_begun) cs1 fun _ => sha_begun_o
theorem sha_begun_ok : SmOK Tryz.prog (sha_begun_s) :=
  fn_ok (H := sha_begun_H) (L := lenv (sha_begun_L)) (ts := []) (T := fun x => sha_begun_t) 0 Tryz_F70 (sha_begun_Eok 0) (lenv_ok (by kernel_rfl) trivial) (rg0 (by kernel_rfl)) fun x => by kernel_rfl
noncomputable def Tryz_b71 : Code := Tryz.f71.body.getD .skip
theorem Tryz_F71 : FnF Tryz.prog 71 Tryz.f71 Tryz_b71 := ⟨Tryz_draw, by kernel_rfl, by kernel_rfl, by kernel_rfl⟩
def sha_roots_H : TH := { live := [(0, [0]), (1, [0])] }
def sha_roots_E (N : Nat) : List Ent := []
theorem sha_roots_Eok (N : Nat) : SmAll Tryz.prog (sha_roots_E N) := trivial
def sha_roots_o (z : Unit) : TV × THp := (.tv (.wa 64) ((((((((((((((((((((((((((((((((((((((((((((((((((((((((((((((((((Vector.replicate 64 0)).setIfInBounds 0 ((UInt32.ofNat 1116352408))).setIfInBounds 1 ((UInt32.ofNat 1899447441))).setIfInBounds 2 ((UInt32.ofNat 3049323471))).setIfInBounds 3 ((UInt32.ofNat 3921009573))).setIfInBounds 4 ((UInt32.ofNat 961987163))).setIfInBounds 5 ((UInt32.ofNat 1508970993))).setIfInBounds 6 ((UInt32.ofNat 2453635748))).setIfInBounds 7 ((UInt32.ofNat 2870763221))).setIfInBounds 8 ((UInt32.ofNat 3624381080))).setIfInBounds 9 ((UInt32.ofNat 310598401))).setIfInBounds 10 ((UInt32.ofNat 607225278))).setIfInBounds 11 ((UInt32.ofNat 1426881987))).setIfInBounds 12 ((UInt32.ofNat 1925078388))).setIfInBounds 13 ((UInt32.ofNat 2162078206))).setIfInBounds 14 ((UInt32.ofNat 2614888103))).setIfInBounds 15 ((UInt32.ofNat 3248222580))).setIfInBounds 16 ((UInt32.ofNat 3835390401))).setIfInBounds 17 ((UInt32.ofNat 4022224774))).setIfInBounds 18 ((UInt32.ofNat 264347078))).setIfInBounds 19 ((UInt32.ofNat 604807628))).setIfInBounds 20 ((UInt32.ofNat 770255983))).setIfInBounds 21 ((UInt32.ofNat 1249150122))).setIfInBounds 22 ((UInt32.ofNat 1555081692))).setIfInBounds 23 ((UInt32.ofNat 1996064986))).setIfInBounds 24 ((UInt32.ofNat 2554220882))).setIfInBounds 25 ((UInt32.ofNat 2821834349))).setIfInBounds 26 ((UInt32.ofNat 2952996808))).setIfInBounds 27 ((UInt32.ofNat 3210313671))).setIfInBounds 28 ((UInt32.ofNat 3336571891))).setIfInBounds 29 ((UInt32.ofNat 3584528711))).setIfInBounds 30 ((UInt32.ofNat 113926993))).setIfInBounds 31 ((UInt32.ofNat 338241895))).setIfInBounds 32 ((UInt32.ofNat 666307205))).setIfInBounds 33 ((UInt32.ofNat 773529912))).setIfInBounds 34 ((UInt32.ofNat 1294757372))).setIfInBounds 35 ((UInt32.ofNat 1396182291))).setIfInBounds 36 ((UInt32.ofNat 1695183700))).setIfInBounds 37 ((UInt32.ofNat 1986661051))).setIfInBounds 38 ((UInt32.ofNat 2177026350))).setIfInBounds 39 ((UInt32.ofNat 2456956037))).setIfInBounds 40 ((UInt32.ofNat 2730485921))).setIfInBounds 41 ((UInt32.ofNat 2820302411))).setIfInBounds 42 ((UInt32.ofNat 3259730800))).setIfInBounds 43 ((UInt32.ofNat 3345764771))).setIfInBounds 44 ((UInt32.ofNat 3516065817))).setIfInBounds 45 ((UInt32.ofNat 3600352804))).setIfInBounds 46 ((UInt32.ofNat 4094571909))).setIfInBounds 47 ((UInt32.ofNat 275423344))).setIfInBounds 48 ((UInt32.ofNat 430227734))).setIfInBounds 49 ((UInt32.ofNat 506948616))).setIfInBounds 50 ((UInt32.ofNat 659060556))).setIfInBounds 51 ((UInt32.ofNat 883997877))).setIfInBounds 52 ((UInt32.ofNat 958139571))).setIfInBounds 53 ((UInt32.ofNat 1322822218))).setIfInBounds 54 ((UInt32.ofNat 1537002063))).setIfInBounds 55 ((UInt32.ofNat 1747873779))).setIfInBounds 56 ((UInt32.ofNat 1955562222))).setIfInBounds 57 ((UInt32.ofNat 2024104815))).setIfInBounds 58 ((UInt32.ofNat 2227730452))).setIfInBounds 59 ((UInt32.ofNat 2361852424))).setIfInBounds 60 ((UInt32.ofNat 2428436474))).setIfInBounds 61 ((UInt32.ofNat 2756734187))).setIfInBounds 62 ((UInt32.ofNat 3204031479))).setIfInBounds 63 ((UInt32.ofNat 3329325298)) : Vector UInt32 64), [])
def sha_roots_t : Tree (Unit) :=
 .chk (0 < 64) <|
 .chk (1 < 64) <|
 .chk (2 < 64) <|
 .chk (3 < 64) <|
 .chk (4 < 64) <|
 .chk (5 < 64) <|
 .chk (6 < 64) <|
 .chk (7 < 64) <|
 .chk (8 < 64) <|
 .chk (9 < 64) <|
 .chk (10 < 64) <|
 .chk (11 < 64) <|
 .chk (12 < 64) <|
 .chk (13 < 64) <|
 .chk (14 < 64) <|
 .chk (15 < 64) <|
 .chk (16 < 64) <|
 .chk (17 < 64) <|
 .chk (18 < 64) <|
 .chk (19 < 64) <|
 .chk (20 < 64) <|
 .chk (21 < 64) <|
 .chk (22 < 64) <|
 .chk (23 < 64) <|
 .chk (24 < 64) <|
 .chk (25 < 64) <|
 .chk (26 < 64) <|
 .chk (27 < 64) <|
 .chk (28 < 64) <|
 .chk (29 < 64) <|
 .chk (30 < 64) <|
 .chk (31 < 64) <|
 .chk (32 < 64) <|
 .chk (33 < 64) <|
 .chk (34 < 64) <|
 .chk (35 < 64) <|
 .chk (36 < 64) <|
 .chk (37 < 64) <|
 .chk (38 < 64) <|
 .chk (39 < 64) <|
 .chk (40 < 64) <|
 .chk (41 < 64) <|
 .chk (42 < 64) <|
 .chk (43 < 64) <|
 .chk (44 < 64) <|
 .chk (45 < 64) <|
 .chk (46 < 64) <|
 .chk (47 < 64) <|
 .chk (48 < 64) <|
 .chk (49 < 64) <|
 .chk (50 < 64) <|
 .chk (51 < 64) <|
 .chk (52 < 64) <|
 .chk (53 < 64) <|
 .chk (54 < 64) <|
 .chk (55 < 64) <|
 .chk (56 < 64) <|
 .chk (57 < 64) <|
 .chk (58 < 64) <|
 .chk (59 < 64) <|
 .chk (60 < 64) <|
 .chk (61 < 64) <|
 .chk (62 < 64) <|
 .chk (63 < 64) <|
 .ret ()
def sha_roots : Option (Unit) := (sha_roots_t).run some
def sha_roots_L : List (Nat × LEnt) := []
def sha_roots_s : Ent := smF ⟨71, [], [], [], []⟩ [] (Unit) (fun x => sha_roots) cs1 fun _ => sha_roots_o
theorem sha_roots_ok : SmOK Tryz.prog (sha_roots_s) :=
  fn_ok (H := sha_roots_H) (L := lenv (sha_roots_L)) (ts := []) (T := fun x => sha_roots_t) 0 Tryz_F71 (sha_roots_Eok 0) (lenv_ok (by kernel_rfl) trivial) (rg0 (by kernel_rfl)) fun x => by kernel_rfl
noncomputable def Tryz_b118 : Code := Tryz.f118.body.getD .skip
theorem Tryz_F118 : FnF Tryz.prog 118 Tryz.f118 Tryz_b118 := ⟨Tryz_draw, by kernel_rfl, by kernel_rfl, by kernel_rfl⟩
def math_bits_RotateLeft32_H : TH := { live := [(0, [0, 1]), (1, [0, 5]), (2, [4])] }
def math_bits_RotateLeft32_E (N : Nat) : List Ent := []
theorem math_bits_RotateLeft32_Eok (N : Nat) : SmAll Tryz.prog (math_bits_RotateLeft32_E N) := trivial
def math_bits_RotateLeft32_o (z : Int) : TV × THp := (.tv (.i .u32) z, [])
def math_bits_RotateLeft32_t (a0 : Int) (a1 : Int) : Tree (Int) :=
 .chk (0 ≤ (uAnd .u64 (IntKind.u64.wrap a1) 31)) <|
 let w1 : Int := uShl .u32 a0 (min (uAnd .u64 (IntKind.u64.wrap a1) 31).toNat 32)
 let w2 : Int := uSub .u64 ((32 : Int)) (uAnd .u64 (IntKind.u64.wrap a1) 31)
 .chk (0 ≤ w2) <|
 .ret (uOr .u32 w1 (uShr a0 (min w2.toNat 32)))
def math_bits_RotateLeft32 (a0 : Int) (a1 : Int) : Option (Int) := (math_bits_RotateLeft32_t a0 a1).run some
def math_bits_RotateLeft32_L : List (Nat × LEnt) := []
def math_bits_RotateLeft32_s : Ent := smF ⟨118, [], [.x (.i .u32), .x (.i .i64)], [], []⟩ [(.i .u32), (.i .i64)] (Int) (fun x => math_bits_RotateLeft32 x.1 x.2.1) cs1 fun _ => math_bits_RotateLeft32_o
theorem math_bits_RotateLeft32_ok : SmOK Tryz.prog (math_bits_RotateLeft32_s) :=
  fn_ok (H := math_bits_RotateLeft32_H) (L := lenv (math_bits_RotateLeft32_L)) (ts := [(.i .u32), (.i .i64)]) (T := fun x => math_bits_RotateLeft32_t x.1 x.2.1) 0 Tryz_F118 (math_bits_RotateLeft32_Eok 0) (lenv_ok (by kernel_rfl) trivial) (rg0 (by kernel_rfl)) fun x => by kernel_rfl
noncomputable def Tryz_b96 : Code := Tryz.f96.body.getD .skip
theorem Tryz_F96 : FnF Tryz.prog 96 Tryz.f96 Tryz_b96 := ⟨Tryz_draw, by kernel_rfl, by kernel_rfl, by kernel_rfl⟩
def sha_right_H : TH := { live := [(0, [0, 1]), (1, [4])] }
def sha_right_E (N : Nat) : List Ent := [math_bits_RotateLeft32_s]
theorem sha_right_Eok (N : Nat) : SmAll Tryz.prog (sha_right_E N) := ⟨math_bits_RotateLeft32_ok, trivial⟩
def sha_right_o (z : Int) : TV × THp := (.tv (.i .u32) z, [])
def sha_right_t (a0 : Int) (a1 : Int) : Tree (Int) :=
 .chk (in64 (0 - a1)) <|
 .bind (math_bits_RotateLeft32 a0 (0 - a1)) fun r1 =>
 .ret r1
def sha_right (a0 : Int) (a1 : Int) : Option (Int) := (sha_right_t a0 a1).run some
def sha_right_L : List (Nat × LEnt) := []
def sha_right_s : Ent := smF ⟨96, [], [.x (.i .u32), .x (.i .i64)], [], []⟩ [(.i .u32), (.i .i64)] (Int) (fun x => sha_right x.1 x.2.1) cs1 fun _ => sha_right_o
theorem sha_right_ok : SmOK Tryz.prog (sha_right_s) :=
  fn_ok (H := sha_right_H) (L := lenv (sha_right_L)) (ts := [(.i .u32), (.i .i64)]) (T := fun x => sha_right_t x.1 x.2.1) 0 Tryz_F96 (sha_right_Eok 0) (lenv_ok (by kernel_rfl) trivial) (rg0 (by kernel_rfl)) fun x => by kernel_rfl
noncomputable def Tryz_b95 : Code := Tryz.f95.body.getD .skip
theorem Tryz_F95 : FnF Tryz.prog 95 Tryz.f95 Tryz_b95 := ⟨Tryz_draw, by kernel_rfl, by kernel_rfl, by kernel_rfl⟩
def sha_schedule_H : TH := { live := [(0, [0, 2]), (1, [0, 2, 3]), (2, [0, 2, 3, 7]), (3, [0, 2, 3, 7, 8]), (4, [0, 2, 3, 4, 7]), (5, [0, 2, 3, 4, 7, 11]), (6, [0, 2, 3, 7]), (7, [0, 2, 3, 4, 5, 6, 7]), (8, [0, 2, 3, 7]), (9, [0, 2, 3, 7]), (10, [2])] }
def sha_schedule_E (N : Nat) : List Ent := [sha_right_s]
theorem sha_schedule_Eok (N : Nat) : SmAll Tryz.prog (sha_schedule_E N) := ⟨sha_right_ok, trivial⟩
abbrev sha_schedule_l3_F := Vector UInt32 64 × List UInt8
abbrev sha_schedule_l3_Y := Vector UInt32 64 × Int × Bool
def sha_schedule_l3_o (f : sha_schedule_l3_F) (y : sha_schedule_l3_Y) : Ex × TSt := (.exit 0, ⟨0, 86, [], [(0, .tv .bl f.2), (2, .p 20 [] 0), (3, .p 30 [] 0), (7, xi y.2.1), (8, xb y.2.2)], [(20, .cell false (.tv (.wa 64) f.1)), (30, .cell false (.tv (.wa 64) (y.1 : Vector UInt32 64)))], false, []⟩)
def sha_schedule_l3_L (N : Nat) : List (Nat × LEnt) := []
abbrev sha_schedule_l3_V := Vector UInt32 64 × Int
def sha_schedule_l3_p : SP := ⟨0, 86, [], [(0, .x .bl), (2, .k (.p 20 [] 0)), (3, .k (.p 30 [] 0)), (7, .x (.i .i64))], [(20, .cell false (.x (.wa 64))), (30, .cell false (.x (.wa 64)))], false, []⟩
def sha_schedule_l3_h (f : sha_schedule_l3_F) (v : sha_schedule_l3_V) : TSt := fillS sha_schedule_l3_p [dv (.wa 64) f.1, dv (.wa 64) v.1, dv .bl f.2, dv (.i .i64) v.2]
def sha_schedule_l3_t (N : Nat) (o_3 : Vector UInt32 64) (s0_3 : List UInt8) (v : sha_schedule_l3_V) : Tree (sha_schedule_l3_V ⊕ sha_schedule_l3_Y) :=
 .cond (decide (v.2 < ((64 : Int)))) (
 .cond (decide (v.2 < ((16 : Int)))) (
 .chk (in64 (((4 : Int)) * v.2)) <|
 .bind (getI s0_3 (((4 : Int)) * v.2)) fun e1 =>
 let w2 : Int := IntKind.u32.wrap ((e1.toNat : Nat) : Int)
 .chk (0 ≤ (24 : Int)) <|
 .chk (in64 (((4 : Int)) * v.2)) <|
 .chk (in64 ((((4 : Int)) * v.2) + 1)) <|
 .bind (getI s0_3 ((((4 : Int)) * v.2) + 1)) fun e3 =>
 let w4 : Int := IntKind.u32.wrap ((e3.toNat : Nat) : Int)
 .chk (0 ≤ (16 : Int)) <|
 let w5 : Int := uOr .u32 (uShl .u32 w2 24) (uShl .u32 w4 16)
 .chk (in64 (((4 : Int)) * v.2)) <|
 .chk (in64 ((((4 : Int)) * v.2) + 2)) <|
 .bind (getI s0_3 ((((4 : Int)) * v.2) + 2)) fun e6 =>
 let w7 : Int := IntKind.u32.wrap ((e6.toNat : Nat) : Int)
 .chk (0 ≤ (8 : Int)) <|
 .chk (in64 (((4 : Int)) * v.2)) <|
 .chk (in64 ((((4 : Int)) * v.2) + 3)) <|
 .bind (getI s0_3 ((((4 : Int)) * v.2) + 3)) fun e8 =>
 let w9 : Int := IntKind.u32.wrap ((e8.toNat : Nat) : Int)
 let w10 : Int := uOr .u32 (uOr .u32 w5 (uShl .u32 w7 8)) w9
 .chk (0 ≤ v.2 ∧ v.2 < ((64 : Nat) : Int)) <|
 .chk (inW w10) <|
 .chk (v.2.toNat < 64) <|
 .chk (in64 (v.2 + 1)) <|
 .ret (.inl (v.1.setIfInBounds v.2.toNat (UInt32.ofNat w10.toNat), v.2 + 1))) <|
 .chk (in64 (v.2 - 15)) <|
 .chk (0 ≤ (v.2 - 15) ∧ (v.2 - 15) < ((64 : Nat) : Int)) <|
 .chk ((v.2 - 15).toNat < 64) <|
 .chk (in64 (v.2 - 2)) <|
 .chk (0 ≤ (v.2 - 2) ∧ (v.2 - 2) < ((64 : Nat) : Int)) <|
 .chk ((v.2 - 2).toNat < 64) <|
 .chk (in64 (v.2 - 16)) <|
 .chk (0 ≤ (v.2 - 16) ∧ (v.2 - 16) < ((64 : Nat) : Int)) <|
 .chk ((v.2 - 16).toNat < 64) <|
 .chk (in64 (v.2 - 7)) <|
 .chk (0 ≤ (v.2 - 7) ∧ (v.2 - 7) < ((64 : Nat) : Int)) <|
 .chk ((v.2 - 7).toNat < 64) <|
 let w1 : Int := uAdd .u32 (((v.1.toList.getD ((v.2 - 16).toNat) 0).toNat : Nat) : Int) (((v.1.toList.getD ((v.2 - 7).toNat) 0).toNat : Nat) : Int)
 .bind (sha_right (((v.1.toList.getD ((v.2 - 15).toNat) 0).toNat : Nat) : Int) 7) fun r2 =>
 .bind (sha_right (((v.1.toList.getD ((v.2 - 15).toNat) 0).toNat : Nat) : Int) 18) fun r3 =>
 .chk (0 ≤ (3 : Int)) <|
 let w4 : Int := uShr (((v.1.toList.getD ((v.2 - 15).toNat) 0).toNat : Nat) : Int) 3
 let w5 : Int := uAdd .u32 w1 (uXor .u32 (uXor .u32 r2 r3) w4)
 .bind (sha_right (((v.1.toList.getD ((v.2 - 2).toNat) 0).toNat : Nat) : Int) 17) fun r6 =>
 .bind (sha_right (((v.1.toList.getD ((v.2 - 2).toNat) 0).toNat : Nat) : Int) 19) fun r7 =>
 .chk (0 ≤ (10 : Int)) <|
 let w8 : Int := uShr (((v.1.toList.getD ((v.2 - 2).toNat) 0).toNat : Nat) : Int) 10
 let w9 : Int := uAdd .u32 w5 (uXor .u32 (uXor .u32 r6 r7) w8)
 .chk (0 ≤ v.2 ∧ v.2 < ((64 : Nat) : Int)) <|
 .chk (inW w9) <|
 .chk (v.2.toNat < 64) <|
 .chk (in64 (v.2 + 1)) <|
 .ret (.inl (v.1.setIfInBounds v.2.toNat (UInt32.ofNat w9.toNat), v.2 + 1))) <|
 .ret (.inr (v.1, v.2, decide (v.2 < ((64 : Int)))))
def sha_schedule_l3_n (N n : Nat) (f : sha_schedule_l3_F) (v : sha_schedule_l3_V) : Option sha_schedule_l3_Y := loopG (sha_schedule_l3_t N f.1 f.2) some n v
theorem sha_schedule_l3_q (N : Nat) (f : sha_schedule_l3_F) (n : Nat) (v : sha_schedule_l3_V) (y : sha_schedule_l3_Y) (h : sha_schedule_l3_n N n f v = some y) : LG Tryz.prog sha_schedule_H 95 (lookC Tryz_b95 3) (sha_schedule_l3_h f v) (sha_schedule_l3_o f y) :=
  loop_g Tryz_draw (E := sha_schedule_E N) (L := lenv (sha_schedule_l3_L N)) (st := sha_schedule_l3_o f) (g := some) (R := sha_schedule_l3_o f) (sha_schedule_Eok N) (lenv_ok (by kernel_rfl) trivial) (rg0 (by kernel_rfl)) (fun v => by kernel_rfl) (good_self (st := sha_schedule_l3_o f) fun y => by rfl) n v y h
def sha_schedule_l3 (N : Nat) (o_3 : Vector UInt32 64) (s0_3 : List UInt8) (o_3_2 : Vector UInt32 64) (s7_3 : Int) : Option sha_schedule_l3_Y := sha_schedule_l3_n N N (o_3, s0_3) (o_3_2, s7_3)
def sha_schedule_l3_s (N : Nat) : LEnt := smL sha_schedule_l3_p [(.wa 64), (.wa 64), .bl, (.i .i64)] sha_schedule_l3_Y (fun x => sha_schedule_l3 N x.1 x.2.2.1 x.2.1 x.2.2.2.1) cs1 fun x => sha_schedule_l3_o (x.1, x.2.2.1)
theorem sha_schedule_l3_ok (N : Nat) : LsOK Tryz.prog sha_schedule_H 95 (lookC Tryz_b95 3) (sha_schedule_l3_s N) := smL_ok fun x z h => sha_schedule_l3_q N (x.1, x.2.2.1) N (x.2.1, x.2.2.2.1) z h
def sha_schedule_o (z : Vector UInt32 64) : TV × THp := (.tv (.wa 64) z, [])
def sha_schedule_t (N : Nat) (a0 : List UInt8) : Tree (Vector UInt32 64) :=
 .bind (sha_schedule_l3 N ((Vector.replicate 64 0)) a0 ((Vector.replicate 64 0)) 0) fun z1 =>
 .ret z1.1
def sha_schedule (N : Nat) (a0 : List UInt8) : Option (Vector UInt32 64) := (sha_schedule_t N a0).run some
def sha_schedule_L (N : Nat) : List (Nat × LEnt) := [(3, sha_schedule_l3_s N)]
def sha_schedule_s (N : Nat) : Ent := smF ⟨95, [], [.x .bl], [], []⟩ [.bl] (Vector UInt32 64) (fun x => sha_schedule N x.1) cs1 fun _ => sha_schedule_o
theorem sha_schedule_ok (N : Nat) : SmOK Tryz.prog (sha_schedule_s N) :=
  fn_ok (H := sha_schedule_H) (L := lenv (sha_schedule_L N)) (ts := [.bl]) (T := fun x => sha_schedule_t N x.1) 0 Tryz_F95 (sha_schedule_Eok N) (lenv_ok (by kernel_rfl) ⟨sha_schedule_l3_ok N, trivial⟩) (rg0 (by kernel_rfl)) fun x => by kernel_rfl
noncomputable def Tryz_b72 : Code := Tryz.f72.body.getD .skip
theorem Tryz_F72 : FnF Tryz.prog 72 Tryz.f72 Tryz_b72 := ⟨Tryz_draw, by kernel_rfl, by kernel_rfl, by kernel_rfl⟩
def sha_state_take_H : TH := { live := [(0, [0, 2, 6]), (1, [0, 2, 6, 7]), (2, [0, 2, 6, 7, 19]), (3, [0, 2, 6, 7, 19, 20]), (4, [0, 2, 6, 7, 8, 19]), (5, [0, 2, 6, 7, 8, 9, 10, 19]), (6, [0, 2, 6, 7, 9, 11, 19]), (7, [0, 2, 6, 7, 11, 12, 19]), (8, [0, 2, 6, 7, 11, 12, 19]), (9, [0, 2, 6, 7, 11, 19]), (10, [0, 2, 6, 7, 19]), (11, [0, 2, 6, 7, 19]), (12, [0, 7, 95]), (13, [0, 7, 95, 96]), (14, [0, 7, 13, 95]), (15, [0, 7, 95]), (16, [0, 7, 95])] }
def sha_state_take_E (N : Nat) : List Ent := [sha_schedule_s N, sha_right_s]
theorem sha_state_take_Eok (N : Nat) : SmAll Tryz.prog (sha_state_take_E N) := ⟨sha_schedule_ok N, sha_right_ok, trivial⟩
abbrev sha_state_take_l3_F := Vector UInt32 8 × Vector UInt32 64 × Vector UInt32 64
abbrev sha_state_take_l3_Y := Vector UInt32 8 × Int × Bool
def sha_state_take_l3_o (f : sha_state_take_l3_F) (y : sha_state_take_l3_Y) : Ex × TSt := (.exit 0, ⟨1, 110, [50, 60], [(0, .p 50 [] 0), (2, .p 60 [] 0), (6, .p 100060 [] 0), (7, .p 100070 [] 0), (19, xi y.2.1), (20, xb y.2.2)], [(50, .cell false (.tv (.wa 8) f.1)), (60, .cell false (.tv (.wa 64) f.2.1)), (100060, .cell false (.tv (.wa 64) f.2.2)), (100070, .cell false (.tv (.wa 8) (y.1 : Vector UInt32 8)))], false, []⟩)
def sha_state_take_l3_L (N : Nat) : List (Nat × LEnt) := []
abbrev sha_state_take_l3_V := Vector UInt32 8 × Int
def sha_state_take_l3_p : SP := ⟨1, 110, [50, 60], [(0, .k (.p 50 [] 0)), (2, .k (.p 60 [] 0)), (6, .k (.p 100060 [] 0)), (7, .k (.p 100070 [] 0)), (19, .x (.i .i64))], [(50, .cell false (.x (.wa 8))), (60, .cell false (.x (.wa 64))), (100060, .cell false (.x (.wa 64))), (100070, .cell false (.x (.wa 8)))], false, []⟩
def sha_state_take_l3_h (f : sha_state_take_l3_F) (v : sha_state_take_l3_V) : TSt := fillS sha_state_take_l3_p [dv (.wa 8) f.1, dv (.wa 64) f.2.1, dv (.wa 64) f.2.2, dv (.wa 8) v.1, dv (.i .i64) v.2]
def sha_state_take_l3_t (N : Nat) (o_3 : Vector UInt32 8) (o_3_2 : Vector UInt32 64) (o_3_3 : Vector UInt32 64) (v : sha_state_take_l3_V) : Tree (sha_state_take_l3_V ⊕ sha_state_take_l3_Y) :=
 .cond (decide (v.2 < ((64 : Int)))) (
 .chk (0 ≤ (0 : Int) ∧ (0 : Int) < ((8 : Nat) : Int)) <|
 .chk (0 < 8) <|
 .chk (0 ≤ (4 : Int) ∧ (4 : Int) < ((8 : Nat) : Int)) <|
 .chk (4 < 8) <|
 .chk (0 ≤ (7 : Int) ∧ (7 : Int) < ((8 : Nat) : Int)) <|
 .chk (7 < 8) <|
 .bind (sha_right (((v.1.toList.getD 4 0).toNat : Nat) : Int) 6) fun r1 =>
 .bind (sha_right (((v.1.toList.getD 4 0).toNat : Nat) : Int) 11) fun r2 =>
 .bind (sha_right (((v.1.toList.getD 4 0).toNat : Nat) : Int) 25) fun r3 =>
 let w4 : Int := uAdd .u32 (((v.1.toList.getD 7 0).toNat : Nat) : Int) (uXor .u32 (uXor .u32 r1 r2) r3)
 .chk (0 ≤ (5 : Int) ∧ (5 : Int) < ((8 : Nat) : Int)) <|
 .chk (5 < 8) <|
 let w5 : Int := uAnd .u32 (((v.1.toList.getD 4 0).toNat : Nat) : Int) (((v.1.toList.getD 5 0).toNat : Nat) : Int)
 let w6 : Int := uXor .u32 (4294967295) (((v.1.toList.getD 4 0).toNat : Nat) : Int)
 .chk (0 ≤ (6 : Int) ∧ (6 : Int) < ((8 : Nat) : Int)) <|
 .chk (6 < 8) <|
 let w7 : Int := uAnd .u32 w6 (((v.1.toList.getD 6 0).toNat : Nat) : Int)
 .chk (0 ≤ v.2 ∧ v.2 < ((64 : Nat) : Int)) <|
 .chk (v.2.toNat < 64) <|
 let w8 : Int := uAdd .u32 (uAdd .u32 w4 (uXor .u32 w5 w7)) (((o_3_2.toList.getD v.2.toNat 0).toNat : Nat) : Int)
 .chk (0 ≤ v.2 ∧ v.2 < ((64 : Nat) : Int)) <|
 .chk (v.2.toNat < 64) <|
 let w9 : Int := uAdd .u32 w8 (((o_3_3.toList.getD v.2.toNat 0).toNat : Nat) : Int)
 .bind (sha_right (((v.1.toList.getD 0 0).toNat : Nat) : Int) 2) fun r10 =>
 .bind (sha_right (((v.1.toList.getD 0 0).toNat : Nat) : Int) 13) fun r11 =>
 .bind (sha_right (((v.1.toList.getD 0 0).toNat : Nat) : Int) 22) fun r12 =>
 .chk (0 ≤ (1 : Int) ∧ (1 : Int) < ((8 : Nat) : Int)) <|
 .chk (1 < 8) <|
 let w13 : Int := uAnd .u32 (((v.1.toList.getD 0 0).toNat : Nat) : Int) (((v.1.toList.getD 1 0).toNat : Nat) : Int)
 .chk (0 ≤ (2 : Int) ∧ (2 : Int) < ((8 : Nat) : Int)) <|
 .chk (2 < 8) <|
 let w14 : Int := uAnd .u32 (((v.1.toList.getD 0 0).toNat : Nat) : Int) (((v.1.toList.getD 2 0).toNat : Nat) : Int)
 .chk (0 ≤ (1 : Int) ∧ (1 : Int) < ((8 : Nat) : Int)) <|
 .chk (1 < 8) <|
 .chk (0 ≤ (2 : Int) ∧ (2 : Int) < ((8 : Nat) : Int)) <|
 .chk (2 < 8) <|
 let w15 : Int := uAnd .u32 (((v.1.toList.getD 1 0).toNat : Nat) : Int) (((v.1.toList.getD 2 0).toNat : Nat) : Int)
 let w16 : Int := uAdd .u32 (uXor .u32 (uXor .u32 r10 r11) r12) (uXor .u32 (uXor .u32 w13 w14) w15)
 .chk (0 ≤ (0 : Int) ∧ (0 : Int) < ((8 : Nat) : Int)) <|
 .chk (inW (uAdd .u32 w9 w16)) <|
 .chk (0 < 8) <|
 .chk (0 ≤ (4 : Int) ∧ (4 : Int) < ((8 : Nat) : Int)) <|
 .chk (4 < 8) <|
 let w17 : Int := uAdd .u32 (((((shiftV v.1 1 7).setIfInBounds 0 (UInt32.ofNat (uAdd .u32 w9 w16).toNat)).toList.getD 4 0).toNat : Nat) : Int) w9
 .chk (0 ≤ (4 : Int) ∧ (4 : Int) < ((8 : Nat) : Int)) <|
 .chk (inW w17) <|
 .chk (4 < 8) <|
 .chk (in64 (v.2 + 1)) <|
 .ret (.inl (((shiftV v.1 1 7).setIfInBounds 0 (UInt32.ofNat (uAdd .u32 w9 w16).toNat)).setIfInBounds 4 (UInt32.ofNat w17.toNat), v.2 + 1))) <|
 .ret (.inr (v.1, v.2, decide (v.2 < ((64 : Int)))))
def sha_state_take_l3_n (N n : Nat) (f : sha_state_take_l3_F) (v : sha_state_take_l3_V) : Option sha_state_take_l3_Y := loopG (sha_state_take_l3_t N f.1 f.2.1 f.2.2) some n v
theorem sha_state_take_l3_q (N : Nat) (f : sha_state_take_l3_F) (n : Nat) (v : sha_state_take_l3_V) (y : sha_state_take_l3_Y) (h : sha_state_take_l3_n N n f v = some y) : LG Tryz.prog sha_state_take_H 72 (lookC Tryz_b72 3) (sha_state_take_l3_h f v) (sha_state_take_l3_o f y) :=
  loop_g Tryz_draw (E := sha_state_take_E N) (L := lenv (sha_state_take_l3_L N)) (st := sha_state_take_l3_o f) (g := some) (R := sha_state_take_l3_o f) (sha_state_take_Eok N) (lenv_ok (by kernel_rfl) trivial) (rg0 (by kernel_rfl)) (fun v => by kernel_rfl) (good_self (st := sha_state_take_l3_o f) fun y => by rfl) n v y h
def sha_state_take_l3 (N : Nat) (o_3 : Vector UInt32 8) (o_3_2 : Vector UInt32 64) (o_3_3 : Vector UInt32 64) (o_3_4 : Vector UInt32 8) (s19_3 : Int) : Option sha_state_take_l3_Y := sha_state_take_l3_n N N (o_3, o_3_2, o_3_3) (o_3_4, s19_3)
def sha_state_take_l3_s (N : Nat) : LEnt := smL sha_state_take_l3_p [(.wa 8), (.wa 64), (.wa 64), (.wa 8), (.i .i64)] sha_state_take_l3_Y (fun x => sha_state_take_l3 N x.1 x.2.1 x.2.2.1 x.2.2.2.1 x.2.2.2.2.1) cs1 fun x => sha_state_take_l3_o (x.1, x.2.1, x.2.2.1)
theorem sha_state_take_l3_ok (N : Nat) : LsOK Tryz.prog sha_state_take_H 72 (lookC Tryz_b72 3) (sha_state_take_l3_s N) := smL_ok fun x z h => sha_state_take_l3_q N (x.1, x.2.1, x.2.2.1) N (x.2.2.2.1, x.2.2.2.2.1) z h
abbrev sha_state_take_l13_F := Vector UInt32 64 × Vector UInt32 8
abbrev sha_state_take_l13_Y := Vector UInt32 8 × Int × Bool
def sha_state_take_l13_o (f : sha_state_take_l13_F) (y : sha_state_take_l13_Y) : Ex × TSt := (.exit 2, ⟨1, 110, [50, 60], [(0, .p 50 [] 0), (7, .p 100070 [] 0), (95, xi y.2.1), (96, xb y.2.2)], [(50, .cell false (.tv (.wa 8) (y.1 : Vector UInt32 8))), (60, .cell false (.tv (.wa 64) f.1)), (100070, .cell false (.tv (.wa 8) f.2))], false, []⟩)
def sha_state_take_l13_L (N : Nat) : List (Nat × LEnt) := []
abbrev sha_state_take_l13_V := Vector UInt32 8 × Int
def sha_state_take_l13_p : SP := ⟨1, 110, [50, 60], [(0, .k (.p 50 [] 0)), (7, .k (.p 100070 [] 0)), (95, .x (.i .i64))], [(50, .cell false (.x (.wa 8))), (60, .cell false (.x (.wa 64))), (100070, .cell false (.x (.wa 8)))], false, []⟩
def sha_state_take_l13_h (f : sha_state_take_l13_F) (v : sha_state_take_l13_V) : TSt := fillS sha_state_take_l13_p [dv (.wa 8) v.1, dv (.wa 64) f.1, dv (.wa 8) f.2, dv (.i .i64) v.2]
def sha_state_take_l13_t (N : Nat) (o_13_2 : Vector UInt32 64) (o_13_3 : Vector UInt32 8) (v : sha_state_take_l13_V) : Tree (sha_state_take_l13_V ⊕ sha_state_take_l13_Y) :=
 .cond (decide (v.2 < ((8 : Int)))) (
 .chk (0 ≤ v.2 ∧ v.2 < ((8 : Nat) : Int)) <|
 .chk (v.2.toNat < 8) <|
 .chk (0 ≤ v.2 ∧ v.2 < ((8 : Nat) : Int)) <|
 .chk (v.2.toNat < 8) <|
 let w1 : Int := uAdd .u32 (((v.1.toList.getD v.2.toNat 0).toNat : Nat) : Int) (((o_13_3.toList.getD v.2.toNat 0).toNat : Nat) : Int)
 .chk (0 ≤ v.2 ∧ v.2 < ((8 : Nat) : Int)) <|
 .chk (inW w1) <|
 .chk (v.2.toNat < 8) <|
 .chk (in64 (v.2 + 1)) <|
 .ret (.inl (v.1.setIfInBounds v.2.toNat (UInt32.ofNat w1.toNat), v.2 + 1))) <|
 .ret (.inr (v.1, v.2, decide (v.2 < ((8 : Int)))))
def sha_state_take_l13_n (N n : Nat) (f : sha_state_take_l13_F) (v : sha_state_take_l13_V) : Option sha_state_take_l13_Y := loopG (sha_state_take_l13_t N f.1 f.2) some n v
theorem sha_state_take_l13_q (N : Nat) (f : sha_state_take_l13_F) (n : Nat) (v : sha_state_take_l13_V) (y : sha_state_take_l13_Y) (h : sha_state_take_l13_n N n f v = some y) : LG Tryz.prog sha_state_take_H 72 (lookC Tryz_b72 13) (sha_state_take_l13_h f v) (sha_state_take_l13_o f y) :=
  loop_g Tryz_draw (E := sha_state_take_E N) (L := lenv (sha_state_take_l13_L N)) (st := sha_state_take_l13_o f) (g := some) (R := sha_state_take_l13_o f) (sha_state_take_Eok N) (lenv_ok (by kernel_rfl) trivial) (rg0 (by kernel_rfl)) (fun v => by kernel_rfl) (good_self (st := sha_state_take_l13_o f) fun y => by rfl) n v y h
def sha_state_take_l13 (N : Nat) (o_13_2 : Vector UInt32 64) (o_13_3 : Vector UInt32 8) (o_13 : Vector UInt32 8) (s95_13 : Int) : Option sha_state_take_l13_Y := sha_state_take_l13_n N N (o_13_2, o_13_3) (o_13, s95_13)
def sha_state_take_l13_s (N : Nat) : LEnt := smL sha_state_take_l13_p [(.wa 8), (.wa 64), (.wa 8), (.i .i64)] sha_state_take_l13_Y (fun x => sha_state_take_l13 N x.2.1 x.2.2.1 x.1 x.2.2.2.1) cs1 fun x => sha_state_take_l13_o (x.2.1, x.2.2.1)
theorem sha_state_take_l13_ok (N : Nat) : LsOK Tryz.prog sha_state_take_H 72 (lookC Tryz_b72 13) (sha_state_take_l13_s N) := smL_ok fun x z h => sha_state_take_l13_q N (x.2.1, x.2.2.1) N (x.1, x.2.2.2.1) z h
def sha_state_take_o (a1 : Vector UInt32 64) (z : Vector UInt32 8) : TV × THp := (.tup [], [(50, .cell false (.tv (.wa 8) z)), (60, .cell false (.tv (.wa 64) a1))])
def sha_state_take_t (N : Nat) (a0 : Vector UInt32 8) (a1 : Vector UInt32 64) (a2 : List UInt8) : Tree (Vector UInt32 8) :=
 .bind (sha_schedule N a2) fun r1 =>
 .bind (sha_state_take_l3 N a0 a1 r1 a0 0) fun z2 =>
 .bind (sha_state_take_l13 N a1 z2.1 a0 0) fun z3 =>
 .ret z3.1
def sha_state_take (N : Nat) (a0 : Vector UInt32 8) (a1 : Vector UInt32 64) (a2 : List UInt8) : Option (Vector UInt32 8) := (sha_state_take_t N a0 a1 a2).run some
def sha_state_take_L (N : Nat) : List (Nat × LEnt) := [(3, sha_state_take_l3_s N), (13, sha_state_take_l13_s N)]
def sha_state_take_s (N : Nat) : Ent := smF ⟨72, [], [.k (.p 50 [] 0), .x .bl, .k (.p 60 [] 0)], [], [(50, .cell false (.x (.wa 8))), (60, .cell false (.x (.wa 64)))]⟩ [(.wa 8), (.wa 64), .bl] (Vector UInt32 8) (fun x => sha_state_take N x.1 x.2.1 x.2.2.1) cs1 fun x => sha_state_take_o x.2.1
theorem sha_state_take_ok (N : Nat) : SmOK Tryz.prog (sha_state_take_s N) :=
  fn_ok (H := sha_state_take_H) (L := lenv (sha_state_take_L N)) (ts := [(.wa 8), (.wa 64), .bl]) (T := fun x => sha_state_take_t N x.1 x.2.1 x.2.2.1) 0 Tryz_F72 (sha_state_take_Eok N) (lenv_ok (by kernel_rfl) ⟨sha_state_take_l3_ok N, sha_state_take_l13_ok N, trivial⟩) (rg0 (by kernel_rfl)) fun x => by kernel_rfl
noncomputable def Tryz_b35 : Code := Tryz.f35.body.getD .skip
theorem Tryz_F35 : FnF Tryz.prog 35 Tryz.f35 Tryz_b35 := ⟨Tryz_draw, by kernel_rfl, by kernel_rfl, by kernel_rfl⟩
def sha_Sum_H : TH := { live := [(0, [0, 2]), (1, [0, 2, 3]), (2, [0, 2, 3, 16]), (3, [0, 2, 3]), (4, [0, 2, 3, 20]), (5, [0, 2, 3, 20, 21]), (6, [0, 2, 3, 4, 20]), (7, [0, 2, 3, 20]), (8, [0, 2, 3, 20]), (9, [2, 3, 5, 6]), (10, [2, 3, 5, 6, 40]), (11, [2, 3, 5, 6]), (12, [2, 3, 5, 6]), (13, [2, 5, 7]), (14, [2, 5, 7, 46]), (15, [2, 5, 7, 46, 47]), (16, [2, 5, 7, 8, 46]), (17, [2, 5, 7, 46]), (18, [2, 5, 7, 46]), (19, [2])], fresh := [10] }
def sha_Sum_E (N : Nat) : List Ent := [bytes_CloneW_s, sha_begun_s, sha_roots_s, sha_state_take_s N]
theorem sha_Sum_Eok (N : Nat) : SmAll Tryz.prog (sha_Sum_E N) := ⟨bytes_CloneW_ok, sha_begun_ok, sha_roots_ok, sha_state_take_ok N, trivial⟩
abbrev sha_Sum_l2_F := Vector UInt8 32 × List UInt8
abbrev sha_Sum_l2_Y := List UInt8 × Bool
def sha_Sum_l2_o (f : sha_Sum_l2_F) (y : sha_Sum_l2_Y) : Ex × TSt := (.exit 0, ⟨0, 63, [], [(0, .tv .bl f.2), (2, .p 20 [] 0), (3, .v 100050 y.1.length), (16, xb y.2)], [(20, .cell false (.tv (.ba 32) f.1)), (100050, .vec false 1 .bl (y.1 : List UInt8))], false, []⟩)
def sha_Sum_l2_L (N : Nat) : List (Nat × LEnt) := []
abbrev sha_Sum_l2_V := List UInt8
def sha_Sum_l2_p : SP := ⟨0, 63, [], [(0, .x .bl), (2, .k (.p 20 [] 0)), (3, .vs 100050)], [(20, .cell false (.x (.ba 32))), (100050, .vec false 1)], false, []⟩
def sha_Sum_l2_h (f : sha_Sum_l2_F) (v : sha_Sum_l2_V) : TSt := fillS sha_Sum_l2_p [dv .bl v, dv (.ba 32) f.1, dv .bl f.2]
def sha_Sum_l2_t (N : Nat) (o_2_2 : Vector UInt8 32) (s0_2 : List UInt8) (v : sha_Sum_l2_V) : Tree (sha_Sum_l2_V ⊕ sha_Sum_l2_Y) :=
 .chk ((64 : Int) ≠ 0) <|
 .cond (!decide ((((v.length : Nat) : Int).tmod 64) = 56)) (
 .chk (avOK v.length v.length ((v ++ [(UInt8.ofNat 0)]).length) 1) <|
 .ret (.inl (v ++ [(UInt8.ofNat 0)]))) <|
 .ret (.inr (v, !decide ((((v.length : Nat) : Int).tmod 64) = 56)))
def sha_Sum_l2_n (N n : Nat) (f : sha_Sum_l2_F) (v : sha_Sum_l2_V) : Option sha_Sum_l2_Y := loopG (sha_Sum_l2_t N f.1 f.2) some n v
theorem sha_Sum_l2_q (N : Nat) (f : sha_Sum_l2_F) (n : Nat) (v : sha_Sum_l2_V) (y : sha_Sum_l2_Y) (h : sha_Sum_l2_n N n f v = some y) : LG Tryz.prog sha_Sum_H 35 (lookC Tryz_b35 2) (sha_Sum_l2_h f v) (sha_Sum_l2_o f y) :=
  loop_g Tryz_draw (E := sha_Sum_E N) (L := lenv (sha_Sum_l2_L N)) (st := sha_Sum_l2_o f) (g := some) (R := sha_Sum_l2_o f) (sha_Sum_Eok N) (lenv_ok (by kernel_rfl) trivial) (rg0 (by kernel_rfl)) (fun v => by kernel_rfl) (good_self (st := sha_Sum_l2_o f) fun y => by rfl) n v y h
def sha_Sum_l2 (N : Nat) (o_2_2 : Vector UInt8 32) (s0_2 : List UInt8) (o_2 : List UInt8) : Option sha_Sum_l2_Y := sha_Sum_l2_n N N (o_2_2, s0_2) o_2
def sha_Sum_l2_s (N : Nat) : LEnt := smL sha_Sum_l2_p [.bl, (.ba 32), .bl] sha_Sum_l2_Y (fun x => sha_Sum_l2 N x.2.1 x.2.2.1 x.1) cs1 fun x => sha_Sum_l2_o (x.2.1, x.2.2.1)
theorem sha_Sum_l2_ok (N : Nat) : LsOK Tryz.prog sha_Sum_H 35 (lookC Tryz_b35 2) (sha_Sum_l2_s N) := smL_ok fun x z h => sha_Sum_l2_q N (x.2.1, x.2.2.1) N x.1 z h
abbrev sha_Sum_l5_F := Vector UInt8 32 × List UInt8
abbrev sha_Sum_l5_Y := List UInt8 × Int × Bool
def sha_Sum_l5_o (f : sha_Sum_l5_F) (y : sha_Sum_l5_Y) : Ex × TSt := (.exit 2, ⟨0, 63, [], [(0, .tv .bl f.2), (2, .p 20 [] 0), (3, .v 100050 y.1.length), (20, xi y.2.1), (21, xb y.2.2)], [(20, .cell false (.tv (.ba 32) f.1)), (100050, .vec false 1 .bl (y.1 : List UInt8))], false, []⟩)
def sha_Sum_l5_L (N : Nat) : List (Nat × LEnt) := []
abbrev sha_Sum_l5_V := List UInt8 × Int
def sha_Sum_l5_p : SP := ⟨0, 63, [], [(0, .x .bl), (2, .k (.p 20 [] 0)), (3, .vs 100050), (20, .x (.i .i64))], [(20, .cell false (.x (.ba 32))), (100050, .vec false 1)], false, []⟩
def sha_Sum_l5_h (f : sha_Sum_l5_F) (v : sha_Sum_l5_V) : TSt := fillS sha_Sum_l5_p [dv .bl v.1, dv (.ba 32) f.1, dv .bl f.2, dv (.i .i64) v.2]
def sha_Sum_l5_t (N : Nat) (o_5_2 : Vector UInt8 32) (s0_5 : List UInt8) (v : sha_Sum_l5_V) : Tree (sha_Sum_l5_V ⊕ sha_Sum_l5_Y) :=
 .cond (decide (v.2 < ((8 : Int)))) (
 let w1 : Int := IntKind.u64.wrap ((s0_5.length : Nat) : Int)
 .chk (in64 (((7 : Int)) - v.2)) <|
 .chk (in64 (((8 : Int)) * (((7 : Int)) - v.2))) <|
 .chk (0 ≤ (((8 : Int)) * (((7 : Int)) - v.2))) <|
 let w2 : Int := uShr (uMul .u64 w1 8) (min (((8 : Int)) * (((7 : Int)) - v.2)).toNat 64)
 .chk (inB (IntKind.u8.wrap w2)) <|
 .chk (avOK v.1.length v.1.length ((v.1 ++ [UInt8.ofNat (IntKind.u8.wrap w2).toNat]).length) 1) <|
 .chk (in64 (v.2 + 1)) <|
 .ret (.inl (v.1 ++ [UInt8.ofNat (IntKind.u8.wrap w2).toNat], v.2 + 1))) <|
 .ret (.inr (v.1, v.2, decide (v.2 < ((8 : Int)))))
def sha_Sum_l5_n (N n : Nat) (f : sha_Sum_l5_F) (v : sha_Sum_l5_V) : Option sha_Sum_l5_Y := loopG (sha_Sum_l5_t N f.1 f.2) some n v
theorem sha_Sum_l5_q (N : Nat) (f : sha_Sum_l5_F) (n : Nat) (v : sha_Sum_l5_V) (y : sha_Sum_l5_Y) (h : sha_Sum_l5_n N n f v = some y) : LG Tryz.prog sha_Sum_H 35 (lookC Tryz_b35 5) (sha_Sum_l5_h f v) (sha_Sum_l5_o f y) :=
  loop_g Tryz_draw (E := sha_Sum_E N) (L := lenv (sha_Sum_l5_L N)) (st := sha_Sum_l5_o f) (g := some) (R := sha_Sum_l5_o f) (sha_Sum_Eok N) (lenv_ok (by kernel_rfl) trivial) (rg0 (by kernel_rfl)) (fun v => by kernel_rfl) (good_self (st := sha_Sum_l5_o f) fun y => by rfl) n v y h
def sha_Sum_l5 (N : Nat) (o_5_2 : Vector UInt8 32) (s0_5 : List UInt8) (o_5 : List UInt8) (s20_5 : Int) : Option sha_Sum_l5_Y := sha_Sum_l5_n N N (o_5_2, s0_5) (o_5, s20_5)
def sha_Sum_l5_s (N : Nat) : LEnt := smL sha_Sum_l5_p [.bl, (.ba 32), .bl, (.i .i64)] sha_Sum_l5_Y (fun x => sha_Sum_l5 N x.2.1 x.2.2.1 x.1 x.2.2.2.1) cs1 fun x => sha_Sum_l5_o (x.2.1, x.2.2.1)
theorem sha_Sum_l5_ok (N : Nat) : LsOK Tryz.prog sha_Sum_H 35 (lookC Tryz_b35 5) (sha_Sum_l5_s N) := smL_ok fun x z h => sha_Sum_l5_q N (x.2.1, x.2.2.1) N (x.1, x.2.2.2.1) z h
abbrev sha_Sum_l10_F := List UInt8 × Vector UInt8 32 × Vector UInt32 8 × Vector UInt32 64
abbrev sha_Sum_l10_Y := Unit ⊕ (Vector UInt32 8 × List UInt8 × Bool)
def sha_Sum_l10_o (f : sha_Sum_l10_F) : sha_Sum_l10_Y → Ex × TSt
 | .inl y => (.exit 4, ⟨0, 63, [], [(2, .p 20 [] 0), (3, .v 100050 f.1.length), (5, .p 50 [] 0), (6, .p 60 [] 0), (40, xb (decide (((0 : Int)) < ((f.1.length : Nat) : Int))))], [(20, .cell false (.tv (.ba 32) f.2.1)), (50, .cell false (.tv (.wa 8) f.2.2.1)), (60, .cell false (.tv (.wa 64) f.2.2.2)), (100050, .vec false 1 .bl f.1)], false, []⟩)
 | .inr y => (.exit 4, ⟨0, 63, [], [(2, .p 20 [] 0), (3, .tv .bl (y.2.1 : List UInt8)), (5, .p 50 [] 0), (6, .p 60 [] 0), (40, xb y.2.2)], [(20, .cell false (.tv (.ba 32) f.2.1)), (50, .cell false (.tv (.wa 8) (y.1 : Vector UInt32 8))), (60, .cell false (.tv (.wa 64) f.2.2.2))], false, []⟩)
def sha_Sum_l10_L (N : Nat) : List (Nat × LEnt) := []
abbrev sha_Sum_l10_s1_V := Vector UInt32 8 × List UInt8
def sha_Sum_l10_s1_p : SP := ⟨0, 63, [], [(2, .k (.p 20 [] 0)), (3, .x .bl), (5, .k (.p 50 [] 0)), (6, .k (.p 60 [] 0))], [(20, .cell false (.x (.ba 32))), (50, .cell false (.x (.wa 8))), (60, .cell false (.x (.wa 64)))], false, []⟩
def sha_Sum_l10_s1_h (f : sha_Sum_l10_F) (v : sha_Sum_l10_s1_V) : TSt := fillS sha_Sum_l10_s1_p [dv (.ba 32) f.2.1, dv (.wa 8) v.1, dv (.wa 64) f.2.2.2, dv .bl v.2]
def sha_Sum_l10_s1_t (N : Nat) (o_10 : List UInt8) (o_10_2 : Vector UInt8 32) (o_10_3 : Vector UInt32 8) (o_10_4 : Vector UInt32 64) (v : sha_Sum_l10_s1_V) : Tree (sha_Sum_l10_s1_V ⊕ sha_Sum_l10_Y) :=
 .cond (decide (((0 : Int)) < ((v.2.length : Nat) : Int))) (
 .chk (0 ≤ (0 : Int) ∧ (0 : Int) ≤ (64 : Int) ∧ (64 : Int) ≤ ((v.2.length : Nat) : Int)) <|
 .bind (sha_state_take N v.1 o_10_4 ((v.2.take 64).drop 0)) fun r1 =>
 .chk (0 ≤ (64 : Int) ∧ (64 : Int) ≤ ((v.2.length : Nat) : Int)) <|
 .ret (.inl (r1, v.2.drop 64))) <|
 .ret (.inr (.inr ((v.1, v.2, decide (((0 : Int)) < ((v.2.length : Nat) : Int))))))
def sha_Sum_l10_s1_n (N n : Nat) (f : sha_Sum_l10_F) (v : sha_Sum_l10_s1_V) : Option sha_Sum_l10_Y := loopG (sha_Sum_l10_s1_t N f.1 f.2.1 f.2.2.1 f.2.2.2) some n v
theorem sha_Sum_l10_s1_q (N : Nat) (f : sha_Sum_l10_F) (n : Nat) (v : sha_Sum_l10_s1_V) (y : sha_Sum_l10_Y) (h : sha_Sum_l10_s1_n N n f v = some y) : LG Tryz.prog sha_Sum_H 35 (lookC Tryz_b35 10) (sha_Sum_l10_s1_h f v) (sha_Sum_l10_o f y) :=
  loop_g Tryz_draw (E := sha_Sum_E N) (L := lenv (sha_Sum_l10_L N)) (st := sha_Sum_l10_o f) (g := some) (R := sha_Sum_l10_o f) (sha_Sum_Eok N) (lenv_ok (by kernel_rfl) trivial) (rg0 (by kernel_rfl)) (fun v => by kernel_rfl) (good_self (st := sha_Sum_l10_o f) fun y => by rcases y with _ | _ <;> rfl) n v y h
abbrev sha_Sum_l10_V := Unit
def sha_Sum_l10_p : SP := ⟨0, 63, [], [(2, .k (.p 20 [] 0)), (3, .vs 100050), (5, .k (.p 50 [] 0)), (6, .k (.p 60 [] 0))], [(20, .cell false (.x (.ba 32))), (50, .cell false (.x (.wa 8))), (60, .cell false (.x (.wa 64))), (100050, .vec false 1)], false, []⟩
def sha_Sum_l10_h (f : sha_Sum_l10_F) (v : sha_Sum_l10_V) : TSt := fillS sha_Sum_l10_p [dv .bl f.1, dv (.ba 32) f.2.1, dv (.wa 8) f.2.2.1, dv (.wa 64) f.2.2.2]
abbrev sha_Sum_l10_W := sha_Sum_l10_s1_V ⊕ sha_Sum_l10_Y
def sha_Sum_l10_t (N : Nat) (o_10 : List UInt8) (o_10_2 : Vector UInt8 32) (o_10_3 : Vector UInt32 8) (o_10_4 : Vector UInt32 64) (v : sha_Sum_l10_V) : Tree (sha_Sum_l10_V ⊕ sha_Sum_l10_W) :=
 .cond (decide (((0 : Int)) < ((o_10.length : Nat) : Int))) (
 .chk (0 ≤ (0 : Int) ∧ (0 : Int) ≤ (64 : Int) ∧ (64 : Int) ≤ ((o_10.length : Nat) : Int)) <|
 .chk (o_10.length = o_10.length) <|
 .bind (sha_state_take N o_10_3 o_10_4 ((o_10.take 64).drop 0)) fun r1 =>
 .chk (0 ≤ (64 : Int) ∧ (64 : Int) ≤ ((o_10.length : Nat) : Int)) <|
 .chk (o_10.length = o_10.length) <|
 .ret (.inr (.inl (r1, o_10.drop 64)))) <|
 .ret (.inr (.inr ((.inl ()))))
def sha_Sum_l10_g (N n : Nat) (f : sha_Sum_l10_F) : sha_Sum_l10_W → Option sha_Sum_l10_Y
 | .inl w => sha_Sum_l10_s1_n N n f w
 | .inr w => some w
def sha_Sum_l10_w (f : sha_Sum_l10_F) : sha_Sum_l10_W → Ex × TSt
 | .inl w => (.normal, sha_Sum_l10_s1_h f w)
 | .inr w => sha_Sum_l10_o f w
def sha_Sum_l10_n (N n : Nat) (f : sha_Sum_l10_F) (v : sha_Sum_l10_V) : Option sha_Sum_l10_Y := loopG (sha_Sum_l10_t N f.1 f.2.1 f.2.2.1 f.2.2.2) (sha_Sum_l10_g N n f) n v
theorem sha_Sum_l10_q (N : Nat) (f : sha_Sum_l10_F) (n : Nat) (v : sha_Sum_l10_V) (y : sha_Sum_l10_Y) (h : sha_Sum_l10_n N n f v = some y) : LG Tryz.prog sha_Sum_H 35 (lookC Tryz_b35 10) (sha_Sum_l10_h f v) (sha_Sum_l10_o f y) :=
  loop_g Tryz_draw (E := sha_Sum_E N) (L := lenv (sha_Sum_l10_L N)) (st := sha_Sum_l10_w f) (g := (sha_Sum_l10_g N n f)) (R := sha_Sum_l10_o f) (sha_Sum_Eok N) (lenv_ok (by kernel_rfl) trivial) (rg0 (by kernel_rfl)) (fun v => by kernel_rfl) (fun w y h => by
  rcases w with w | w
  · exact sha_Sum_l10_s1_q N f n w y h
  · exact good_self (st := sha_Sum_l10_o f) (fun y => by rcases y with _ | _ <;> rfl) w y h
) n v y h
def sha_Sum_l10 (N : Nat) (o_10 : List UInt8) (o_10_2 : Vector UInt8 32) (o_10_3 : Vector UInt32 8) (o_10_4 : Vector UInt32 64) : Option sha_Sum_l10_Y := sha_Sum_l10_n N N (o_10, o_10_2, o_10_3, o_10_4) ()
def sha_Sum_l10_s (N : Nat) : LEnt := smL sha_Sum_l10_p [.bl, (.ba 32), (.wa 8), (.wa 64)] sha_Sum_l10_Y (fun x => sha_Sum_l10 N x.1 x.2.1 x.2.2.1 x.2.2.2.1) (csS cs1) fun x => sha_Sum_l10_o (x.1, x.2.1, x.2.2.1, x.2.2.2.1)
theorem sha_Sum_l10_ok (N : Nat) : LsOK Tryz.prog sha_Sum_H 35 (lookC Tryz_b35 10) (sha_Sum_l10_s N) := smL_ok fun x z h => sha_Sum_l10_q N (x.1, x.2.1, x.2.2.1, x.2.2.2.1) N () z h
abbrev sha_Sum_l15_F := Vector UInt8 32 × Vector UInt32 8
abbrev sha_Sum_l15_Y := Vector UInt8 32 × Int × Bool
def sha_Sum_l15_o (f : sha_Sum_l15_F) (y : sha_Sum_l15_Y) : Ex × TSt := (.exit 6, ⟨0, 63, [], [(2, .p 20 [] 0), (5, .p 50 [] 0), (7, .p 70 [] 0), (46, xi y.2.1), (47, xb y.2.2)], [(20, .cell false (.tv (.ba 32) f.1)), (50, .cell false (.tv (.wa 8) f.2)), (70, .cell false (.tv (.ba 32) (y.1 : Vector UInt8 32)))], false, []⟩)
def sha_Sum_l15_L (N : Nat) : List (Nat × LEnt) := []
abbrev sha_Sum_l15_V := Vector UInt8 32 × Int
def sha_Sum_l15_p : SP := ⟨0, 63, [], [(2, .k (.p 20 [] 0)), (5, .k (.p 50 [] 0)), (7, .k (.p 70 [] 0)), (46, .x (.i .i64))], [(20, .cell false (.x (.ba 32))), (50, .cell false (.x (.wa 8))), (70, .cell false (.x (.ba 32)))], false, []⟩
def sha_Sum_l15_h (f : sha_Sum_l15_F) (v : sha_Sum_l15_V) : TSt := fillS sha_Sum_l15_p [dv (.ba 32) f.1, dv (.wa 8) f.2, dv (.ba 32) v.1, dv (.i .i64) v.2]
def sha_Sum_l15_t (N : Nat) (o_15 : Vector UInt8 32) (o_15_2 : Vector UInt32 8) (v : sha_Sum_l15_V) : Tree (sha_Sum_l15_V ⊕ sha_Sum_l15_Y) :=
 .cond (decide (v.2 < ((32 : Int)))) (
 .chk ((4 : Int) ≠ 0) <|
 .chk (in64 (v.2.tdiv 4)) <|
 .chk (0 ≤ (v.2.tdiv 4) ∧ (v.2.tdiv 4) < ((8 : Nat) : Int)) <|
 .chk ((v.2.tdiv 4).toNat < 8) <|
 .chk ((4 : Int) ≠ 0) <|
 .chk (in64 (((8 : Int)) * (v.2.tmod 4))) <|
 .chk (in64 (((24 : Int)) - (((8 : Int)) * (v.2.tmod 4)))) <|
 .chk (0 ≤ (((24 : Int)) - (((8 : Int)) * (v.2.tmod 4)))) <|
 let w1 : Int := uShr (((o_15_2.toList.getD ((v.2.tdiv 4).toNat) 0).toNat : Nat) : Int) (min (((24 : Int)) - (((8 : Int)) * (v.2.tmod 4))).toNat 32)
 .chk (0 ≤ v.2 ∧ v.2 < ((32 : Nat) : Int)) <|
 .chk (inB (IntKind.u8.wrap w1)) <|
 .chk (v.2.toNat < 32) <|
 .chk (in64 (v.2 + 1)) <|
 .ret (.inl (v.1.setIfInBounds v.2.toNat (UInt8.ofNat (IntKind.u8.wrap w1).toNat), v.2 + 1))) <|
 .ret (.inr (v.1, v.2, decide (v.2 < ((32 : Int)))))
def sha_Sum_l15_n (N n : Nat) (f : sha_Sum_l15_F) (v : sha_Sum_l15_V) : Option sha_Sum_l15_Y := loopG (sha_Sum_l15_t N f.1 f.2) some n v
theorem sha_Sum_l15_q (N : Nat) (f : sha_Sum_l15_F) (n : Nat) (v : sha_Sum_l15_V) (y : sha_Sum_l15_Y) (h : sha_Sum_l15_n N n f v = some y) : LG Tryz.prog sha_Sum_H 35 (lookC Tryz_b35 15) (sha_Sum_l15_h f v) (sha_Sum_l15_o f y) :=
  loop_g Tryz_draw (E := sha_Sum_E N) (L := lenv (sha_Sum_l15_L N)) (st := sha_Sum_l15_o f) (g := some) (R := sha_Sum_l15_o f) (sha_Sum_Eok N) (lenv_ok (by kernel_rfl) trivial) (rg0 (by kernel_rfl)) (fun v => by kernel_rfl) (good_self (st := sha_Sum_l15_o f) fun y => by rfl) n v y h
def sha_Sum_l15 (N : Nat) (o_15 : Vector UInt8 32) (o_15_2 : Vector UInt32 8) (o_15_3 : Vector UInt8 32) (s46_15 : Int) : Option sha_Sum_l15_Y := sha_Sum_l15_n N N (o_15, o_15_2) (o_15_3, s46_15)
def sha_Sum_l15_s (N : Nat) : LEnt := smL sha_Sum_l15_p [(.ba 32), (.wa 8), (.ba 32), (.i .i64)] sha_Sum_l15_Y (fun x => sha_Sum_l15 N x.1 x.2.1 x.2.2.1 x.2.2.2.1) cs1 fun x => sha_Sum_l15_o (x.1, x.2.1)
theorem sha_Sum_l15_ok (N : Nat) : LsOK Tryz.prog sha_Sum_H 35 (lookC Tryz_b35 15) (sha_Sum_l15_s N) := smL_ok fun x z h => sha_Sum_l15_q N (x.1, x.2.1) N (x.2.2.1, x.2.2.2.1) z h
def sha_Sum_o (z : Vector UInt8 32) : TV × THp := (.tv (.ba 32) z, [])
def sha_Sum_t (N : Nat) (a0 : List UInt8) : Tree (Vector UInt8 32) :=
 .bind (bytes_CloneW a0) fun r1 =>
 .chk (avOK (((([] : List UInt8)) ++ a0).length) (((([] : List UInt8)) ++ a0).length) ((((([] : List UInt8)) ++ a0) ++ [(UInt8.ofNat 128)]).length) 1) <|
 .bind (chkLs [((((([] : List UInt8)) ++ a0) ++ [(UInt8.ofNat 128)]).length, (((([] : List UInt8)) ++ a0) ++ [(UInt8.ofNat 128)]).length)] (sha_Sum_l2 N ((Vector.replicate 32 0)) a0 (((([] : List UInt8)) ++ a0) ++ [(UInt8.ofNat 128)]))) fun z2 =>
 .bind (chkLs [(z2.1.length, z2.1.length)] (sha_Sum_l5 N ((Vector.replicate 32 0)) a0 z2.1 0)) fun z3 =>
 .bind (sha_begun) fun r4 =>
 .bind (sha_roots) fun r5 =>
 .bind (chkLs [(z3.1.length, z3.1.length)] (sha_Sum_l10 N z3.1 ((Vector.replicate 32 0)) ((((((((((Vector.replicate 8 0)).setIfInBounds 0 ((UInt32.ofNat 1779033703))).setIfInBounds 1 ((UInt32.ofNat 3144134277))).setIfInBounds 2 ((UInt32.ofNat 1013904242))).setIfInBounds 3 ((UInt32.ofNat 2773480762))).setIfInBounds 4 ((UInt32.ofNat 1359893119))).setIfInBounds 5 ((UInt32.ofNat 2600822924))).setIfInBounds 6 ((UInt32.ofNat 528734635))).setIfInBounds 7 ((UInt32.ofNat 1541459225))) ((((((((((((((((((((((((((((((((((((((((((((((((((((((((((((((((((Vector.replicate 64 0)).setIfInBounds 0 ((UInt32.ofNat 1116352408))).setIfInBounds 1 ((UInt32.ofNat 1899447441))).setIfInBounds 2 ((UInt32.ofNat 3049323471))).setIfInBounds 3 ((UInt32.ofNat 3921009573))).setIfInBounds 4 ((UInt32.ofNat 961987163))).setIfInBounds 5 ((UInt32.ofNat 1508970993))).setIfInBounds 6 ((UInt32.ofNat 2453635748))).setIfInBounds 7 ((UInt32.ofNat 2870763221))).setIfInBounds 8 ((UInt32.ofNat 3624381080))).setIfInBounds 9 ((UInt32.ofNat 310598401))).setIfInBounds 10 ((UInt32.ofNat 607225278))).setIfInBounds 11 ((UInt32.ofNat 1426881987))).setIfInBounds 12 ((UInt32.ofNat 1925078388))).setIfInBounds 13 ((UInt32.ofNat 2162078206))).setIfInBounds 14 ((UInt32.ofNat 2614888103))).setIfInBounds 15 ((UInt32.ofNat 3248222580))).setIfInBounds 16 ((UInt32.ofNat 3835390401))).setIfInBounds 17 ((UInt32.ofNat 4022224774))).setIfInBounds 18 ((UInt32.ofNat 264347078))).setIfInBounds 19 ((UInt32.ofNat 604807628))).setIfInBounds 20 ((UInt32.ofNat 770255983))).setIfInBounds 21 ((UInt32.ofNat 1249150122))).setIfInBounds 22 ((UInt32.ofNat 1555081692))).setIfInBounds 23 ((UInt32.ofNat 1996064986))).setIfInBounds 24 ((UInt32.ofNat 2554220882))).setIfInBounds 25 ((UInt32.ofNat 2821834349))).setIfInBounds 26 ((UInt32.ofNat 2952996808))).setIfInBounds 27 ((UInt32.ofNat 3210313671))).setIfInBounds 28 ((UInt32.ofNat 3336571891))).setIfInBounds 29 ((UInt32.ofNat 3584528711))).setIfInBounds 30 ((UInt32.ofNat 113926993))).setIfInBounds 31 ((UInt32.ofNat 338241895))).setIfInBounds 32 ((UInt32.ofNat 666307205))).setIfInBounds 33 ((UInt32.ofNat 773529912))).setIfInBounds 34 ((UInt32.ofNat 1294757372))).setIfInBounds 35 ((UInt32.ofNat 1396182291))).setIfInBounds 36 ((UInt32.ofNat 1695183700))).setIfInBounds 37 ((UInt32.ofNat 1986661051))).setIfInBounds 38 ((UInt32.ofNat 2177026350))).setIfInBounds 39 ((UInt32.ofNat 2456956037))).setIfInBounds 40 ((UInt32.ofNat 2730485921))).setIfInBounds 41 ((UInt32.ofNat 2820302411))).setIfInBounds 42 ((UInt32.ofNat 3259730800))).setIfInBounds 43 ((UInt32.ofNat 3345764771))).setIfInBounds 44 ((UInt32.ofNat 3516065817))).setIfInBounds 45 ((UInt32.ofNat 3600352804))).setIfInBounds 46 ((UInt32.ofNat 4094571909))).setIfInBounds 47 ((UInt32.ofNat 275423344))).setIfInBounds 48 ((UInt32.ofNat 430227734))).setIfInBounds 49 ((UInt32.ofNat 506948616))).setIfInBounds 50 ((UInt32.ofNat 659060556))).setIfInBounds 51 ((UInt32.ofNat 883997877))).setIfInBounds 52 ((UInt32.ofNat 958139571))).setIfInBounds 53 ((UInt32.ofNat 1322822218))).setIfInBounds 54 ((UInt32.ofNat 1537002063))).setIfInBounds 55 ((UInt32.ofNat 1747873779))).setIfInBounds 56 ((UInt32.ofNat 1955562222))).setIfInBounds 57 ((UInt32.ofNat 2024104815))).setIfInBounds 58 ((UInt32.ofNat 2227730452))).setIfInBounds 59 ((UInt32.ofNat 2361852424))).setIfInBounds 60 ((UInt32.ofNat 2428436474))).setIfInBounds 61 ((UInt32.ofNat 2756734187))).setIfInBounds 62 ((UInt32.ofNat 3204031479))).setIfInBounds 63 ((UInt32.ofNat 3329325298))))) fun z6 =>
 .sum z6 (fun z7 =>
 .bind (sha_Sum_l15 N ((Vector.replicate 32 0)) ((((((((((Vector.replicate 8 0)).setIfInBounds 0 ((UInt32.ofNat 1779033703))).setIfInBounds 1 ((UInt32.ofNat 3144134277))).setIfInBounds 2 ((UInt32.ofNat 1013904242))).setIfInBounds 3 ((UInt32.ofNat 2773480762))).setIfInBounds 4 ((UInt32.ofNat 1359893119))).setIfInBounds 5 ((UInt32.ofNat 2600822924))).setIfInBounds 6 ((UInt32.ofNat 528734635))).setIfInBounds 7 ((UInt32.ofNat 1541459225))) ((Vector.replicate 32 0)) 0) fun z8 =>
 .ret z8.1) fun z7 =>
 .bind (sha_Sum_l15 N ((Vector.replicate 32 0)) z7.1 ((Vector.replicate 32 0)) 0) fun z8 =>
 .ret z8.1
def sha_Sum (N : Nat) (a0 : List UInt8) : Option (Vector UInt8 32) := (sha_Sum_t N a0).run some
def sha_Sum_L (N : Nat) : List (Nat × LEnt) := [(2, sha_Sum_l2_s N), (5, sha_Sum_l5_s N), (10, sha_Sum_l10_s N), (15, sha_Sum_l15_s N)]
def sha_Sum_s (N : Nat) : Ent := smF ⟨35, [], [.x .bl], [], []⟩ [.bl] (Vector UInt8 32) (fun x => sha_Sum N x.1) cs1 fun _ => sha_Sum_o
theorem sha_Sum_val (N : Nat) : FnVal Tryz.prog ⟨35, [], [.x .bl], [], []⟩ [.bl] (fun x => sha_Sum_t N x.1) (fun _ => sha_Sum_o) :=
  fn_val (H := sha_Sum_H) (L := lenv (sha_Sum_L N)) 0 Tryz_F35 (sha_Sum_Eok N) (lenv_ok (by kernel_rfl) ⟨sha_Sum_l2_ok N, sha_Sum_l5_ok N, sha_Sum_l10_ok N, sha_Sum_l15_ok N, trivial⟩) (rg0 (by kernel_rfl)) fun x => by kernel_rfl
theorem sha_Sum_ok (N : Nat) : SmOK Tryz.prog (sha_Sum_s N) := smF_ok (sha_Sum_val N)
end Go.Rx
end
set_option maxRecDepth 100000
noncomputable section
namespace Go.Rx
open Go.Proofs
def dg0 : Vector UInt8 32 := #v[110, 52, 11, 156, 255, 179, 122, 152, 156, 165, 68, 230, 187, 120, 10, 44, 120, 144, 29, 63, 179, 55, 56, 118, 133, 17, 163, 6, 23, 175, 160, 29]
theorem sum_0 : sha_Sum 300 [0] = some dg0 := by kernel_rfl
def dg1 : Vector UInt8 32 := #v[45, 113, 22, 66, 183, 38, 176, 68, 1, 98, 124, 169, 251, 172, 50, 245, 200, 83, 15, 177, 144, 60, 196, 219, 2, 37, 135, 23, 146, 26, 72, 129]
theorem sum_1 : sha_Sum 300 [120] = some dg1 := by kernel_rfl
def dg2 : Vector UInt8 32 := #v[217, 234, 19, 0, 182, 245, 117, 92, 168, 138, 178, 15, 28, 158, 218, 100, 105, 227, 235, 245, 218, 173, 131, 66, 21, 81, 99, 85, 79, 134, 92, 199]
theorem sum_2 : sha_Sum 300 [1, 7, 0, 0, 0, 0, 0, 0, 0, 0, 0, 0, 0, 0, 0, 0, 0, 0, 1, 2, 9, 1, 120] = some dg2 := by kernel_rfl
def shaT : List (List UInt8 × Vector UInt8 32) := [([0], dg0), ([120], dg1), ([1, 7, 0, 0, 0, 0, 0, 0, 0, 0, 0, 0, 0, 0, 0, 0, 0, 0, 1, 2, 9, 1, 120], dg2)]
theorem shaT_ok : TabOK (sha_Sum 300) shaT := ⟨sum_0, sum_1, sum_2, trivial⟩
def shaK_s : Ent := smF ⟨35, [], [.x .bl], [], []⟩ [.bl] (Vector UInt8 32) (fun x => tabS shaT x.1) cs1 fun _ => sha_Sum_o
theorem shaK_ok : SmOK Tryz.prog shaK_s := smF_le (sha_Sum_ok 300) fun x z h => tabS_ok shaT_ok x.1 z h
end Go.Rx
end
set_option maxRecDepth 100000
noncomputable section
namespace Go.Rx
open Go.Proofs
def Tryz_HL : List (Nat × TH) := [(9, { live := [(1, [1, 2]), (2, [1, 2, 3]), (3, [1, 2, 5, 6]), (4, [1, 2, 5, 6, 7, 8]), (5, [1, 2, 5, 6, 7, 8, 9, 10, 11]), (6, [0])], dec := [42, 48, 55, 58, 61, 66, 72, 75, 80, 84, 88], rd := [(1, [1]), (2, [3]), (3, [5]), (4, [7]), (5, [9])] }),
 (12, { live := [(0, [1, 2]), (1, [1, 2, 13]), (2, [2, 3]), (3, [1, 2, 4]), (4, [2, 4, 19, 20, 21]), (5, [2, 4, 19, 20, 21, 22]), (6, [2, 4, 6, 19, 20, 21]), (7, [2, 4, 6, 7, 19, 20, 21]), (8, [2, 4, 7, 19, 20, 21, 31, 32, 33]), (9, [2, 4, 7, 19, 20, 21, 31, 32, 33, 34]), (10, [2, 4, 7, 9, 19, 20, 21, 31, 32, 33]), (11, [2, 4, 7, 9, 10, 19, 20, 21, 31, 32, 33]), (12, [2, 4, 7, 19, 20, 21, 31, 32, 33]), (13, [2, 4, 7, 19, 20, 21, 31, 32, 33]), (14, [2, 4, 19, 20, 21]), (15, [2, 4, 19, 20, 21]), (16, [2, 3])], rd := [(6, [6]), (10, [9])] }),
 (16, { live := [(0, [1]), (1, [1, 6, 7, 8]), (2, [1, 6, 7, 8, 9]), (3, [1, 3, 4, 6, 7, 8]), (4, [1, 6, 7, 8, 32]), (5, [2]), (6, [1, 6, 7, 8]), (7, [2])], dec := [16, 19], rd := [(3, [4])] }),
 (17, { live := [(0, [2, 3]), (1, [2, 3, 5]), (2, [2, 3, 6]), (3, [4])], dec := [13] }),
 (18, { live := [(0, [2, 3, 4]), (1, [2, 4, 6]), (2, [2, 4, 6, 12]), (3, [4, 5]), (4, [4, 5])] }),
 (20, { live := [(0, [3, 4, 5, 6]), (1, [5, 6, 8]), (2, [6, 8, 10]), (3, [6, 8, 10, 22]), (4, [6, 7]), (5, [6, 7])], rd := [(1, [8])] }),
 (22, { live := [(0, [2, 3, 4, 6]), (1, [2, 3, 4, 6, 9]), (2, [2, 4, 6, 9, 18]), (3, [9, 10, 20]), (4, [9, 10, 11]), (5, [9, 10, 11, 13]), (6, [9, 10, 11, 28]), (8, [6, 14, 15]), (9, [6, 7, 8])], fresh := [18], rd := [(1, [9]), (3, [10]), (4, [11]), (5, [12]), (8, [14])] }),
 (27, { live := [(0, [1]), (1, [1, 6, 7, 8]), (2, [1, 6, 7, 8, 9]), (3, [1, 3, 4, 6, 7, 8]), (4, [1, 6, 7, 8, 32]), (5, [2]), (6, [1, 6, 7, 8]), (7, [2])], dec := [16, 19], rd := [(3, [4])] }),
 (30, { live := [(0, [1, 2]), (1, [2, 3]), (2, [2])] }),
 (32, { live := [(0, [0]), (1, [0, 6]), (2, [2]), (3, [0, 3]), (4, [0, 3, 9]), (5, [0, 3]), (6, [0, 3]), (7, [2])] }),
 (33, { live := [(0, [0, 2]), (1, [2])] }),
 (34, { live := [(0, [3, 5, 6, 7, 9, 10]), (1, [3, 5, 6, 7, 9, 10, 27]), (2, [10, 11]), (3, [10, 11])], dec := [15, 19, 23] }),
 (35, { live := [(0, [0, 2]), (1, [0, 2, 3]), (2, [0, 2, 3, 16]), (3, [0, 2, 3]), (4, [0, 2, 3, 20]), (5, [0, 2, 3, 20, 21]), (6, [0, 2, 3, 4, 20]), (7, [0, 2, 3, 20]), (8, [0, 2, 3, 20]), (9, [2, 3, 5, 6]), (10, [2, 3, 5, 6, 40]), (11, [2, 3, 5, 6]), (12, [2, 3, 5, 6]), (13, [2, 5, 7]), (14, [2, 5, 7, 46]), (15, [2, 5, 7, 46, 47]), (16, [2, 5, 7, 8, 46]), (17, [2, 5, 7, 46]), (18, [2, 5, 7, 46]), (19, [2])], fresh := [10] }),
 (44, { live := [(0, [1]), (1, [1, 6, 7, 8]), (2, [1, 6, 7, 8, 9]), (3, [1, 3, 4, 6, 7, 8]), (4, [1, 6, 7, 8, 33]), (5, [2]), (6, [1, 6, 7, 8]), (7, [2])], dec := [18, 21, 38, 43], rd := [(3, [4])] }),
 (45, { live := [(0, [2, 3]), (1, [4])], dec := [8] }),
 (46, { live := [(0, [2, 3]), (1, [4])], dec := [10, 17, 24, 31] }),
 (47, { live := [(0, [0, 1]), (1, [0, 1, 10]), (2, [4]), (3, [0, 1, 12, 13]), (4, [0, 1, 12, 13, 14]), (5, [0, 1, 5, 12, 13]), (6, [0, 1, 12, 13, 24]), (7, [4]), (8, [0, 1, 12, 13]), (9, [4])] }),
 (48, { live := [(0, [2, 3, 4]), (1, [5])], dec := [11, 18] }),
 (49, { live := [(0, [0, 1, 2]), (1, [0, 1, 2, 14]), (2, [6]), (3, [1, 2, 15, 16, 17]), (4, [1, 2, 15, 16, 17, 18]), (5, [1, 2, 7, 8, 15, 16, 17]), (6, [1, 2, 8, 9, 15, 16, 17]), (7, [1, 2, 15, 16, 17, 30]), (8, [6]), (9, [1, 2, 15, 16, 17]), (10, [6])], rd := [(5, [8]), (6, [9])] }),
 (50, { live := [(0, [0, 1, 2]), (1, [0, 1, 2, 14]), (2, [6]), (3, [1, 2, 15, 16, 17]), (4, [1, 2, 15, 16, 17, 18]), (5, [1, 2, 7, 8, 15, 16, 17]), (6, [1, 2, 8, 9, 15, 16, 17]), (7, [1, 2, 15, 16, 17, 30]), (8, [6]), (9, [1, 2, 15, 16, 17]), (10, [6])], rd := [(5, [8]), (6, [9])] }),
 (51, { live := [(0, [0, 1]), (1, [0, 1, 7, 8]), (2, [0, 1, 7, 8, 9]), (3, [0, 1, 5, 7, 8]), (4, [0, 1, 5, 7, 8, 16]), (5, [4]), (6, [0, 1, 7, 8]), (7, [4])] }),
 (52, { live := [(0, [1, 2]), (1, [3])] }),
 (53, { live := [(0, [1, 2]), (1, [1, 2]), (2, [1, 2, 10, 11]), (3, [1, 2, 10, 11, 12]), (4, [1, 2, 3, 10, 11]), (5, [1, 2, 10, 11]), (6, [1, 2, 10, 11]), (7, [2])], fresh := [6] }),
 (54, { live := [(0, [0, 1]), (1, [0, 1, 7, 8]), (2, [0, 1, 7, 8, 9]), (3, [0, 1, 5, 7, 8]), (4, [0, 1, 5, 7, 8, 16]), (5, [4]), (6, [0, 1, 7, 8]), (7, [4])] }),
 (55, { live := [(0, [1, 2]), (1, [3])] }),
 (56, { live := [(0, [1]), (1, [2])], esc := true }),
 (59, { live := [(0, [1]), (1, [1, 21]), (2, [2]), (3, [1, 23, 24, 25]), (4, [1, 23, 24, 25, 26]), (5, [1, 3, 4, 23, 24, 25]), (6, [1, 4, 5, 23, 24, 25]), (7, [1, 23, 24, 25, 74]), (8, [2]), (9, [1, 23, 24, 25]), (10, [2])], dec := [10, 15, 32, 37, 40, 55, 60, 66], rd := [(5, [4])] }),
 (62, { live := [(0, [1, 2]), (1, [1, 2]), (2, [2])] }),
 (65, { live := [(0, [1]), (1, [1, 15]), (2, [2, 3]), (3, [1, 4]), (4, [4, 22, 23, 24]), (5, [4, 22, 23, 24, 25]), (6, [4, 6, 22, 23, 24]), (7, [4, 6, 7, 22, 23, 24]), (8, [4, 6, 22, 23, 24]), (9, [4, 22, 23, 24, 47, 48, 49]), (10, [4, 22, 23, 24, 47, 48, 49, 50]), (11, [4, 10, 22, 23, 24, 47, 48, 49]), (12, [4, 10, 11, 22, 23, 24, 47, 48, 49]), (13, [4, 22, 23, 24, 47, 48, 49]), (14, [4, 22, 23, 24, 47, 48, 49]), (15, [4, 22, 23, 24]), (16, [2, 3])], fresh := [20], esc := true, rd := [(6, [6]), (11, [10])] }),
 (66, { live := [(0, [0, 2]), (1, [2])] }),
 (67, { live := [(0, [1, 2, 3, 6]), (1, [2, 3, 6, 8, 9]), (2, [2, 3, 6, 8, 9, 18]), (3, [6, 7]), (4, [6, 7])], rd := [(1, [8])] }),
 (68, { live := [(0, [1, 2, 3, 4, 5]), (1, [5])] }),
 (69, { live := [(0, [0]), (1, [0, 4]), (2, [2]), (3, [2])], vecs := [5], esc := true }),
 (70, { live := [(0, [0]), (1, [0])] }),
 (71, { live := [(0, [0]), (1, [0])] }),
 (72, { live := [(0, [0, 2, 6]), (1, [0, 2, 6, 7]), (2, [0, 2, 6, 7, 19]), (3, [0, 2, 6, 7, 19, 20]), (4, [0, 2, 6, 7, 8, 19]), (5, [0, 2, 6, 7, 8, 9, 10, 19]), (6, [0, 2, 6, 7, 9, 11, 19]), (7, [0, 2, 6, 7, 11, 12, 19]), (8, [0, 2, 6, 7, 11, 12, 19]), (9, [0, 2, 6, 7, 11, 19]), (10, [0, 2, 6, 7, 19]), (11, [0, 2, 6, 7, 19]), (12, [0, 7, 95]), (13, [0, 7, 95, 96]), (14, [0, 7, 13, 95]), (15, [0, 7, 95]), (16, [0, 7, 95])], rd := [(0, [6])] }),
 (78, { live := [(0, [2, 3]), (1, [4])], dec := [8, 13, 18, 23, 32, 37] }),
 (79, { live := [(0, [1]), (1, [2])], dec := [6, 10, 15, 20] }),
 (80, { live := [(0, [0, 1]), (1, [4])] }),
 (81, { live := [(0, [0]), (1, [0, 4]), (2, [2]), (3, [2])], vecs := [5], esc := true }),
 (82, { live := [(0, [0]), (1, [0, 4]), (2, [2]), (3, [2])], vecs := [5], esc := true }),
 (83, { live := [(0, [0, 8, 9, 10]), (1, [0, 8, 9, 10, 11]), (2, [0, 4, 8, 9, 10]), (3, [0, 4, 8, 9, 10, 15, 16, 17]), (4, [0, 4, 8, 9, 10, 15, 16, 17, 18]), (5, [0, 4, 6, 8, 9, 10, 15, 16, 17]), (6, [0, 4, 8, 9, 10, 15, 16, 17, 33]), (7, [0, 4, 8, 9, 10, 15, 16, 17]), (8, [0, 8, 9, 10])], rd := [(2, [4]), (5, [6])] }),
 (85, { live := [(0, [1]), (1, [2])], dec := [7, 12] }),
 (86, { live := [(0, [2, 3]), (1, [4])], dec := [8] }),
 (87, { live := [(0, [0]), (1, [0, 4]), (2, [2]), (3, [2])], vecs := [5], esc := true }),
 (88, { live := [(0, [0]), (1, [0, 3]), (2, [0, 3, 4]), (3, [0, 3, 4, 10, 11]), (4, [0, 3, 4, 10, 11, 12]), (5, [0, 3, 4, 5, 10, 11]), (6, [0, 3, 4, 10, 11]), (7, [0, 3, 4, 10, 11]), (8, [4]), (9, [2])], esc := true }),
 (89, { live := [(0, [1]), (1, [1, 6]), (2, [2, 3]), (3, [2, 3])], fresh := [15], esc := true }),
 (90, { live := [(0, [1]), (1, [1, 8]), (2, [2, 3]), (3, [1, 4]), (4, [2, 3])], fresh := [12], esc := true }),
 (91, { live := [(0, [0]), (1, [0, 3, 4]), (2, [0, 3, 4, 7, 8]), (3, [0, 3, 4, 7, 8, 9]), (4, [0, 3, 4, 5, 7, 8]), (5, [0, 3, 4, 7, 8]), (6, [0, 3, 4, 7, 8]), (7, [0, 3, 4, 7, 8]), (8, [2])] }),
 (92, { live := [(0, [1, 2, 4]), (1, [1, 2, 4, 6]), (2, [1, 4, 6, 12]), (3, [1, 4, 6, 12]), (4, [4, 6, 12]), (5, [4, 5]), (6, [4, 6, 21]), (7, [4, 5]), (8, [4, 5])], rd := [(1, [6])] }),
 (93, { live := [(0, [1, 2]), (1, [1, 2, 3]), (2, [2, 3, 9, 10, 11]), (3, [2, 3, 9, 10, 11, 12]), (4, [2, 3, 5, 9, 10, 11]), (5, [2, 3, 5, 9, 10, 11]), (6, [2, 3, 9, 10, 11, 20, 21, 22]), (7, [2, 3, 9, 10, 11, 20, 21, 22, 23]), (8, [2, 3, 7, 9, 10, 11, 20, 21, 22]), (9, [2, 3, 9, 10, 11, 20, 21, 22]), (10, [2, 3, 9, 10, 11, 20, 21, 22]), (11, [2, 3, 9, 10, 11]), (12, [2])], rd := [(4, [5]), (8, [7])] }),
 (94, { live := [(0, [2, 3, 4]), (1, [2, 3, 4, 22]), (2, [4, 5]), (3, [2, 3, 4, 6]), (4, [2, 3, 4, 6, 7]), (5, [4, 6, 7, 30, 31, 32]), (6, [4, 6, 7, 30, 31, 32, 33]), (7, [4, 6, 7, 9, 30, 31, 32]), (8, [4, 6, 7, 9, 10, 11, 30, 31, 32]), (9, [4, 6, 7, 9, 10, 30, 31, 32, 44]), (10, [4, 6, 7, 9, 30, 31, 32]), (11, [4, 6, 7, 30, 31, 32]), (12, [4, 6, 7, 30, 31, 32]), (13, [4, 6, 7, 30, 31, 32]), (14, [4, 6, 7, 67]), (15, [4, 5]), (16, [4, 6, 7]), (17, [4, 6, 7, 12]), (18, [4, 6, 12, 71, 72, 73]), (19, [4, 6, 12, 71, 72, 73, 74]), (20, [4, 6, 12, 14, 71, 72, 73]), (21, [4, 6, 12, 71, 72, 73]), (22, [4, 6, 12, 71, 72, 73]), (23, [4, 5])], dec := [18], rd := [(7, [9]), (8, [10]), (20, [14])] }),
 (95, { live := [(0, [0, 2]), (1, [0, 2, 3]), (2, [0, 2, 3, 7]), (3, [0, 2, 3, 7, 8]), (4, [0, 2, 3, 4, 7]), (5, [0, 2, 3, 4, 7, 11]), (6, [0, 2, 3, 7]), (7, [0, 2, 3, 4, 5, 6, 7]), (8, [0, 2, 3, 7]), (9, [0, 2, 3, 7]), (10, [2])] }),
 (96, { live := [(0, [0, 1]), (1, [4])] }),
 (106, { live := [(0, [0]), (1, [0, 4]), (2, [2]), (3, [2])] }),
 (108, { live := [(0, [0]), (1, [0, 3]), (2, [3, 6, 7, 8]), (3, [3, 6, 7, 8, 9]), (4, [3, 5, 6, 7, 8]), (5, [3, 5, 6, 7, 8, 14]), (6, [2]), (7, [3, 6, 7, 8]), (8, [2])] }),
 (109, { live := [(0, [0, 1]), (1, [0, 1, 5]), (2, [0, 1, 5, 6]), (3, [0, 1, 6, 11]), (4, [12]), (5, [4]), (6, [4]), (7, [0, 1, 13]), (8, [4]), (9, [0, 1, 16]), (10, [4]), (11, [19]), (12, [4]), (13, [4])] }),
 (110, { live := [(0, [0]), (1, [0, 3]), (2, [0, 3]), (3, [0, 3, 7]), (4, [0, 3]), (5, [0, 3]), (6, [2])] }),
 (111, { live := [(0, [0]), (1, [2])], fresh := [6], esc := true }),
 (112, { live := [(0, [0, 1]), (1, [4])] }),
 (113, { live := [(0, [2, 3, 4]), (1, [2, 3, 4, 7]), (2, [4]), (3, [4])] }),
 (114, { live := [(0, [0]), (1, [0, 3]), (2, [0, 3, 9, 10, 11]), (3, [0, 3, 9, 10, 11, 12]), (4, [0, 3, 5, 9, 10, 11]), (5, [0, 3, 9, 10, 11]), (6, [0, 3, 9, 10, 11, 20]), (7, [0, 3, 9, 10, 11]), (8, [0, 3, 9, 10, 11]), (9, [0, 6]), (10, [6, 25, 26, 27]), (11, [6, 25, 26, 27, 28]), (12, [6, 8, 25, 26, 27]), (13, [6, 25, 26, 27]), (14, [6, 25, 26, 27]), (15, [2])], raw := [121], fresh := [24] }),
 (115, { live := [(0, [2, 3, 4]), (1, [2, 3, 4, 23]), (2, [4, 5]), (3, [2, 3, 4, 6]), (4, [2, 3, 4, 6]), (5, [2, 3, 4, 6]), (6, [4, 6, 7]), (7, [4, 7, 43]), (8, [7, 8]), (10, [4, 5])], dec := [12, 17], fresh := [43], rd := [(8, [8])] }),
 (116, { live := [(0, [0, 1, 4])] }),
 (117, { live := [(0, [2, 3]), (1, [4])] }),
 (118, { live := [(0, [0, 1]), (1, [0, 5]), (2, [4])] }),
 (120, { live := [(0, [0]), (1, [2])] }),
 (121, { live := [(0, [0, 1]), (1, [0, 1, 6]), (2, [0, 1]), (3, [0, 1]), (4, [0, 1, 16]), (5, [0]), (6, [4])], esc := true, nil := [(5, [⟨.sl 0, 900001210, (.sl 19 (.ag [(.ba 16), (.ag [(.i .i64), (.i .i64)]), (.sl 4 (.ag [(.i .i64), (.ag [(.ag [(.i .i64), (.i .i64)]), .s])]))]))⟩])] }),
 (122, { live := [(0, [0, 3]), (1, [0, 9, 10, 11]), (2, [0, 9, 10, 11, 12]), (3, [0, 5, 9, 10, 11]), (4, [0, 5, 6, 7, 9, 10, 11]), (5, [0, 5, 6, 9, 10, 11, 22]), (6, [0, 9, 10, 11]), (7, [0, 9, 10, 11]), (8, [0, 9, 10, 11])], rd := [(3, [5]), (4, [6])] }),
 (123, { live := [(0, [2, 3]), (1, [4])], esc := true }),
 (124, { live := [(0, [0, 1, 2, 3, 4, 10]), (1, [0, 1, 2, 3, 4, 10, 11]), (2, [0, 1, 2, 3, 4, 10, 11, 12]), (3, [0, 1, 2, 3, 4, 10, 11, 12, 25]), (5, [0, 1, 2, 3, 4, 10, 11, 12, 32]), (7, [0, 1, 2, 3, 4, 10, 11, 12, 39]), (8, [0, 1, 2, 3, 4, 10, 11, 12]), (9, [0, 1, 2, 3, 4, 10, 11, 12]), (10, [0, 1, 2, 3, 4, 10, 11, 12, 13, 14]), (11, [0, 1, 2, 3, 4, 10, 11, 12, 13, 14, 56]), (12, [0, 1, 2, 3, 4, 10, 11, 12, 13]), (13, [0, 1, 2, 3, 4, 10, 11, 12, 13]), (14, [0, 1, 2, 3, 4, 10, 11, 12, 13, 14]), (15, [0, 1, 2, 3, 4, 10, 11, 12, 13, 75]), (16, [0, 1, 2, 3, 4, 10, 11, 12, 13, 80]), (17, [0, 1, 2, 3, 4, 10, 11, 12, 13, 97]), (18, [0, 2, 3, 4, 10, 11, 15]), (19, [0, 1, 2, 3, 4, 10, 11]), (20, [0, 1, 2, 3, 4, 12, 16, 17]), (21, [0, 1, 2, 3, 4, 11, 12, 16]), (22, [0, 1, 2, 3, 4, 11, 12, 16, 18, 19]), (23, [0, 1, 2, 3, 4, 11, 16, 18, 19, 20]), (24, [0, 1, 2, 3, 4, 11, 16, 18, 19, 20, 125]), (25, [0, 1, 2, 3, 4, 10, 11, 16]), (26, [0, 2, 3, 4, 10, 11, 16]), (27, [0, 1, 2, 3, 4, 10, 11]), (28, [0, 1, 2, 3, 4, 10, 11, 16]), (29, [0, 1, 3, 4, 10, 11, 16]), (30, [0, 1, 2, 3, 4, 10, 11])], dec := [69, 72, 83] }),
 (125, { live := [(0, [0]), (1, [2]), (2, [2])] }),
 (126, { live := [(0, [2, 3, 4]), (1, [2, 3, 4, 7]), (2, [4]), (3, [4])] }),
 (127, { live := [(0, [0, 1, 2, 7]), (1, [0, 1, 2, 7, 8]), (2, [0, 1, 2, 4, 7]), (3, [0, 1, 2, 4, 5, 6, 7]), (4, [0, 1, 2, 7, 30]), (5, [0, 1, 2, 7])], dec := [17, 23], rd := [(3, [5])] }),
 (128, { live := [(0, [0, 1, 2, 3, 8]), (1, [0, 1, 2, 3, 8, 14]), (2, [0, 1, 2, 3, 8]), (3, [0, 1, 2, 3, 8, 9]), (4, [0, 1, 2, 3, 8, 9, 34]), (5, [0, 1, 2, 3, 8, 9]), (6, [0, 1, 2, 3, 8, 9])], dec := [21] }),
 (129, { live := [(0, [0, 1, 2, 3, 8]), (1, [0, 1, 2, 3, 8, 9]), (2, [0, 3, 8, 9, 10]), (3, [0, 3, 8, 9, 10, 11]), (4, [0, 3, 8, 9, 10, 11, 21]), (5, [0, 3, 8, 9, 10, 11]), (6, [0, 3, 8, 9, 10, 11]), (7, [0, 3, 8, 9, 12]), (8, [0, 3, 8, 9, 12, 33]), (9, [0, 3, 8, 9, 12]), (10, [0, 3, 8, 9, 12]), (11, [0, 3, 8, 9, 12])] }),
 (130, { live := [(0, [0, 1, 8]), (1, [0, 1, 8, 17]), (2, [0, 1, 8, 9]), (3, [0, 1, 8, 9, 10]), (4, [0, 1, 8, 9, 10, 11]), (5, [0, 1, 8, 9, 10, 11, 35]), (6, [0, 1, 8, 9, 10, 11]), (7, [0, 1, 8, 9, 10, 11, 12]), (8, [0, 1, 8, 9, 10, 11, 12, 45]), (9, [0, 1, 8, 9, 10, 11, 12]), (10, [0, 1, 8, 9, 10, 11])] }),
 (131, { live := [(0, [0, 1, 2, 3]), (1, [0, 1, 3, 10]), (2, [0, 1, 3, 10, 11]), (3, [0, 1, 3, 10, 11, 12]), (4, [0, 1, 3, 10, 11, 12, 13]), (5, [0, 3, 10, 11, 12, 13, 14]), (6, [0, 3, 10, 11, 12, 13, 14, 34]), (7, [0, 3, 11, 12, 13, 14, 36]), (8, [0, 3, 11, 12, 13, 14]), (9, [0, 3, 11, 12, 13, 14]), (10, [0, 3, 11, 12, 13, 14]), (11, [11, 13]), (12, [13, 55]), (13, [8, 9]), (14, [13, 55, 57]), (15, [8, 9]), (16, [13, 60]), (17, [8, 9])] }),
 (132, { live := [(0, [0, 2, 8]), (1, [0, 8, 9]), (2, [0, 8, 9, 15]), (3, [0, 8, 9]), (4, [0, 8, 9]), (5, [0, 8, 9])] }),
 (133, { live := [(0, [0, 1, 2, 3]), (1, [0, 1, 2, 3, 9]), (2, [0, 1, 2, 3, 9, 10]), (3, [0, 1, 2, 3, 9, 10, 16]), (4, [0, 1, 2, 3, 9, 10]), (5, [0, 1, 2, 3, 9, 10, 36]), (6, [0, 1, 2, 3, 9, 10]), (7, [0, 1, 2, 3, 9, 10, 41]), (8, [8]), (9, [0, 1, 2, 3, 9, 10, 45]), (10, [8]), (11, [0, 1, 2, 3, 9, 10]), (12, [0, 1, 2, 3, 9, 10, 65]), (13, [0, 1, 2, 3, 9, 10, 11]), (14, [0, 1, 2, 3, 9, 10, 11, 69]), (15, [0, 1, 2, 3, 9, 10, 11]), (16, [0, 1, 2, 3, 9, 10, 11, 84]), (17, [0, 1, 2, 3, 9, 10, 11]), (18, [0, 1, 2, 3, 9, 10, 104]), (19, [0, 1, 2, 3, 9, 10, 12]), (20, [0, 1, 2, 3, 9, 10, 12, 109]), (21, [0, 1, 2, 3, 9, 10, 12]), (22, [0, 1, 2, 3, 9, 10, 12, 124]), (23, [0, 1, 2, 3, 9, 10, 12]), (24, [8])], dec := [22] }),
 (134, { live := [(0, [0, 1, 2, 3, 4]), (1, [0, 1, 2, 4]), (2, [0, 1, 4, 11, 12]), (3, [0, 1, 4, 11, 12, 47]), (4, [0, 1, 4, 11, 12]), (5, [0, 1, 4, 11, 12, 65]), (6, [0, 1, 4, 11, 12]), (7, [0, 1, 4, 11, 12, 70]), (8, [0, 1, 4, 11, 12]), (9, [0, 1, 4, 11, 12]), (10, [0, 1, 4, 11, 12]), (11, [10])], dec := [34, 53] }),
 (135, { live := [(0, [0, 1, 2, 3, 4]), (1, [0, 1, 2, 4]), (2, [0, 1, 4, 12, 13]), (3, [0, 1, 4, 12, 13, 47]), (4, [0, 1, 4, 12, 13]), (5, [0, 1, 4, 12, 13, 66]), (6, [0, 1, 4, 12, 13]), (7, [0, 1, 4, 12, 13, 71]), (8, [13]), (9, [10, 11]), (10, [0, 1, 4, 12, 13]), (11, [0, 1, 4, 12, 13]), (12, [0, 1, 4, 12, 13]), (13, [0, 1, 4, 12, 13, 120]), (14, [0, 1, 4, 12, 13]), (15, [0, 1, 4, 12, 13, 139]), (16, [0, 1, 4, 12, 13]), (17, [0, 1, 4, 12, 13, 144]), (18, [0, 1, 4, 12, 13]), (19, [0, 1, 4, 12, 13]), (20, [0, 1, 4, 12, 13]), (21, [13]), (22, [10, 11])], dec := [35, 53, 108, 126] }),
 (136, { live := [(0, [0, 2]), (1, [0, 2, 4]), (2, [0]), (3, [0, 2]), (4, [0, 2, 8]), (5, [0, 2]), (6, [0, 2]), (7, [2])] }),
 (137, { live := [(0, [0, 2]), (1, [0, 2, 4]), (2, [0]), (3, [0, 2]), (4, [0, 2, 8]), (5, [0, 2]), (6, [0, 2]), (7, [0, 2, 14]), (8, [0, 2]), (9, [0, 2]), (10, [2])] }),
 (138, { live := [(0, [2, 3]), (1, [5]), (2, [13, 14]), (3, [13, 14, 15]), (4, [7, 13, 14]), (5, [8, 13, 14]), (6, [8, 13, 14, 20]), (7, [4]), (8, [13, 14]), (9, [4])], rd := [(1, [5])] }),
 (139, { live := [(0, [0, 2, 3, 4, 10]), (1, [0, 2, 3, 4, 10, 11]), (2, [0, 2, 3, 4, 10, 11, 18]), (3, [0, 2, 3, 4, 10, 11, 40]), (4, [0, 2, 3, 4, 10, 11]), (5, [0, 2, 3, 4, 10, 11, 58]), (6, [0, 2, 3, 4, 11]), (7, [0, 2, 3, 4, 10])], dec := [23] }),
 (140, { live := [(0, [0]), (1, [2])] }),
 (141, { live := [(0, [0]), (1, [0]), (2, [0]), (3, [0]), (4, [2])] }),
 (142, { live := [(0, [0, 1, 2, 3]), (1, [8])] }),
 (143, { live := [(0, [0, 1, 2, 3, 4, 5]), (1, [0, 1, 2, 3, 4, 5]), (2, [0, 1, 2, 4, 5]), (3, [2]), (4, [12])] }),
 (144, { live := [(0, [0, 1]), (1, [2])] }),
 (145, { live := [(0, [2, 3, 4]), (1, [2, 3, 4, 7]), (2, [6]), (3, [12]), (4, [6]), (5, [6])] }),
 (146, { live := [(0, [0, 1]), (1, [2])] }),
 (147, { live := [(0, [2, 3, 4]), (1, [2, 3, 4, 7]), (2, [6]), (3, [12]), (4, [6]), (5, [6])] }),
 (148, { live := [(0, [2, 3]), (1, [4])], dec := [8] }),
 (149, { live := [(0, [0, 1]), (1, [2])] }),
 (150, { live := [(0, [0, 1]), (1, [0, 1, 5]), (2, [0, 1, 5, 6]), (3, [0, 1, 6, 11]), (4, [12]), (5, [4]), (6, [4]), (7, [0, 1, 13]), (8, [4]), (9, [0, 1, 16]), (10, [4]), (11, [19]), (12, [4]), (13, [4])] }),
 (151, { live := [(0, [0, 1, 2, 3, 4]), (1, [1, 2, 3, 22]), (2, [1, 2]), (3, [10, 11]), (4, [10, 11])] }),
 (152, { live := [(0, [0]), (1, [2])] })]
def Tryz_HH (k : FuncId) : TH := (get Tryz_HL k).getD {}
theorem Tryz_ks : KsOK Tryz.prog [22, 115] := ⟨ksOK_one (fn := Tryz.f22) (c := Tryz.f22.body.getD .skip) (by kernel_rfl) (by kernel_rfl) (by kernel_rfl), ksOK_one (fn := Tryz.f115) (c := Tryz.f115.body.getD .skip) (by kernel_rfl) (by kernel_rfl) (by kernel_rfl), trivial⟩
def auto9 : Option Bool := some true
theorem auto9_run : autoR Tryz.prog Tryz_HH [22, 115] [shaK_s] 400 30 9 = some (.pv (.b true), []) := by kernel_rfl
def auto9_s : Ent := smF ⟨9, [], [], [], []⟩ [] Bool (fun _ => auto9) cs1 fun _ z => (xb z, [])
theorem auto9_ok : SmOK Tryz.prog auto9_s := auto_ok Tryz.prog (fun _ => rfl) Tryz_draw (base := [shaK_s]) ⟨shaK_ok, trivial⟩ Tryz_ks auto9_run
end Go.Rx
end
set_option maxRecDepth 100000
noncomputable section
namespace Go.Rx
open Go.Proofs
noncomputable def Tryz_b36 : Code := Tryz.f36.body.getD .skip
theorem Tryz_F36 : FnF Tryz.prog 36 Tryz.f36 Tryz_b36 := ⟨Tryz_draw, by kernel_rfl, by kernel_rfl, by kernel_rfl⟩
def rolodexlaw06_Few_H : TH := { live := [(0, [1]), (1, [1, 7]), (2, [2]), (3, [1, 3]), (4, [1, 3, 12]), (5, [1, 3]), (6, [1, 3, 23]), (7, [2]), (8, [2])] }
def rolodexlaw06_Few_E (N : Nat) : List Ent := []
theorem rolodexlaw06_Few_Eok (N : Nat) : SmAll Tryz.prog (rolodexlaw06_Few_E N) := trivial
abbrev rolodexlaw06_Few_l4_F := T_api_Rec
abbrev rolodexlaw06_Few_l4_Y := Unit ⊕ (Int × Bool)
def rolodexlaw06_Few_l4_o (f : rolodexlaw06_Few_l4_F) : rolodexlaw06_Few_l4_Y → Ex × TSt
 | .inl y => (.ret, ⟨0, 24, [], [(2, .bc false)], [], false, []⟩)
 | .inr y => (.exit 0, ⟨0, 24, [], [(1, .p 10 [] 0), (3, xi y.1), (12, xb y.2)], [(10, .cell false (.tv t_api_Rec f))], false, []⟩)
def rolodexlaw06_Few_l4_L (N : Nat) : List (Nat × LEnt) := []
abbrev rolodexlaw06_Few_l4_V := Int
def rolodexlaw06_Few_l4_p : SP := ⟨0, 24, [], [(1, .k (.p 10 [] 0)), (3, .x (.i .i64))], [(10, .cell false (.x t_api_Rec))], false, []⟩
def rolodexlaw06_Few_l4_h (f : rolodexlaw06_Few_l4_F) (v : rolodexlaw06_Few_l4_V) : TSt := fillS rolodexlaw06_Few_l4_p [dv t_api_Rec f, dv (.i .i64) v]
def rolodexlaw06_Few_l4_t (N : Nat) (o_4 : T_api_Rec) (v : rolodexlaw06_Few_l4_V) : Tree (rolodexlaw06_Few_l4_V ⊕ rolodexlaw06_Few_l4_Y) :=
 .cond (decide (v < (((T_api_Rec.F o_4).length : Nat) : Int))) (
 .bind (getI (T_api_Rec.F o_4) v) fun e1 =>
 .cond (decide (((300 : Int)) < (((T_api_Cell.V (T_api_Field.C e1)).length : Nat) : Int))) (
 .ret (.inr (.inl ()))) <|
 .chk (in64 (v + 1)) <|
 .ret (.inl (v + 1))) <|
 .ret (.inr (.inr ((v, decide (v < (((T_api_Rec.F o_4).length : Nat) : Int))))))
def rolodexlaw06_Few_l4_n (N n : Nat) (f : rolodexlaw06_Few_l4_F) (v : rolodexlaw06_Few_l4_V) : Option rolodexlaw06_Few_l4_Y := loopG (rolodexlaw06_Few_l4_t N f) some n v
theorem rolodexlaw06_Few_l4_q (N : Nat) (f : rolodexlaw06_Few_l4_F) (n : Nat) (v : rolodexlaw06_Few_l4_V) (y : rolodexlaw06_Few_l4_Y) (h : rolodexlaw06_Few_l4_n N n f v = some y) : LG Tryz.prog rolodexlaw06_Few_H 36 (lookC Tryz_b36 4) (rolodexlaw06_Few_l4_h f v) (rolodexlaw06_Few_l4_o f y) :=
  loop_g Tryz_draw (E := rolodexlaw06_Few_E N) (L := lenv (rolodexlaw06_Few_l4_L N)) (st := rolodexlaw06_Few_l4_o f) (g := some) (R := rolodexlaw06_Few_l4_o f) (rolodexlaw06_Few_Eok N) (lenv_ok (by kernel_rfl) trivial) (rg0 (by kernel_rfl)) (fun v => by kernel_rfl) (good_self (st := rolodexlaw06_Few_l4_o f) fun y => by rcases y with _ | _ <;> rfl) n v y h
def rolodexlaw06_Few_l4 (N : Nat) (o_4 : T_api_Rec) (s3_4 : Int) : Option rolodexlaw06_Few_l4_Y := rolodexlaw06_Few_l4_n N N o_4 s3_4
def rolodexlaw06_Few_l4_s (N : Nat) : LEnt := smL rolodexlaw06_Few_l4_p [t_api_Rec, (.i .i64)] rolodexlaw06_Few_l4_Y (fun x => rolodexlaw06_Few_l4 N x.1 x.2.1) (csS cs1) fun x => rolodexlaw06_Few_l4_o x.1
theorem rolodexlaw06_Few_l4_ok (N : Nat) : LsOK Tryz.prog rolodexlaw06_Few_H 36 (lookC Tryz_b36 4) (rolodexlaw06_Few_l4_s N) := smL_ok fun x z h => rolodexlaw06_Few_l4_q N x.1 N x.2.1 z h
def rolodexlaw06_Few_o (z : Bool) : TV × THp := (xb z, [])
def rolodexlaw06_Few_t (N : Nat) (a0 : T_api_Rec) : Tree (Bool) :=
 .cond (decide (((12 : Int)) < (((T_api_Rec.F a0).length : Nat) : Int))) (
 .ret false) <|
 .bind (rolodexlaw06_Few_l4 N a0 0) fun z1 =>
 .sum z1 (fun z2 =>
 .ret false) fun z2 =>
 .ret true
def rolodexlaw06_Few (N : Nat) (a0 : T_api_Rec) : Option (Bool) := (rolodexlaw06_Few_t N a0).run some
def rolodexlaw06_Few_L (N : Nat) : List (Nat × LEnt) := [(4, rolodexlaw06_Few_l4_s N)]
def rolodexlaw06_Few_s (N : Nat) : Ent := smF ⟨36, [], [.x t_api_Rec], [], []⟩ [t_api_Rec] (Bool) (fun x => rolodexlaw06_Few N x.1) cs1 fun _ => rolodexlaw06_Few_o
theorem rolodexlaw06_Few_ok (N : Nat) : SmOK Tryz.prog (rolodexlaw06_Few_s N) :=
  fn_ok (H := rolodexlaw06_Few_H) (L := lenv (rolodexlaw06_Few_L N)) (ts := [t_api_Rec]) (T := fun x => rolodexlaw06_Few_t N x.1) 0 Tryz_F36 (rolodexlaw06_Few_Eok N) (lenv_ok (by kernel_rfl) ⟨rolodexlaw06_Few_l4_ok N, trivial⟩) (rg0 (by kernel_rfl)) fun x => by kernel_rfl
noncomputable def Tryz_b10 : Code := Tryz.f10.body.getD .skip
theorem Tryz_F10 : FnF Tryz.prog 10 Tryz.f10 Tryz_b10 := ⟨Tryz_draw, by kernel_rfl, by kernel_rfl, by kernel_rfl⟩
def rolodexlaw07_Few_H : TH := { live := [(0, [1]), (1, [1, 8]), (2, [2]), (3, [1, 3]), (4, [1, 3, 13]), (5, [1, 3]), (6, [1, 3, 4]), (7, [1, 3, 23]), (8, [2]), (9, [2])] }
def rolodexlaw07_Few_E (N : Nat) : List Ent := [rolodexlaw06_Few_s N]
theorem rolodexlaw07_Few_Eok (N : Nat) : SmAll Tryz.prog (rolodexlaw07_Few_E N) := ⟨rolodexlaw06_Few_ok N, trivial⟩
abbrev rolodexlaw07_Few_l4_F := T_api_Book
abbrev rolodexlaw07_Few_l4_Y := Unit ⊕ (Int × Bool)
def rolodexlaw07_Few_l4_o (f : rolodexlaw07_Few_l4_F) : rolodexlaw07_Few_l4_Y → Ex × TSt
 | .inl y => (.ret, ⟨0, 24, [], [(2, .bc false)], [], false, []⟩)
 | .inr y => (.exit 0, ⟨0, 24, [], [(1, .p 10 [] 0), (3, xi y.1), (13, xb y.2)], [(10, .cell false (.tv t_api_Book f))], false, []⟩)
def rolodexlaw07_Few_l4_L (N : Nat) : List (Nat × LEnt) := []
abbrev rolodexlaw07_Few_l4_V := Int
def rolodexlaw07_Few_l4_p : SP := ⟨0, 24, [], [(1, .k (.p 10 [] 0)), (3, .x (.i .i64))], [(10, .cell false (.x t_api_Book))], false, []⟩
def rolodexlaw07_Few_l4_h (f : rolodexlaw07_Few_l4_F) (v : rolodexlaw07_Few_l4_V) : TSt := fillS rolodexlaw07_Few_l4_p [dv t_api_Book f, dv (.i .i64) v]
def rolodexlaw07_Few_l4_t (N : Nat) (o_4 : T_api_Book) (v : rolodexlaw07_Few_l4_V) : Tree (rolodexlaw07_Few_l4_V ⊕ rolodexlaw07_Few_l4_Y) :=
 .cond (decide (v < (((T_api_Book.R o_4).length : Nat) : Int))) (
 .bind (getI (T_api_Book.R o_4) v) fun e1 =>
 .bind (rolodexlaw06_Few N e1) fun r2 =>
 .cond (!r2) (
 .ret (.inr (.inl ()))) <|
 .chk (in64 (v + 1)) <|
 .ret (.inl (v + 1))) <|
 .ret (.inr (.inr ((v, decide (v < (((T_api_Book.R o_4).length : Nat) : Int))))))
def rolodexlaw07_Few_l4_n (N n : Nat) (f : rolodexlaw07_Few_l4_F) (v : rolodexlaw07_Few_l4_V) : Option rolodexlaw07_Few_l4_Y := loopG (rolodexlaw07_Few_l4_t N f) some n v
theorem rolodexlaw07_Few_l4_q (N : Nat) (f : rolodexlaw07_Few_l4_F) (n : Nat) (v : rolodexlaw07_Few_l4_V) (y : rolodexlaw07_Few_l4_Y) (h : rolodexlaw07_Few_l4_n N n f v = some y) : LG Tryz.prog rolodexlaw07_Few_H 10 (lookC Tryz_b10 4) (rolodexlaw07_Few_l4_h f v) (rolodexlaw07_Few_l4_o f y) :=
  loop_g Tryz_draw (E := rolodexlaw07_Few_E N) (L := lenv (rolodexlaw07_Few_l4_L N)) (st := rolodexlaw07_Few_l4_o f) (g := some) (R := rolodexlaw07_Few_l4_o f) (rolodexlaw07_Few_Eok N) (lenv_ok (by kernel_rfl) trivial) (rg0 (by kernel_rfl)) (fun v => by kernel_rfl) (good_self (st := rolodexlaw07_Few_l4_o f) fun y => by rcases y with _ | _ <;> rfl) n v y h
def rolodexlaw07_Few_l4 (N : Nat) (o_4 : T_api_Book) (s3_4 : Int) : Option rolodexlaw07_Few_l4_Y := rolodexlaw07_Few_l4_n N N o_4 s3_4
def rolodexlaw07_Few_l4_s (N : Nat) : LEnt := smL rolodexlaw07_Few_l4_p [t_api_Book, (.i .i64)] rolodexlaw07_Few_l4_Y (fun x => rolodexlaw07_Few_l4 N x.1 x.2.1) (csS cs1) fun x => rolodexlaw07_Few_l4_o x.1
theorem rolodexlaw07_Few_l4_ok (N : Nat) : LsOK Tryz.prog rolodexlaw07_Few_H 10 (lookC Tryz_b10 4) (rolodexlaw07_Few_l4_s N) := smL_ok fun x z h => rolodexlaw07_Few_l4_q N x.1 N x.2.1 z h
def rolodexlaw07_Few_o (z : Bool) : TV × THp := (xb z, [])
def rolodexlaw07_Few_t (N : Nat) (a0 : T_api_Book) : Tree (Bool) :=
 .cond (decide (((14 : Int)) < (((T_api_Book.R a0).length : Nat) : Int))) (
 .ret false) <|
 .bind (rolodexlaw07_Few_l4 N a0 0) fun z1 =>
 .sum z1 (fun z2 =>
 .ret false) fun z2 =>
 .ret true
def rolodexlaw07_Few (N : Nat) (a0 : T_api_Book) : Option (Bool) := (rolodexlaw07_Few_t N a0).run some
def rolodexlaw07_Few_L (N : Nat) : List (Nat × LEnt) := [(4, rolodexlaw07_Few_l4_s N)]
def rolodexlaw07_Few_s (N : Nat) : Ent := smF ⟨10, [], [.x t_api_Book], [], []⟩ [t_api_Book] (Bool) (fun x => rolodexlaw07_Few N x.1) cs1 fun _ => rolodexlaw07_Few_o
theorem rolodexlaw07_Few_ok (N : Nat) : SmOK Tryz.prog (rolodexlaw07_Few_s N) :=
  fn_ok (H := rolodexlaw07_Few_H) (L := lenv (rolodexlaw07_Few_L N)) (ts := [t_api_Book]) (T := fun x => rolodexlaw07_Few_t N x.1) 0 Tryz_F10 (rolodexlaw07_Few_Eok N) (lenv_ok (by kernel_rfl) ⟨rolodexlaw07_Few_l4_ok N, trivial⟩) (rg0 (by kernel_rfl)) fun x => by kernel_rfl
noncomputable def Tryz_b79 : Code := Tryz.f79.body.getD .skip
theorem Tryz_F79 : FnF Tryz.prog 79 Tryz.f79 Tryz_b79 := ⟨Tryz_draw, by kernel_rfl, by kernel_rfl, by kernel_rfl⟩
def stamp_May_H : TH := { live := [(0, [1]), (1, [2])], dec := [6, 10, 15, 20] }
def stamp_May_E (N : Nat) : List Ent := []
theorem stamp_May_Eok (N : Nat) : SmAll Tryz.prog (stamp_May_E N) := trivial
def stamp_May_o (z : Bool) : TV × THp := (xb z, [])
def stamp_May_t (a0 : T_api_Stamp) : Tree (Bool) :=
 .cond (eqE t_api_Stamp a0 (T_api_Stamp.mk 0 0)) (
 .ret true) <|
 .cond (decide (((0 : Int)) < (T_api_Stamp.N a0))) (
 .cond (decide ((T_api_Stamp.N a0) ≤ ((1099511627776 : Int)))) (
 .cond (decide (((0 : Int)) ≤ (T_api_Stamp.Rep a0))) (
 .ret (decide ((T_api_Stamp.Rep a0) < ((8 : Int))))) <|
 .ret false) <|
 .ret false) <|
 .ret false
def stamp_May (a0 : T_api_Stamp) : Option (Bool) := (stamp_May_t a0).run some
def stamp_May_L : List (Nat × LEnt) := []
def stamp_May_s : Ent := smF ⟨79, [], [.x t_api_Stamp], [], []⟩ [t_api_Stamp] (Bool) (fun x => stamp_May x.1) cs1 fun _ => stamp_May_o
theorem stamp_May_ok : SmOK Tryz.prog (stamp_May_s) :=
  fn_ok (H := stamp_May_H) (L := lenv (stamp_May_L)) (ts := [t_api_Stamp]) (T := fun x => stamp_May_t x.1) 0 Tryz_F79 (stamp_May_Eok 0) (lenv_ok (by kernel_rfl) trivial) (rg0 (by kernel_rfl)) fun x => by kernel_rfl
noncomputable def Tryz_b85 : Code := Tryz.f85.body.getD .skip
theorem Tryz_F85 : FnF Tryz.prog 85 Tryz.f85 Tryz_b85 := ⟨Tryz_draw, by kernel_rfl, by kernel_rfl, by kernel_rfl⟩
def cell_May_H : TH := { live := [(0, [1]), (1, [2])], dec := [7, 12] }
def cell_May_E (N : Nat) : List Ent := [stamp_May_s]
theorem cell_May_Eok (N : Nat) : SmAll Tryz.prog (cell_May_E N) := ⟨stamp_May_ok, trivial⟩
def cell_May_o (z : Bool) : TV × THp := (xb z, [])
def cell_May_t (a0 : T_api_Cell) : Tree (Bool) :=
 .cond (!(eqE t_api_Stamp (T_api_Cell.S a0) (T_api_Stamp.mk 0 0))) (
 .bind (stamp_May (T_api_Cell.S a0)) fun r1 =>
 .cond r1 (
 .ret (decide ((((T_api_Cell.V a0).length : Nat) : Int) ≤ ((200 : Int))))) <|
 .ret false) <|
 .ret false
def cell_May (a0 : T_api_Cell) : Option (Bool) := (cell_May_t a0).run some
def cell_May_L : List (Nat × LEnt) := []
def cell_May_s : Ent := smF ⟨85, [], [.x t_api_Cell], [], []⟩ [t_api_Cell] (Bool) (fun x => cell_May x.1) cs1 fun _ => cell_May_o
theorem cell_May_ok : SmOK Tryz.prog (cell_May_s) :=
  fn_ok (H := cell_May_H) (L := lenv (cell_May_L)) (ts := [t_api_Cell]) (T := fun x => cell_May_t x.1) 0 Tryz_F85 (cell_May_Eok 0) (lenv_ok (by kernel_rfl) trivial) (rg0 (by kernel_rfl)) fun x => by kernel_rfl
noncomputable def Tryz_b120 : Code := Tryz.f120.body.getD .skip
theorem Tryz_F120 : FnF Tryz.prog 120 Tryz.f120 Tryz_b120 := ⟨Tryz_draw, by kernel_rfl, by kernel_rfl, by kernel_rfl⟩
def cmp_isNaN_int_H : TH := { live := [(0, [0]), (1, [2])] }
def cmp_isNaN_int_E (N : Nat) : List Ent := []
theorem cmp_isNaN_int_Eok (N : Nat) : SmAll Tryz.prog (cmp_isNaN_int_E N) := trivial
def cmp_isNaN_int_o (a0 : Int) (z : Unit) : TV × THp := (xb (!decide (a0 = a0)), [])
def cmp_isNaN_int_t (a0 : Int) : Tree (Unit) :=
 .ret ()
def cmp_isNaN_int (a0 : Int) : Option (Unit) := (cmp_isNaN_int_t a0).run some
def cmp_isNaN_int_L : List (Nat × LEnt) := []
def cmp_isNaN_int_s : Ent := smF ⟨120, [], [.x (.i .i64)], [], []⟩ [(.i .i64)] (Unit) (fun x => cmp_isNaN_int x.1) cs1 fun x => cmp_isNaN_int_o x.1
theorem cmp_isNaN_int_ok : SmOK Tryz.prog (cmp_isNaN_int_s) :=
  fn_ok (H := cmp_isNaN_int_H) (L := lenv (cmp_isNaN_int_L)) (ts := [(.i .i64)]) (T := fun x => cmp_isNaN_int_t x.1) 0 Tryz_F120 (cmp_isNaN_int_Eok 0) (lenv_ok (by kernel_rfl) trivial) (rg0 (by kernel_rfl)) fun x => by kernel_rfl
noncomputable def Tryz_b109 : Code := Tryz.f109.body.getD .skip
theorem Tryz_F109 : FnF Tryz.prog 109 Tryz.f109 Tryz_b109 := ⟨Tryz_draw, by kernel_rfl, by kernel_rfl, by kernel_rfl⟩
def cmp_Compare_int_H : TH := { live := [(0, [0, 1]), (1, [0, 1, 5]), (2, [0, 1, 5, 6]), (3, [0, 1, 6, 11]), (4, [12]), (5, [4]), (6, [4]), (7, [0, 1, 13]), (8, [4]), (9, [0, 1, 16]), (10, [4]), (11, [19]), (12, [4]), (13, [4])] }
def cmp_Compare_int_E (N : Nat) : List Ent := [cmp_isNaN_int_s]
theorem cmp_Compare_int_Eok (N : Nat) : SmAll Tryz.prog (cmp_Compare_int_E N) := ⟨cmp_isNaN_int_ok, trivial⟩
def cmp_Compare_int_o (z : Int) : TV × THp := (xi z, [])
def cmp_Compare_int_t (a0 : Int) (a1 : Int) : Tree (Int) :=
 .bind (cmp_isNaN_int a0) fun r1 =>
 .bind (cmp_isNaN_int a1) fun r2 =>
 .cond (!decide (a0 = a0)) (
 .cond (!decide (a1 = a1)) (
 .ret 0) <|
 .ret (-1)) <|
 .cond (!decide (a1 = a1)) (
 .ret 1) <|
 .cond (decide (a0 < a1)) (
 .ret (-1)) <|
 .cond (decide (a1 < a0)) (
 .ret 1) <|
 .ret 0
def cmp_Compare_int (a0 : Int) (a1 : Int) : Option (Int) := (cmp_Compare_int_t a0 a1).run some
def cmp_Compare_int_L : List (Nat × LEnt) := []
def cmp_Compare_int_s : Ent := smF ⟨109, [], [.x (.i .i64), .x (.i .i64)], [], []⟩ [(.i .i64), (.i .i64)] (Int) (fun x => cmp_Compare_int x.1 x.2.1) cs1 fun _ => cmp_Compare_int_o
theorem cmp_Compare_int_ok : SmOK Tryz.prog (cmp_Compare_int_s) :=
  fn_ok (H := cmp_Compare_int_H) (L := lenv (cmp_Compare_int_L)) (ts := [(.i .i64), (.i .i64)]) (T := fun x => cmp_Compare_int_t x.1 x.2.1) 0 Tryz_F109 (cmp_Compare_int_Eok 0) (lenv_ok (by kernel_rfl) trivial) (rg0 (by kernel_rfl)) fun x => by kernel_rfl
noncomputable def Tryz_b108 : Code := Tryz.f108.body.getD .skip
theorem Tryz_F108 : FnF Tryz.prog 108 Tryz.f108 Tryz_b108 := ⟨Tryz_draw, by kernel_rfl, by kernel_rfl, by kernel_rfl⟩
def cmp_Or_int_H : TH := { live := [(0, [0]), (1, [0, 3]), (2, [3, 6, 7, 8]), (3, [3, 6, 7, 8, 9]), (4, [3, 5, 6, 7, 8]), (5, [3, 5, 6, 7, 8, 14]), (6, [2]), (7, [3, 6, 7, 8]), (8, [2])] }
def cmp_Or_int_E (N : Nat) : List Ent := []
theorem cmp_Or_int_Eok (N : Nat) : SmAll Tryz.prog (cmp_Or_int_E N) := trivial
abbrev cmp_Or_int_l3_F := List Int × Int
abbrev cmp_Or_int_l3_Y := Int ⊕ (Int × Bool)
def cmp_Or_int_l3_o (f : cmp_Or_int_l3_F) : cmp_Or_int_l3_Y → Ex × TSt
 | .inl y => (.ret, ⟨0, 18, [], [(2, xi y)], [], false, []⟩)
 | .inr y => (.exit 0, ⟨0, 18, [], [(3, .ic .i64 0), (6, .tv (.sl 1 (.i .i64)) f.1), (7, xi f.2), (8, xi y.1), (9, xb y.2)], [], false, []⟩)
def cmp_Or_int_l3_L (N : Nat) : List (Nat × LEnt) := []
abbrev cmp_Or_int_l3_V := Int
def cmp_Or_int_l3_p : SP := ⟨0, 18, [], [(3, .k (.ic .i64 0)), (6, .x (.sl 1 (.i .i64))), (7, .x (.i .i64)), (8, .x (.i .i64))], [], false, []⟩
def cmp_Or_int_l3_h (f : cmp_Or_int_l3_F) (v : cmp_Or_int_l3_V) : TSt := fillS cmp_Or_int_l3_p [dv (.sl 1 (.i .i64)) f.1, dv (.i .i64) f.2, dv (.i .i64) v]
def cmp_Or_int_l3_t (N : Nat) (s6_3 : List Int) (s7_3 : Int) (v : cmp_Or_int_l3_V) : Tree (cmp_Or_int_l3_V ⊕ cmp_Or_int_l3_Y) :=
 .cond (decide (v < s7_3)) (
 .bind (getI s6_3 v) fun e1 =>
 .cond (!decide (e1 = ((0 : Int)))) (
 .ret (.inr (.inl e1))) <|
 .chk (in64 (v + 1)) <|
 .ret (.inl (v + 1))) <|
 .ret (.inr (.inr ((v, decide (v < s7_3)))))
def cmp_Or_int_l3_n (N n : Nat) (f : cmp_Or_int_l3_F) (v : cmp_Or_int_l3_V) : Option cmp_Or_int_l3_Y := loopG (cmp_Or_int_l3_t N f.1 f.2) some n v
theorem cmp_Or_int_l3_q (N : Nat) (f : cmp_Or_int_l3_F) (n : Nat) (v : cmp_Or_int_l3_V) (y : cmp_Or_int_l3_Y) (h : cmp_Or_int_l3_n N n f v = some y) : LG Tryz.prog cmp_Or_int_H 108 (lookC Tryz_b108 3) (cmp_Or_int_l3_h f v) (cmp_Or_int_l3_o f y) :=
  loop_g Tryz_draw (E := cmp_Or_int_E N) (L := lenv (cmp_Or_int_l3_L N)) (st := cmp_Or_int_l3_o f) (g := some) (R := cmp_Or_int_l3_o f) (cmp_Or_int_Eok N) (lenv_ok (by kernel_rfl) trivial) (rg0 (by kernel_rfl)) (fun v => by kernel_rfl) (good_self (st := cmp_Or_int_l3_o f) fun y => by rcases y with _ | _ <;> rfl) n v y h
def cmp_Or_int_l3 (N : Nat) (s6_3 : List Int) (s7_3 : Int) (s8_3 : Int) : Option cmp_Or_int_l3_Y := cmp_Or_int_l3_n N N (s6_3, s7_3) s8_3
def cmp_Or_int_l3_s (N : Nat) : LEnt := smL cmp_Or_int_l3_p [(.sl 1 (.i .i64)), (.i .i64), (.i .i64)] cmp_Or_int_l3_Y (fun x => cmp_Or_int_l3 N x.1 x.2.1 x.2.2.1) (csS cs1) fun x => cmp_Or_int_l3_o (x.1, x.2.1)
theorem cmp_Or_int_l3_ok (N : Nat) : LsOK Tryz.prog cmp_Or_int_H 108 (lookC Tryz_b108 3) (cmp_Or_int_l3_s N) := smL_ok fun x z h => cmp_Or_int_l3_q N (x.1, x.2.1) N x.2.2.1 z h
def cmp_Or_int_o (z : Int) : TV × THp := (xi z, [])
def cmp_Or_int_t (N : Nat) (a0 : List Int) : Tree (Int) :=
 .bind (cmp_Or_int_l3 N a0 ((a0.length : Nat) : Int) 0) fun z1 =>
 .sum z1 (fun z2 =>
 .ret z2) fun z2 =>
 .ret 0
def cmp_Or_int (N : Nat) (a0 : List Int) : Option (Int) := (cmp_Or_int_t N a0).run some
def cmp_Or_int_L (N : Nat) : List (Nat × LEnt) := [(3, cmp_Or_int_l3_s N)]
def cmp_Or_int_s (N : Nat) : Ent := smF ⟨108, [], [.x (.sl 1 (.i .i64))], [], []⟩ [(.sl 1 (.i .i64))] (Int) (fun x => cmp_Or_int N x.1) cs1 fun _ => cmp_Or_int_o
theorem cmp_Or_int_ok (N : Nat) : SmOK Tryz.prog (cmp_Or_int_s N) :=
  fn_ok (H := cmp_Or_int_H) (L := lenv (cmp_Or_int_L N)) (ts := [(.sl 1 (.i .i64))]) (T := fun x => cmp_Or_int_t N x.1) 0 Tryz_F108 (cmp_Or_int_Eok N) (lenv_ok (by kernel_rfl) ⟨cmp_Or_int_l3_ok N, trivial⟩) (rg0 (by kernel_rfl)) fun x => by kernel_rfl
noncomputable def Tryz_b86 : Code := Tryz.f86.body.getD .skip
theorem Tryz_F86 : FnF Tryz.prog 86 Tryz.f86 Tryz_b86 := ⟨Tryz_draw, by kernel_rfl, by kernel_rfl, by kernel_rfl⟩
def stamp_Less_H : TH := { live := [(0, [2, 3]), (1, [4])], dec := [8] }
def stamp_Less_E (N : Nat) : List Ent := [cmp_Compare_int_s, cmp_Or_int_s N]
theorem stamp_Less_Eok (N : Nat) : SmAll Tryz.prog (stamp_Less_E N) := ⟨cmp_Compare_int_ok, cmp_Or_int_ok N, trivial⟩
def stamp_Less_o (z : Bool) : TV × THp := (xb z, [])
def stamp_Less_t (N : Nat) (a0 : T_api_Stamp) (a1 : T_api_Stamp) : Tree (Bool) :=
 .cond (!(eqE t_api_Stamp a0 a1)) (
 .bind (cmp_Compare_int (T_api_Stamp.N a0) (T_api_Stamp.N a1)) fun r1 =>
 .bind (cmp_Compare_int (T_api_Stamp.Rep a0) (T_api_Stamp.Rep a1)) fun r2 =>
 .bind (cmp_Or_int N [r1, r2]) fun r3 =>
 .ret (decide (r3 < ((0 : Int))))) <|
 .ret false
def stamp_Less (N : Nat) (a0 : T_api_Stamp) (a1 : T_api_Stamp) : Option (Bool) := (stamp_Less_t N a0 a1).run some
def stamp_Less_L (N : Nat) : List (Nat × LEnt) := []
def stamp_Less_s (N : Nat) : Ent := smF ⟨86, [], [.x t_api_Stamp, .x t_api_Stamp], [], []⟩ [t_api_Stamp, t_api_Stamp] (Bool) (fun x => stamp_Less N x.1 x.2.1) cs1 fun _ => stamp_Less_o
theorem stamp_Less_ok (N : Nat) : SmOK Tryz.prog (stamp_Less_s N) :=
  fn_ok (H := stamp_Less_H) (L := lenv (stamp_Less_L N)) (ts := [t_api_Stamp, t_api_Stamp]) (T := fun x => stamp_Less_t N x.1 x.2.1) 0 Tryz_F86 (stamp_Less_Eok N) (lenv_ok (by kernel_rfl) trivial) (rg0 (by kernel_rfl)) fun x => by kernel_rfl
noncomputable def Tryz_b59 : Code := Tryz.f59.body.getD .skip
theorem Tryz_F59 : FnF Tryz.prog 59 Tryz.f59 Tryz_b59 := ⟨Tryz_draw, by kernel_rfl, by kernel_rfl, by kernel_rfl⟩
def rec_May_H : TH := { live := [(0, [1]), (1, [1, 21]), (2, [2]), (3, [1, 23, 24, 25]), (4, [1, 23, 24, 25, 26]), (5, [1, 3, 4, 23, 24, 25]), (6, [1, 4, 5, 23, 24, 25]), (7, [1, 23, 24, 25, 74]), (8, [2]), (9, [1, 23, 24, 25]), (10, [2])], dec := [10, 15, 32, 37, 40, 55, 60, 66] }
def rec_May_E (N : Nat) : List Ent := [stamp_May_s, cell_May_s, stamp_Less_s N]
theorem rec_May_Eok (N : Nat) : SmAll Tryz.prog (rec_May_E N) := ⟨stamp_May_ok, cell_May_ok, stamp_Less_ok N, trivial⟩
abbrev rec_May_l4_F := T_api_Rec × List T_api_Field × Int
abbrev rec_May_l4_Y := Unit ⊕ (Int × Bool)
def rec_May_l4_o (f : rec_May_l4_F) : rec_May_l4_Y → Ex × TSt
 | .inl y => (.ret, ⟨0, 76, [], [(2, .bc false)], [], false, []⟩)
 | .inr y => (.exit 0, ⟨0, 76, [], [(1, .p 10 [] 0), (23, .tv (.sl 4 t_api_Field) f.2.1), (24, xi f.2.2), (25, xi y.1), (26, xb y.2)], [(10, .cell false (.tv t_api_Rec f.1))], false, []⟩)
def rec_May_l4_L (N : Nat) : List (Nat × LEnt) := []
abbrev rec_May_l4_V := Int
def rec_May_l4_p : SP := ⟨0, 76, [], [(1, .k (.p 10 [] 0)), (23, .x (.sl 4 t_api_Field)), (24, .x (.i .i64)), (25, .x (.i .i64))], [(10, .cell false (.x t_api_Rec))], false, []⟩
def rec_May_l4_h (f : rec_May_l4_F) (v : rec_May_l4_V) : TSt := fillS rec_May_l4_p [dv t_api_Rec f.1, dv (.sl 4 t_api_Field) f.2.1, dv (.i .i64) f.2.2, dv (.i .i64) v]
def rec_May_l4_t (N : Nat) (o_4 : T_api_Rec) (s23_4 : List T_api_Field) (s24_4 : Int) (v : rec_May_l4_V) : Tree (rec_May_l4_V ⊕ rec_May_l4_Y) :=
 .cond (decide (v < s24_4)) (
 .bind (getI s23_4 v) fun e1 =>
 .cond (decide (v = ((0 : Int)))) (
 .cond (decide (((0 : Int)) ≤ (T_api_Field.No e1))) (
 .cond (decide (((8 : Int)) ≤ (T_api_Field.No e1))) (
 .ret (.inr (.inl ()))) <|
 .bind (cell_May (T_api_Field.C e1)) fun r2 =>
 .cond (!r2) (
 .ret (.inr (.inl ()))) <|
 .bind (stamp_Less N (T_api_Rec.Dead o_4) (T_api_Cell.S (T_api_Field.C e1))) fun r3 =>
 .cond (!r3) (
 .ret (.inr (.inl ()))) <|
 .chk (in64 (v + 1)) <|
 .ret (.inl (v + 1))) <|
 .cond (decide (((0 : Int)) < v)) (
 .chk (in64 (v - 1)) <|
 .bind (getI (T_api_Rec.F o_4) (v - 1)) fun e2 =>
 .cond (!(decide ((T_api_Field.No e2) < (T_api_Field.No e1)))) (
 .ret (.inr (.inl ()))) <|
 .cond (decide (((8 : Int)) ≤ (T_api_Field.No e1))) (
 .ret (.inr (.inl ()))) <|
 .bind (cell_May (T_api_Field.C e1)) fun r3 =>
 .cond (!r3) (
 .ret (.inr (.inl ()))) <|
 .bind (stamp_Less N (T_api_Rec.Dead o_4) (T_api_Cell.S (T_api_Field.C e1))) fun r4 =>
 .cond (!r4) (
 .ret (.inr (.inl ()))) <|
 .chk (in64 (v + 1)) <|
 .ret (.inl (v + 1))) <|
 .ret (.inr (.inl ()))) <|
 .cond (decide (((0 : Int)) < v)) (
 .chk (in64 (v - 1)) <|
 .bind (getI (T_api_Rec.F o_4) (v - 1)) fun e2 =>
 .cond (!(decide ((T_api_Field.No e2) < (T_api_Field.No e1)))) (
 .ret (.inr (.inl ()))) <|
 .cond (decide (((8 : Int)) ≤ (T_api_Field.No e1))) (
 .ret (.inr (.inl ()))) <|
 .bind (cell_May (T_api_Field.C e1)) fun r3 =>
 .cond (!r3) (
 .ret (.inr (.inl ()))) <|
 .bind (stamp_Less N (T_api_Rec.Dead o_4) (T_api_Cell.S (T_api_Field.C e1))) fun r4 =>
 .cond (!r4) (
 .ret (.inr (.inl ()))) <|
 .chk (in64 (v + 1)) <|
 .ret (.inl (v + 1))) <|
 .ret (.inr (.inl ()))) <|
 .ret (.inr (.inr ((v, decide (v < s24_4)))))
def rec_May_l4_n (N n : Nat) (f : rec_May_l4_F) (v : rec_May_l4_V) : Option rec_May_l4_Y := loopG (rec_May_l4_t N f.1 f.2.1 f.2.2) some n v
theorem rec_May_l4_q (N : Nat) (f : rec_May_l4_F) (n : Nat) (v : rec_May_l4_V) (y : rec_May_l4_Y) (h : rec_May_l4_n N n f v = some y) : LG Tryz.prog rec_May_H 59 (lookC Tryz_b59 4) (rec_May_l4_h f v) (rec_May_l4_o f y) :=
  loop_g Tryz_draw (E := rec_May_E N) (L := lenv (rec_May_l4_L N)) (st := rec_May_l4_o f) (g := some) (R := rec_May_l4_o f) (rec_May_Eok N) (lenv_ok (by kernel_rfl) trivial) (rg0 (by kernel_rfl)) (fun v => by kernel_rfl) (good_self (st := rec_May_l4_o f) fun y => by rcases y with _ | _ <;> rfl) n v y h
def rec_May_l4 (N : Nat) (o_4 : T_api_Rec) (s23_4 : List T_api_Field) (s24_4 : Int) (s25_4 : Int) : Option rec_May_l4_Y := rec_May_l4_n N N (o_4, s23_4, s24_4) s25_4
def rec_May_l4_s (N : Nat) : LEnt := smL rec_May_l4_p [t_api_Rec, (.sl 4 t_api_Field), (.i .i64), (.i .i64)] rec_May_l4_Y (fun x => rec_May_l4 N x.1 x.2.1 x.2.2.1 x.2.2.2.1) (csS cs1) fun x => rec_May_l4_o (x.1, x.2.1, x.2.2.1)
theorem rec_May_l4_ok (N : Nat) : LsOK Tryz.prog rec_May_H 59 (lookC Tryz_b59 4) (rec_May_l4_s N) := smL_ok fun x z h => rec_May_l4_q N (x.1, x.2.1, x.2.2.1) N x.2.2.2.1 z h
def rec_May_o (z : Bool) : TV × THp := (xb z, [])
def rec_May_t (N : Nat) (a0 : T_api_Rec) : Tree (Bool) :=
 .bind (stamp_May (T_api_Rec.Dead a0)) fun r1 =>
 .cond (!r1) (
 .ret false) <|
 .cond (decide ((((T_api_Rec.F a0).length : Nat) : Int) = ((0 : Int)))) (
 .cond (eqE t_api_Stamp (T_api_Rec.Dead a0) (T_api_Stamp.mk 0 0)) (
 .ret false) <|
 .bind (rec_May_l4 N a0 (T_api_Rec.F a0) (((T_api_Rec.F a0).length : Nat) : Int) 0) fun z2 =>
 .sum z2 (fun z3 =>
 .ret false) fun z3 =>
 .ret true) <|
 .bind (rec_May_l4 N a0 (T_api_Rec.F a0) (((T_api_Rec.F a0).length : Nat) : Int) 0) fun z2 =>
 .sum z2 (fun z3 =>
 .ret false) fun z3 =>
 .ret true
def rec_May (N : Nat) (a0 : T_api_Rec) : Option (Bool) := (rec_May_t N a0).run some
def rec_May_L (N : Nat) : List (Nat × LEnt) := [(4, rec_May_l4_s N)]
def rec_May_s (N : Nat) : Ent := smF ⟨59, [], [.x t_api_Rec], [], []⟩ [t_api_Rec] (Bool) (fun x => rec_May N x.1) cs1 fun _ => rec_May_o
theorem rec_May_ok (N : Nat) : SmOK Tryz.prog (rec_May_s N) :=
  fn_ok (H := rec_May_H) (L := lenv (rec_May_L N)) (ts := [t_api_Rec]) (T := fun x => rec_May_t N x.1) 0 Tryz_F59 (rec_May_Eok N) (lenv_ok (by kernel_rfl) ⟨rec_May_l4_ok N, trivial⟩) (rg0 (by kernel_rfl)) fun x => by kernel_rfl
noncomputable def Tryz_b80 : Code := Tryz.f80.body.getD .skip
theorem Tryz_F80 : FnF Tryz.prog 80 Tryz.f80 Tryz_b80 := ⟨Tryz_draw, by kernel_rfl, by kernel_rfl, by kernel_rfl⟩
def bytes_Compare_H : TH := { live := [(0, [0, 1]), (1, [4])] }
def bytes_Compare_E (N : Nat) : List Ent := [bcmp_s]
theorem bytes_Compare_Eok (N : Nat) : SmAll Tryz.prog (bytes_Compare_E N) := ⟨bcmp_ok, trivial⟩
def bytes_Compare_o (z : Int) : TV × THp := (xi z, [])
def bytes_Compare_t (a0 : List UInt8) (a1 : List UInt8) : Tree (Int) :=
 .bind (bcmp a0 a1) fun r1 =>
 .ret r1
def bytes_Compare (a0 : List UInt8) (a1 : List UInt8) : Option (Int) := (bytes_Compare_t a0 a1).run some
def bytes_Compare_L : List (Nat × LEnt) := []
def bytes_Compare_s : Ent := smF ⟨80, [], [.x .bl, .x .bl], [], []⟩ [.bl, .bl] (Int) (fun x => bytes_Compare x.1 x.2.1) cs1 fun _ => bytes_Compare_o
theorem bytes_Compare_ok : SmOK Tryz.prog (bytes_Compare_s) :=
  fn_ok (H := bytes_Compare_H) (L := lenv (bytes_Compare_L)) (ts := [.bl, .bl]) (T := fun x => bytes_Compare_t x.1 x.2.1) 0 Tryz_F80 (bytes_Compare_Eok 0) (lenv_ok (by kernel_rfl) trivial) (rg0 (by kernel_rfl)) fun x => by kernel_rfl
noncomputable def Tryz_b45 : Code := Tryz.f45.body.getD .skip
theorem Tryz_F45 : FnF Tryz.prog 45 Tryz.f45 Tryz_b45 := ⟨Tryz_draw, by kernel_rfl, by kernel_rfl, by kernel_rfl⟩
def book_Less_H : TH := { live := [(0, [2, 3]), (1, [4])], dec := [8] }
def book_Less_E (N : Nat) : List Ent := [bytes_Compare_s]
theorem book_Less_Eok (N : Nat) : SmAll Tryz.prog (book_Less_E N) := ⟨bytes_Compare_ok, trivial⟩
def book_Less_o (z : Bool) : TV × THp := (xb z, [])
def book_Less_t (a0 : Vector UInt8 16) (a1 : Vector UInt8 16) : Tree (Bool) :=
 .cond (!(eqE (.ba 16) a0 a1)) (
 .bind (bytes_Compare a0.toList a1.toList) fun r1 =>
 .ret (decide (r1 < ((0 : Int))))) <|
 .ret false
def book_Less (a0 : Vector UInt8 16) (a1 : Vector UInt8 16) : Option (Bool) := (book_Less_t a0 a1).run some
def book_Less_L : List (Nat × LEnt) := []
def book_Less_s : Ent := smF ⟨45, [], [.x (.ba 16), .x (.ba 16)], [], []⟩ [(.ba 16), (.ba 16)] (Bool) (fun x => book_Less x.1 x.2.1) cs1 fun _ => book_Less_o
theorem book_Less_ok : SmOK Tryz.prog (book_Less_s) :=
  fn_ok (H := book_Less_H) (L := lenv (book_Less_L)) (ts := [(.ba 16), (.ba 16)]) (T := fun x => book_Less_t x.1 x.2.1) 0 Tryz_F45 (book_Less_Eok 0) (lenv_ok (by kernel_rfl) trivial) (rg0 (by kernel_rfl)) fun x => by kernel_rfl
noncomputable def Tryz_b27 : Code := Tryz.f27.body.getD .skip
theorem Tryz_F27 : FnF Tryz.prog 27 Tryz.f27 Tryz_b27 := ⟨Tryz_draw, by kernel_rfl, by kernel_rfl, by kernel_rfl⟩
def book_May_H : TH := { live := [(0, [1]), (1, [1, 6, 7, 8]), (2, [1, 6, 7, 8, 9]), (3, [1, 3, 4, 6, 7, 8]), (4, [1, 6, 7, 8, 32]), (5, [2]), (6, [1, 6, 7, 8]), (7, [2])], dec := [16, 19] }
def book_May_E (N : Nat) : List Ent := [rec_May_s N, book_Less_s]
theorem book_May_Eok (N : Nat) : SmAll Tryz.prog (book_May_E N) := ⟨rec_May_ok N, book_Less_ok, trivial⟩
abbrev book_May_l2_F := T_api_Book × List T_api_Rec × Int
abbrev book_May_l2_Y := Unit ⊕ (Int × Bool)
def book_May_l2_o (f : book_May_l2_F) : book_May_l2_Y → Ex × TSt
 | .inl y => (.ret, ⟨0, 38, [], [(2, .bc false)], [], false, []⟩)
 | .inr y => (.exit 0, ⟨0, 38, [], [(1, .p 10 [] 0), (6, .tv (.sl 19 t_api_Rec) f.2.1), (7, xi f.2.2), (8, xi y.1), (9, xb y.2)], [(10, .cell false (.tv t_api_Book f.1))], false, []⟩)
def book_May_l2_L (N : Nat) : List (Nat × LEnt) := []
abbrev book_May_l2_V := Int
def book_May_l2_p : SP := ⟨0, 38, [], [(1, .k (.p 10 [] 0)), (6, .x (.sl 19 t_api_Rec)), (7, .x (.i .i64)), (8, .x (.i .i64))], [(10, .cell false (.x t_api_Book))], false, []⟩
def book_May_l2_h (f : book_May_l2_F) (v : book_May_l2_V) : TSt := fillS book_May_l2_p [dv t_api_Book f.1, dv (.sl 19 t_api_Rec) f.2.1, dv (.i .i64) f.2.2, dv (.i .i64) v]
def book_May_l2_t (N : Nat) (o_2 : T_api_Book) (s6_2 : List T_api_Rec) (s7_2 : Int) (v : book_May_l2_V) : Tree (book_May_l2_V ⊕ book_May_l2_Y) :=
 .cond (decide (v < s7_2)) (
 .bind (getI s6_2 v) fun e1 =>
 .bind (rec_May N e1) fun r2 =>
 .cond (!r2) (
 .ret (.inr (.inl ()))) <|
 .cond (decide (((0 : Int)) < v)) (
 .chk (in64 (v - 1)) <|
 .bind (getI (T_api_Book.R o_2) (v - 1)) fun e3 =>
 .bind (book_Less (T_api_Rec.ID e3) (T_api_Rec.ID e1)) fun r4 =>
 .cond (!r4) (
 .ret (.inr (.inl ()))) <|
 .chk (in64 (v + 1)) <|
 .ret (.inl (v + 1))) <|
 .chk (in64 (v + 1)) <|
 .ret (.inl (v + 1))) <|
 .ret (.inr (.inr ((v, decide (v < s7_2)))))
def book_May_l2_n (N n : Nat) (f : book_May_l2_F) (v : book_May_l2_V) : Option book_May_l2_Y := loopG (book_May_l2_t N f.1 f.2.1 f.2.2) some n v
theorem book_May_l2_q (N : Nat) (f : book_May_l2_F) (n : Nat) (v : book_May_l2_V) (y : book_May_l2_Y) (h : book_May_l2_n N n f v = some y) : LG Tryz.prog book_May_H 27 (lookC Tryz_b27 2) (book_May_l2_h f v) (book_May_l2_o f y) :=
  loop_g Tryz_draw (E := book_May_E N) (L := lenv (book_May_l2_L N)) (st := book_May_l2_o f) (g := some) (R := book_May_l2_o f) (book_May_Eok N) (lenv_ok (by kernel_rfl) trivial) (rg0 (by kernel_rfl)) (fun v => by kernel_rfl) (good_self (st := book_May_l2_o f) fun y => by rcases y with _ | _ <;> rfl) n v y h
def book_May_l2 (N : Nat) (o_2 : T_api_Book) (s6_2 : List T_api_Rec) (s7_2 : Int) (s8_2 : Int) : Option book_May_l2_Y := book_May_l2_n N N (o_2, s6_2, s7_2) s8_2
def book_May_l2_s (N : Nat) : LEnt := smL book_May_l2_p [t_api_Book, (.sl 19 t_api_Rec), (.i .i64), (.i .i64)] book_May_l2_Y (fun x => book_May_l2 N x.1 x.2.1 x.2.2.1 x.2.2.2.1) (csS cs1) fun x => book_May_l2_o (x.1, x.2.1, x.2.2.1)
theorem book_May_l2_ok (N : Nat) : LsOK Tryz.prog book_May_H 27 (lookC Tryz_b27 2) (book_May_l2_s N) := smL_ok fun x z h => book_May_l2_q N (x.1, x.2.1, x.2.2.1) N x.2.2.2.1 z h
def book_May_o (z : Bool) : TV × THp := (xb z, [])
def book_May_t (N : Nat) (a0 : T_api_Book) : Tree (Bool) :=
 .bind (book_May_l2 N a0 (T_api_Book.R a0) (((T_api_Book.R a0).length : Nat) : Int) 0) fun z1 =>
 .sum z1 (fun z2 =>
 .ret false) fun z2 =>
 .ret (decide ((((T_api_Book.R a0).length : Nat) : Int) ≤ ((10 : Int))))
def book_May (N : Nat) (a0 : T_api_Book) : Option (Bool) := (book_May_t N a0).run some
def book_May_L (N : Nat) : List (Nat × LEnt) := [(2, book_May_l2_s N)]
def book_May_s (N : Nat) : Ent := smF ⟨27, [], [.x t_api_Book], [], []⟩ [t_api_Book] (Bool) (fun x => book_May N x.1) cs1 fun _ => book_May_o
theorem book_May_ok (N : Nat) : SmOK Tryz.prog (book_May_s N) :=
  fn_ok (H := book_May_H) (L := lenv (book_May_L N)) (ts := [t_api_Book]) (T := fun x => book_May_t N x.1) 0 Tryz_F27 (book_May_Eok N) (lenv_ok (by kernel_rfl) ⟨book_May_l2_ok N, trivial⟩) (rg0 (by kernel_rfl)) fun x => by kernel_rfl
noncomputable def Tryz_b110 : Code := Tryz.f110.body.getD .skip
theorem Tryz_F110 : FnF Tryz.prog 110 Tryz.f110 Tryz_b110 := ⟨Tryz_draw, by kernel_rfl, by kernel_rfl, by kernel_rfl⟩
def wire_groups_H : TH := { live := [(0, [0]), (1, [0, 3]), (2, [0, 3]), (3, [0, 3, 7]), (4, [0, 3]), (5, [0, 3]), (6, [2])] }
def wire_groups_E (N : Nat) : List Ent := []
theorem wire_groups_Eok (N : Nat) : SmAll Tryz.prog (wire_groups_E N) := trivial
abbrev wire_groups_l3_F := Unit
abbrev wire_groups_l3_Y := Int × Int × Bool
def wire_groups_l3_o (f : wire_groups_l3_F) (y : wire_groups_l3_Y) : Ex × TSt := (.exit 0, ⟨0, 13, [], [(0, .tv (.i .u64) (y.1 : Int)), (3, xi y.2.1), (7, xb y.2.2)], [], false, []⟩)
def wire_groups_l3_L (N : Nat) : List (Nat × LEnt) := []
abbrev wire_groups_l3_V := Int × Int
def wire_groups_l3_p : SP := ⟨0, 13, [], [(0, .x (.i .u64)), (3, .x (.i .i64))], [], false, []⟩
def wire_groups_l3_h (f : wire_groups_l3_F) (v : wire_groups_l3_V) : TSt := fillS wire_groups_l3_p [dv (.i .u64) v.1, dv (.i .i64) v.2]
def wire_groups_l3_t (N : Nat) (v : wire_groups_l3_V) : Tree (wire_groups_l3_V ⊕ wire_groups_l3_Y) :=
 .cond (decide (((0 : Int)) < v.1)) (
 .chk (in64 (v.2 + 1)) <|
 .chk (0 ≤ (7 : Int)) <|
 .ret (.inl (uShr v.1 7, v.2 + 1))) <|
 .ret (.inr (v.1, v.2, decide (((0 : Int)) < v.1)))
def wire_groups_l3_n (N n : Nat) (f : wire_groups_l3_F) (v : wire_groups_l3_V) : Option wire_groups_l3_Y := loopG (wire_groups_l3_t N) some n v
theorem wire_groups_l3_q (N : Nat) (f : wire_groups_l3_F) (n : Nat) (v : wire_groups_l3_V) (y : wire_groups_l3_Y) (h : wire_groups_l3_n N n f v = some y) : LG Tryz.prog wire_groups_H 110 (lookC Tryz_b110 3) (wire_groups_l3_h f v) (wire_groups_l3_o f y) :=
  loop_g Tryz_draw (E := wire_groups_E N) (L := lenv (wire_groups_l3_L N)) (st := wire_groups_l3_o f) (g := some) (R := wire_groups_l3_o f) (wire_groups_Eok N) (lenv_ok (by kernel_rfl) trivial) (rg0 (by kernel_rfl)) (fun v => by kernel_rfl) (good_self (st := wire_groups_l3_o f) fun y => by rfl) n v y h
def wire_groups_l3 (N : Nat) (s0_3 : Int) (s3_3 : Int) : Option wire_groups_l3_Y := wire_groups_l3_n N N () (s0_3, s3_3)
def wire_groups_l3_s (N : Nat) : LEnt := smL wire_groups_l3_p [(.i .u64), (.i .i64)] wire_groups_l3_Y (fun x => wire_groups_l3 N x.1 x.2.1) cs1 fun x => wire_groups_l3_o ()
theorem wire_groups_l3_ok (N : Nat) : LsOK Tryz.prog wire_groups_H 110 (lookC Tryz_b110 3) (wire_groups_l3_s N) := smL_ok fun x z h => wire_groups_l3_q N () N (x.1, x.2.1) z h
def wire_groups_o (z : Int) : TV × THp := (xi z, [])
def wire_groups_t (N : Nat) (a0 : Int) : Tree (Int) :=
 .chk (0 ≤ (7 : Int)) <|
 .bind (wire_groups_l3 N (uShr a0 7) 1) fun z1 =>
 .ret z1.2.1
def wire_groups (N : Nat) (a0 : Int) : Option (Int) := (wire_groups_t N a0).run some
def wire_groups_L (N : Nat) : List (Nat × LEnt) := [(3, wire_groups_l3_s N)]
def wire_groups_s (N : Nat) : Ent := smF ⟨110, [], [.x (.i .u64)], [], []⟩ [(.i .u64)] (Int) (fun x => wire_groups N x.1) cs1 fun _ => wire_groups_o
theorem wire_groups_ok (N : Nat) : SmOK Tryz.prog (wire_groups_s N) :=
  fn_ok (H := wire_groups_H) (L := lenv (wire_groups_L N)) (ts := [(.i .u64)]) (T := fun x => wire_groups_t N x.1) 0 Tryz_F110 (wire_groups_Eok N) (lenv_ok (by kernel_rfl) ⟨wire_groups_l3_ok N, trivial⟩) (rg0 (by kernel_rfl)) fun x => by kernel_rfl
noncomputable def Tryz_b88 : Code := Tryz.f88.body.getD .skip
theorem Tryz_F88 : FnF Tryz.prog 88 Tryz.f88 Tryz_b88 := ⟨Tryz_draw, by kernel_rfl, by kernel_rfl, by kernel_rfl⟩
def wire_Put_H : TH := { live := [(0, [0]), (1, [0, 3]), (2, [0, 3, 4]), (3, [0, 3, 4, 10, 11]), (4, [0, 3, 4, 10, 11, 12]), (5, [0, 3, 4, 5, 10, 11]), (6, [0, 3, 4, 10, 11]), (7, [0, 3, 4, 10, 11]), (8, [4]), (9, [2])], esc := true }
def wire_Put_E (N : Nat) : List Ent := [wire_groups_s N]
theorem wire_Put_Eok (N : Nat) : SmAll Tryz.prog (wire_Put_E N) := ⟨wire_groups_ok N, trivial⟩
abbrev wire_Put_l4_F := Int × Int × Nat × Int
abbrev wire_Put_l4_Y := List UInt8 × Int × Bool
def wire_Put_l4_o (f : wire_Put_l4_F) (y : wire_Put_l4_Y) : Ex × TSt := (.exit 0, ⟨1, 35, [], [(0, .tv (.i .u64) f.1), (3, xi f.2.1), (4, .v 100090 f.2.2.1), (10, xi f.2.2.2), (11, xi y.2.1), (12, xb y.2.2)], [(100090, .vec false 1 .bl (y.1 : List UInt8))], false, []⟩)
def wire_Put_l4_L (N : Nat) : List (Nat × LEnt) := []
abbrev wire_Put_l4_V := List UInt8 × Int
def wire_Put_l4_p : SP := ⟨1, 35, [], [(0, .x (.i .u64)), (3, .x (.i .i64)), (4, .v 100090), (10, .x (.i .i64)), (11, .x (.i .i64))], [(100090, .vec false 1)], false, []⟩
def wire_Put_l4_h (f : wire_Put_l4_F) (v : wire_Put_l4_V) : TSt := fillS wire_Put_l4_p [dv .bl v.1, dv (.i .u64) f.1, dv (.i .i64) f.2.1, dv .nat f.2.2.1, dv (.i .i64) f.2.2.2, dv (.i .i64) v.2]
def wire_Put_l4_t (N : Nat) (s0_4 : Int) (s3_4 : Int) (s4_4 : Nat) (s10_4 : Int) (v : wire_Put_l4_V) : Tree (wire_Put_l4_V ⊕ wire_Put_l4_Y) :=
 .cond (decide (v.2 < s10_4)) (
 .chk (in64 (s3_4 - 1)) <|
 .chk (in64 ((s3_4 - 1) - v.2)) <|
 .chk (in64 (((7 : Int)) * v.2)) <|
 .chk (0 ≤ (((7 : Int)) * v.2)) <|
 let w1 : Int := uShr s0_4 (min (((7 : Int)) * v.2).toNat 64)
 .chk (0 ≤ ((s3_4 - 1) - v.2) ∧ ((s3_4 - 1) - v.2) < ((s4_4 : Nat) : Int)) <|
 .chk (vecOK v.1.length s4_4 (((s3_4 - 1) - v.2).toNat)) <|
 .chk (inB (uOr .u8 (IntKind.u8.wrap w1) 128)) <|
 .chk (in64 (v.2 + 1)) <|
 .ret (.inl (v.1.set (((s3_4 - 1) - v.2).toNat) (UInt8.ofNat (uOr .u8 (IntKind.u8.wrap w1) 128).toNat), v.2 + 1))) <|
 .ret (.inr (v.1, v.2, decide (v.2 < s10_4)))
def wire_Put_l4_n (N n : Nat) (f : wire_Put_l4_F) (v : wire_Put_l4_V) : Option wire_Put_l4_Y := loopG (wire_Put_l4_t N f.1 f.2.1 f.2.2.1 f.2.2.2) some n v
theorem wire_Put_l4_q (N : Nat) (f : wire_Put_l4_F) (n : Nat) (v : wire_Put_l4_V) (y : wire_Put_l4_Y) (h : wire_Put_l4_n N n f v = some y) : LG Tryz.prog wire_Put_H 88 (lookC Tryz_b88 4) (wire_Put_l4_h f v) (wire_Put_l4_o f y) :=
  loop_g Tryz_draw (E := wire_Put_E N) (L := lenv (wire_Put_l4_L N)) (st := wire_Put_l4_o f) (g := some) (R := wire_Put_l4_o f) (wire_Put_Eok N) (lenv_ok (by kernel_rfl) trivial) (rg0 (by kernel_rfl)) (fun v => by kernel_rfl) (good_self (st := wire_Put_l4_o f) fun y => by rfl) n v y h
def wire_Put_l4 (N : Nat) (s0_4 : Int) (s3_4 : Int) (s4_4 : Nat) (s10_4 : Int) (o_4 : List UInt8) (s11_4 : Int) : Option wire_Put_l4_Y := wire_Put_l4_n N N (s0_4, s3_4, s4_4, s10_4) (o_4, s11_4)
def wire_Put_l4_s (N : Nat) : LEnt := smL wire_Put_l4_p [.bl, (.i .u64), (.i .i64), .nat, (.i .i64), (.i .i64)] wire_Put_l4_Y (fun x => wire_Put_l4 N x.2.1 x.2.2.1 x.2.2.2.1 x.2.2.2.2.1 x.1 x.2.2.2.2.2.1) cs1 fun x => wire_Put_l4_o (x.2.1, x.2.2.1, x.2.2.2.1, x.2.2.2.2.1)
theorem wire_Put_l4_ok (N : Nat) : LsOK Tryz.prog wire_Put_H 88 (lookC Tryz_b88 4) (wire_Put_l4_s N) := smL_ok fun x z h => wire_Put_l4_q N (x.2.1, x.2.2.1, x.2.2.2.1, x.2.2.2.2.1) N (x.1, x.2.2.2.2.2.1) z h
def wire_Put_o (z : List UInt8 × Nat) : TV × THp := (.v 100090 z.2, [(100090, .vec false 1 .bl (z.1 : List UInt8))])
def wire_Put_t (N : Nat) (a0 : Int) : Tree (List UInt8 × Nat) :=
 .bind (wire_groups N a0) fun r1 =>
 .chk (mkOK r1 r1 1) <|
 .bind (wire_Put_l4 N a0 r1 (((List.replicate r1.toNat 0 : List UInt8)).length) r1 ((List.replicate r1.toNat 0 : List UInt8)) 0) fun z2 =>
 .chk (in64 (r1 - 1)) <|
 .chk (0 ≤ (r1 - 1) ∧ (r1 - 1) < ((((List.replicate r1.toNat 0 : List UInt8)).length : Nat) : Int)) <|
 .bind (getV z2.1 (((List.replicate r1.toNat 0 : List UInt8)).length) ((r1 - 1).toNat)) fun e3 =>
 let w4 : Int := uAndNot .u8 ((e3.toNat : Nat) : Int) 128
 .chk (0 ≤ (r1 - 1) ∧ (r1 - 1) < ((((List.replicate r1.toNat 0 : List UInt8)).length : Nat) : Int)) <|
 .chk (vecOK z2.1.length (((List.replicate r1.toNat 0 : List UInt8)).length) ((r1 - 1).toNat)) <|
 .chk (inB w4) <|
 .ret (z2.1.set ((r1 - 1).toNat) (UInt8.ofNat w4.toNat), ((List.replicate r1.toNat 0 : List UInt8)).length)
def wire_Put (N : Nat) (a0 : Int) : Option (List UInt8 × Nat) := (wire_Put_t N a0).run some
def wire_Put_L (N : Nat) : List (Nat × LEnt) := [(4, wire_Put_l4_s N)]
def wire_Put_s (N : Nat) : Ent := smF ⟨88, [], [.x (.i .u64)], [], []⟩ [(.i .u64)] (List UInt8 × Nat) (fun x => wire_Put N x.1) cs1 fun _ => wire_Put_o
theorem wire_Put_ok (N : Nat) : SmOK Tryz.prog (wire_Put_s N) :=
  fn_ok (H := wire_Put_H) (L := lenv (wire_Put_L N)) (ts := [(.i .u64)]) (T := fun x => wire_Put_t N x.1) 0 Tryz_F88 (wire_Put_Eok N) (lenv_ok (by kernel_rfl) ⟨wire_Put_l4_ok N, trivial⟩) (rg0 (by kernel_rfl)) fun x => by kernel_rfl
noncomputable def Tryz_b89 : Code := Tryz.f89.body.getD .skip
theorem Tryz_F89 : FnF Tryz.prog 89 Tryz.f89 Tryz_b89 := ⟨Tryz_draw, by kernel_rfl, by kernel_rfl, by kernel_rfl⟩
def stamp_Put_H : TH := { live := [(0, [1]), (1, [1, 6]), (2, [2, 3]), (3, [2, 3])], fresh := [15] }
def stamp_Put_E (N : Nat) : List Ent := [stamp_May_s, wire_Put_s N]
theorem stamp_Put_Eok (N : Nat) : SmAll Tryz.prog (stamp_Put_E N) := ⟨stamp_May_ok, wire_Put_ok N, trivial⟩
def stamp_Put_o (z : List UInt8 × Bool) : TV × THp := (.tup [.tv .bl (z.1 : List UInt8), xb z.2], [])
def stamp_Put_t (N : Nat) (a0 : T_api_Stamp) : Tree (List UInt8 × Bool) :=
 .bind (stamp_May a0) fun r1 =>
 .cond (!r1) (
 .ret ([], false)) <|
 .chk (0 ≤ (3 : Int)) <|
 let w2 : Int := uShl .u64 (IntKind.u64.wrap (T_api_Stamp.N a0)) 3
 let w3 : Int := uOr .u64 w2 (IntKind.u64.wrap (T_api_Stamp.Rep a0))
 .bind (wire_Put N w3) fun r4 =>
 .chk (r4.1.length = r4.2) <|
 .ret (r4.1, true)
def stamp_Put (N : Nat) (a0 : T_api_Stamp) : Option (List UInt8 × Bool) := (stamp_Put_t N a0).run some
def stamp_Put_L (N : Nat) : List (Nat × LEnt) := []
def stamp_Put_s (N : Nat) : Ent := smF ⟨89, [], [.x t_api_Stamp], [], []⟩ [t_api_Stamp] (List UInt8 × Bool) (fun x => stamp_Put N x.1) cs1 fun _ => stamp_Put_o
theorem stamp_Put_ok (N : Nat) : SmOK Tryz.prog (stamp_Put_s N) :=
  fn_ok (H := stamp_Put_H) (L := lenv (stamp_Put_L N)) (ts := [t_api_Stamp]) (T := fun x => stamp_Put_t N x.1) 0 Tryz_F89 (stamp_Put_Eok N) (lenv_ok (by kernel_rfl) trivial) (rg0 (by kernel_rfl)) fun x => by kernel_rfl
def stamp_Put_2_H : TH := { live := [(0, [1]), (1, [1, 6]), (2, [2, 3]), (3, [2, 3])], fresh := [15], esc := true }
def stamp_Put_2_E (N : Nat) : List Ent := [stamp_May_s, wire_Put_s N]
theorem stamp_Put_2_Eok (N : Nat) : SmAll Tryz.prog (stamp_Put_2_E N) := ⟨stamp_May_ok, wire_Put_ok N, trivial⟩
def stamp_Put_2_o : Unit ⊕ (List UInt8 × Nat) → TV × THp
 | .inl z => (.tup [.nils, .bc false], [])
 | .inr z => (.tup [.v 100090 z.2, .bc true], [(100090, .vec false 1 .bl (z.1 : List UInt8))])
def stamp_Put_2_t (N : Nat) (a0 : T_api_Stamp) : Tree (Unit ⊕ (List UInt8 × Nat)) :=
 .bind (stamp_May a0) fun r1 =>
 .cond (!r1) (
 .ret (.inl ())) <|
 .chk (0 ≤ (3 : Int)) <|
 let w2 : Int := uShl .u64 (IntKind.u64.wrap (T_api_Stamp.N a0)) 3
 let w3 : Int := uOr .u64 w2 (IntKind.u64.wrap (T_api_Stamp.Rep a0))
 .bind (wire_Put N w3) fun r4 =>
 .ret (.inr ((r4.1, r4.2)))
def stamp_Put_2 (N : Nat) (a0 : T_api_Stamp) : Option (Unit ⊕ (List UInt8 × Nat)) := (stamp_Put_2_t N a0).run some
def stamp_Put_2_L (N : Nat) : List (Nat × LEnt) := []
def stamp_Put_2_s (N : Nat) : Ent := smF ⟨89, [], [.x t_api_Stamp], [], []⟩ [t_api_Stamp] (Unit ⊕ (List UInt8 × Nat)) (fun x => stamp_Put_2 N x.1) (csS cs1) fun _ => stamp_Put_2_o
theorem stamp_Put_2_ok (N : Nat) : SmOK Tryz.prog (stamp_Put_2_s N) :=
  fn_ok (H := stamp_Put_2_H) (L := lenv (stamp_Put_2_L N)) (ts := [t_api_Stamp]) (T := fun x => stamp_Put_2_t N x.1) 0 Tryz_F89 (stamp_Put_2_Eok N) (lenv_ok (by kernel_rfl) trivial) (rg0 (by kernel_rfl)) fun x => by kernel_rfl
noncomputable def Tryz_b111 : Code := Tryz.f111.body.getD .skip
theorem Tryz_F111 : FnF Tryz.prog 111 Tryz.f111 Tryz_b111 := ⟨Tryz_draw, by kernel_rfl, by kernel_rfl, by kernel_rfl⟩
def wire_Text_H : TH := { live := [(0, [0]), (1, [2])], fresh := [6] }
def wire_Text_E (N : Nat) : List Ent := [wire_Put_s N]
theorem wire_Text_Eok (N : Nat) : SmAll Tryz.prog (wire_Text_E N) := ⟨wire_Put_ok N, trivial⟩
def wire_Text_o (z : List UInt8) : TV × THp := (.tv .bl z, [])
def wire_Text_t (N : Nat) (a0 : List UInt8) : Tree (List UInt8) :=
 let w1 : Int := IntKind.u64.wrap ((a0.length : Nat) : Int)
 .bind (wire_Put N w1) fun r2 =>
 .chk (avOK r2.1.length r2.2 ((r2.1 ++ a0).length) 1) <|
 .chk ((r2.1 ++ a0).length = (r2.1 ++ a0).length) <|
 .ret (r2.1 ++ a0)
def wire_Text (N : Nat) (a0 : List UInt8) : Option (List UInt8) := (wire_Text_t N a0).run some
def wire_Text_L (N : Nat) : List (Nat × LEnt) := []
def wire_Text_s (N : Nat) : Ent := smF ⟨111, [], [.x .s], [], []⟩ [.s] (List UInt8) (fun x => wire_Text N x.1) cs1 fun _ => wire_Text_o
theorem wire_Text_ok (N : Nat) : SmOK Tryz.prog (wire_Text_s N) :=
  fn_ok (H := wire_Text_H) (L := lenv (wire_Text_L N)) (ts := [.s]) (T := fun x => wire_Text_t N x.1) 0 Tryz_F111 (wire_Text_Eok N) (lenv_ok (by kernel_rfl) trivial) (rg0 (by kernel_rfl)) fun x => by kernel_rfl
noncomputable def Tryz_b90 : Code := Tryz.f90.body.getD .skip
theorem Tryz_F90 : FnF Tryz.prog 90 Tryz.f90 Tryz_b90 := ⟨Tryz_draw, by kernel_rfl, by kernel_rfl, by kernel_rfl⟩
def cell_Put_H : TH := { live := [(0, [1]), (1, [1, 8]), (2, [2, 3]), (3, [1, 4]), (4, [2, 3])], fresh := [12], nil := [(3, [⟨.sl 4, 45, .bl⟩])] }
def cell_Put_E (N : Nat) : List Ent := [cell_May_s, stamp_Put_2_s N, wire_Text_s N]
theorem cell_Put_Eok (N : Nat) : SmAll Tryz.prog (cell_Put_E N) := ⟨cell_May_ok, stamp_Put_2_ok N, wire_Text_ok N, trivial⟩
def cell_Put_o (z : List UInt8 × Bool) : TV × THp := (.tup [.tv .bl (z.1 : List UInt8), xb z.2], [])
def cell_Put_t (N : Nat) (a0 : T_api_Cell) : Tree (List UInt8 × Bool) :=
 .bind (cell_May a0) fun r1 =>
 .cond (!r1) (
 .ret ([], false)) <|
 .bind (stamp_Put_2 N (T_api_Cell.S a0)) fun r2 =>
 .sum r2 (fun r3 =>
 .bind (wire_Text N (T_api_Cell.V a0)) fun r4 =>
 .chk (avOK ((([] : List UInt8)).length) 0 (((([] : List UInt8)) ++ r4).length) 1) <|
 .chk (((([] : List UInt8)) ++ r4).length = ((([] : List UInt8)) ++ r4).length) <|
 .ret ((([] : List UInt8)) ++ r4, true)) fun r3 =>
 .bind (wire_Text N (T_api_Cell.V a0)) fun r4 =>
 .chk (avOK r3.1.length r3.2 ((r3.1 ++ r4).length) 1) <|
 .chk ((r3.1 ++ r4).length = (r3.1 ++ r4).length) <|
 .ret (r3.1 ++ r4, true)
def cell_Put (N : Nat) (a0 : T_api_Cell) : Option (List UInt8 × Bool) := (cell_Put_t N a0).run some
def cell_Put_L (N : Nat) : List (Nat × LEnt) := []
def cell_Put_s (N : Nat) : Ent := smF ⟨90, [], [.x t_api_Cell], [], []⟩ [t_api_Cell] (List UInt8 × Bool) (fun x => cell_Put N x.1) cs1 fun _ => cell_Put_o
theorem cell_Put_ok (N : Nat) : SmOK Tryz.prog (cell_Put_s N) :=
  fn_ok (H := cell_Put_H) (L := lenv (cell_Put_L N)) (ts := [t_api_Cell]) (T := fun x => cell_Put_t N x.1) 0 Tryz_F90 (cell_Put_Eok N) (lenv_ok (by kernel_rfl) trivial) (rg0 (by kernel_rfl)) fun x => by kernel_rfl
noncomputable def Tryz_b65 : Code := Tryz.f65.body.getD .skip
theorem Tryz_F65 : FnF Tryz.prog 65 Tryz.f65 Tryz_b65 := ⟨Tryz_draw, by kernel_rfl, by kernel_rfl, by kernel_rfl⟩
def canon_Put_H : TH := { live := [(0, [1]), (1, [1, 15]), (2, [2, 3]), (3, [1, 4]), (4, [4, 22, 23, 24]), (5, [4, 22, 23, 24, 25]), (6, [4, 6, 22, 23, 24]), (7, [4, 6, 7, 22, 23, 24]), (8, [4, 6, 22, 23, 24]), (9, [4, 22, 23, 24, 47, 48, 49]), (10, [4, 22, 23, 24, 47, 48, 49, 50]), (11, [4, 10, 22, 23, 24, 47, 48, 49]), (12, [4, 10, 11, 22, 23, 24, 47, 48, 49]), (13, [4, 22, 23, 24, 47, 48, 49]), (14, [4, 22, 23, 24, 47, 48, 49]), (15, [4, 22, 23, 24]), (16, [2, 3])], fresh := [20], rd := [(6, [6]), (11, [10])] }
def canon_Put_E (N : Nat) : List Ent := [book_May_s N, wire_Put_s N, stamp_Put_s N, cell_Put_s N]
theorem canon_Put_Eok (N : Nat) : SmAll Tryz.prog (canon_Put_E N) := ⟨book_May_ok N, wire_Put_ok N, stamp_Put_ok N, cell_Put_ok N, trivial⟩
abbrev canon_Put_l10_F := List T_api_Rec × Int × Int × List T_api_Field × Int
abbrev canon_Put_l10_Y := List UInt8 × Nat × Int × Bool
def canon_Put_l10_o (f : canon_Put_l10_F) (y : canon_Put_l10_Y) : Ex × TSt := (.exit 2, ⟨0, 70, [], [(4, .v 100090 y.2.1), (22, .tv (.sl 19 t_api_Rec) f.1), (23, xi f.2.1), (24, xi f.2.2.1), (47, .tv (.sl 4 t_api_Field) f.2.2.2.1), (48, xi f.2.2.2.2), (49, xi y.2.2.1), (50, xb y.2.2.2)], [(100090, .vec false 1 .bl (y.1 : List UInt8))], false, []⟩)
def canon_Put_l10_L (N : Nat) : List (Nat × LEnt) := []
abbrev canon_Put_l10_V := List UInt8 × Nat × Int
def canon_Put_l10_p : SP := ⟨0, 70, [], [(4, .v 100090), (22, .x (.sl 19 t_api_Rec)), (23, .x (.i .i64)), (24, .x (.i .i64)), (47, .x (.sl 4 t_api_Field)), (48, .x (.i .i64)), (49, .x (.i .i64))], [(100090, .vec false 1)], false, []⟩
def canon_Put_l10_h (f : canon_Put_l10_F) (v : canon_Put_l10_V) : TSt := fillS canon_Put_l10_p [dv .bl v.1, dv .nat v.2.1, dv (.sl 19 t_api_Rec) f.1, dv (.i .i64) f.2.1, dv (.i .i64) f.2.2.1, dv (.sl 4 t_api_Field) f.2.2.2.1, dv (.i .i64) f.2.2.2.2, dv (.i .i64) v.2.2]
def canon_Put_l10_t (N : Nat) (s22_10 : List T_api_Rec) (s23_10 : Int) (s24_10 : Int) (s47_10 : List T_api_Field) (s48_10 : Int) (v : canon_Put_l10_V) : Tree (canon_Put_l10_V ⊕ canon_Put_l10_Y) :=
 .cond (decide (v.2.2 < s48_10)) (
 .bind (getI s47_10 v.2.2) fun e1 =>
 .bind (cell_Put N (T_api_Field.C e1)) fun r2 =>
 .chk (inB (IntKind.u8.wrap (T_api_Field.No e1))) <|
 .chk (avOK v.1.length v.2.1 ((v.1 ++ [UInt8.ofNat (IntKind.u8.wrap (T_api_Field.No e1)).toNat]).length) 1) <|
 .chk (avOK ((v.1 ++ [UInt8.ofNat (IntKind.u8.wrap (T_api_Field.No e1)).toNat]).length) ((v.1 ++ [UInt8.ofNat (IntKind.u8.wrap (T_api_Field.No e1)).toNat]).length) (((v.1 ++ [UInt8.ofNat (IntKind.u8.wrap (T_api_Field.No e1)).toNat]) ++ r2.1).length) 1) <|
 .chk (in64 (v.2.2 + 1)) <|
 .ret (.inl ((v.1 ++ [UInt8.ofNat (IntKind.u8.wrap (T_api_Field.No e1)).toNat]) ++ r2.1, ((v.1 ++ [UInt8.ofNat (IntKind.u8.wrap (T_api_Field.No e1)).toNat]) ++ r2.1).length, v.2.2 + 1))) <|
 .ret (.inr (v.1, v.2.1, v.2.2, decide (v.2.2 < s48_10)))
def canon_Put_l10_n (N n : Nat) (f : canon_Put_l10_F) (v : canon_Put_l10_V) : Option canon_Put_l10_Y := loopG (canon_Put_l10_t N f.1 f.2.1 f.2.2.1 f.2.2.2.1 f.2.2.2.2) some n v
theorem canon_Put_l10_q (N : Nat) (f : canon_Put_l10_F) (n : Nat) (v : canon_Put_l10_V) (y : canon_Put_l10_Y) (h : canon_Put_l10_n N n f v = some y) : LG Tryz.prog canon_Put_H 65 (lookC (lookC Tryz_b65 5) 10) (canon_Put_l10_h f v) (canon_Put_l10_o f y) :=
  loop_g Tryz_draw (E := canon_Put_E N) (L := lenv (canon_Put_l10_L N)) (st := canon_Put_l10_o f) (g := some) (R := canon_Put_l10_o f) (canon_Put_Eok N) (lenv_ok (by kernel_rfl) trivial) (rg0 (by kernel_rfl)) (fun v => by kernel_rfl) (good_self (st := canon_Put_l10_o f) fun y => by rfl) n v y h
def canon_Put_l10 (N : Nat) (s22_10 : List T_api_Rec) (s23_10 : Int) (s24_10 : Int) (s47_10 : List T_api_Field) (s48_10 : Int) (o_10 : List UInt8) (s4_10 : Nat) (s49_10 : Int) : Option canon_Put_l10_Y := canon_Put_l10_n N N (s22_10, s23_10, s24_10, s47_10, s48_10) (o_10, s4_10, s49_10)
def canon_Put_l10_s (N : Nat) : LEnt := smL canon_Put_l10_p [.bl, .nat, (.sl 19 t_api_Rec), (.i .i64), (.i .i64), (.sl 4 t_api_Field), (.i .i64), (.i .i64)] canon_Put_l10_Y (fun x => canon_Put_l10 N x.2.2.1 x.2.2.2.1 x.2.2.2.2.1 x.2.2.2.2.2.1 x.2.2.2.2.2.2.1 x.1 x.2.1 x.2.2.2.2.2.2.2.1) cs1 fun x => canon_Put_l10_o (x.2.2.1, x.2.2.2.1, x.2.2.2.2.1, x.2.2.2.2.2.1, x.2.2.2.2.2.2.1)
theorem canon_Put_l10_ok (N : Nat) : LsOK Tryz.prog canon_Put_H 65 (lookC (lookC Tryz_b65 5) 10) (canon_Put_l10_s N) := smL_ok fun x z h => canon_Put_l10_q N (x.2.2.1, x.2.2.2.1, x.2.2.2.2.1, x.2.2.2.2.2.1, x.2.2.2.2.2.2.1) N (x.1, x.2.1, x.2.2.2.2.2.2.2.1) z h
abbrev canon_Put_l5_F := List T_api_Rec × Int
abbrev canon_Put_l5_Y := List UInt8 × Nat × Int × Bool
def canon_Put_l5_o (f : canon_Put_l5_F) (y : canon_Put_l5_Y) : Ex × TSt := (.exit 0, ⟨0, 70, [], [(4, .v 100090 y.2.1), (22, .tv (.sl 19 t_api_Rec) f.1), (23, xi f.2), (24, xi y.2.2.1), (25, xb y.2.2.2)], [(100090, .vec false 1 .bl (y.1 : List UInt8))], false, []⟩)
def canon_Put_l5_L (N : Nat) : List (Nat × LEnt) := [(10, canon_Put_l10_s N)]
abbrev canon_Put_l5_V := List UInt8 × Nat × Int
def canon_Put_l5_p : SP := ⟨0, 70, [], [(4, .v 100090), (22, .x (.sl 19 t_api_Rec)), (23, .x (.i .i64)), (24, .x (.i .i64))], [(100090, .vec false 1)], false, []⟩
def canon_Put_l5_h (f : canon_Put_l5_F) (v : canon_Put_l5_V) : TSt := fillS canon_Put_l5_p [dv .bl v.1, dv .nat v.2.1, dv (.sl 19 t_api_Rec) f.1, dv (.i .i64) f.2, dv (.i .i64) v.2.2]
def canon_Put_l5_t (N : Nat) (s22_5 : List T_api_Rec) (s23_5 : Int) (v : canon_Put_l5_V) : Tree (canon_Put_l5_V ⊕ canon_Put_l5_Y) :=
 .cond (decide (v.2.2 < s23_5)) (
 .bind (getI s22_5 v.2.2) fun e1 =>
 .bind (stamp_Put N (T_api_Rec.Dead e1)) fun r2 =>
 .chk (avOK v.1.length v.2.1 ((v.1 ++ ((T_api_Rec.ID e1).toList)).length) 1) <|
 .chk (avOK ((v.1 ++ ((T_api_Rec.ID e1).toList)).length) ((v.1 ++ ((T_api_Rec.ID e1).toList)).length) (((v.1 ++ ((T_api_Rec.ID e1).toList)) ++ r2.1).length) 1) <|
 let w3 : Int := IntKind.u64.wrap (((T_api_Rec.F e1).length : Nat) : Int)
 .bind (wire_Put N w3) fun r4 =>
 .chk (r4.1.length = r4.2) <|
 .chk (avOK (((v.1 ++ ((T_api_Rec.ID e1).toList)) ++ r2.1).length) (((v.1 ++ ((T_api_Rec.ID e1).toList)) ++ r2.1).length) ((((v.1 ++ ((T_api_Rec.ID e1).toList)) ++ r2.1) ++ r4.1).length) 1) <|
 .bind (canon_Put_l10 N s22_5 s23_5 v.2.2 (T_api_Rec.F e1) (((T_api_Rec.F e1).length : Nat) : Int) (((v.1 ++ ((T_api_Rec.ID e1).toList)) ++ r2.1) ++ r4.1) ((((v.1 ++ ((T_api_Rec.ID e1).toList)) ++ r2.1) ++ r4.1).length) 0) fun z5 =>
 .chk (in64 (v.2.2 + 1)) <|
 .ret (.inl (z5.1, z5.2.1, v.2.2 + 1))) <|
 .ret (.inr (v.1, v.2.1, v.2.2, decide (v.2.2 < s23_5)))
def canon_Put_l5_n (N n : Nat) (f : canon_Put_l5_F) (v : canon_Put_l5_V) : Option canon_Put_l5_Y := loopG (canon_Put_l5_t N f.1 f.2) some n v
theorem canon_Put_l5_q (N : Nat) (f : canon_Put_l5_F) (n : Nat) (v : canon_Put_l5_V) (y : canon_Put_l5_Y) (h : canon_Put_l5_n N n f v = some y) : LG Tryz.prog canon_Put_H 65 (lookC Tryz_b65 5) (canon_Put_l5_h f v) (canon_Put_l5_o f y) :=
  loop_g Tryz_draw (E := canon_Put_E N) (L := lenv (canon_Put_l5_L N)) (st := canon_Put_l5_o f) (g := some) (R := canon_Put_l5_o f) (canon_Put_Eok N) (lenv_ok (by kernel_rfl) ⟨canon_Put_l10_ok N, trivial⟩) (rg0 (by kernel_rfl)) (fun v => by kernel_rfl) (good_self (st := canon_Put_l5_o f) fun y => by rfl) n v y h
def canon_Put_l5 (N : Nat) (s22_5 : List T_api_Rec) (s23_5 : Int) (o_5 : List UInt8) (s4_5 : Nat) (s24_5 : Int) : Option canon_Put_l5_Y := canon_Put_l5_n N N (s22_5, s23_5) (o_5, s4_5, s24_5)
def canon_Put_l5_s (N : Nat) : LEnt := smL canon_Put_l5_p [.bl, .nat, (.sl 19 t_api_Rec), (.i .i64), (.i .i64)] canon_Put_l5_Y (fun x => canon_Put_l5 N x.2.2.1 x.2.2.2.1 x.1 x.2.1 x.2.2.2.2.1) cs1 fun x => canon_Put_l5_o (x.2.2.1, x.2.2.2.1)
theorem canon_Put_l5_ok (N : Nat) : LsOK Tryz.prog canon_Put_H 65 (lookC Tryz_b65 5) (canon_Put_l5_s N) := smL_ok fun x z h => canon_Put_l5_q N (x.2.2.1, x.2.2.2.1) N (x.1, x.2.1, x.2.2.2.2.1) z h
def canon_Put_o (z : List UInt8 × Bool) : TV × THp := (.tup [.tv .bl (z.1 : List UInt8), xb z.2], [])
def canon_Put_t (N : Nat) (a0 : T_api_Book) : Tree (List UInt8 × Bool) :=
 .bind (book_May N a0) fun r1 =>
 .cond (!r1) (
 .ret ([], false)) <|
 let w2 : Int := IntKind.u64.wrap (((T_api_Book.R a0).length : Nat) : Int)
 .bind (wire_Put N w2) fun r3 =>
 .bind (canon_Put_l5 N (T_api_Book.R a0) (((T_api_Book.R a0).length : Nat) : Int) r3.1 r3.2 0) fun z4 =>
 .chk (z4.1.length = z4.2.1) <|
 .ret (z4.1, true)
def canon_Put (N : Nat) (a0 : T_api_Book) : Option (List UInt8 × Bool) := (canon_Put_t N a0).run some
def canon_Put_L (N : Nat) : List (Nat × LEnt) := [(5, canon_Put_l5_s N)]
def canon_Put_s (N : Nat) : Ent := smF ⟨65, [], [.x t_api_Book], [], []⟩ [t_api_Book] (List UInt8 × Bool) (fun x => canon_Put N x.1) cs1 fun _ => canon_Put_o
theorem canon_Put_ok (N : Nat) : SmOK Tryz.prog (canon_Put_s N) :=
  fn_ok (H := canon_Put_H) (L := lenv (canon_Put_L N)) (ts := [t_api_Book]) (T := fun x => canon_Put_t N x.1) 0 Tryz_F65 (canon_Put_Eok N) (lenv_ok (by kernel_rfl) ⟨canon_Put_l5_ok N, trivial⟩) (rg0 (by kernel_rfl)) fun x => by kernel_rfl
noncomputable def Tryz_b30 : Code := Tryz.f30.body.getD .skip
theorem Tryz_F30 : FnF Tryz.prog 30 Tryz.f30 Tryz_b30 := ⟨Tryz_draw, by kernel_rfl, by kernel_rfl, by kernel_rfl⟩
def canon_Digest_H : TH := { live := [(0, [1, 2]), (1, [2, 3]), (2, [2])] }
def canon_Digest_E (N : Nat) : List Ent := [canon_Put_s N, sha_Sum_s N]
theorem canon_Digest_Eok (N : Nat) : SmAll Tryz.prog (canon_Digest_E N) := ⟨canon_Put_ok N, sha_Sum_ok N, trivial⟩
def canon_Digest_o (z : Vector UInt8 32) : TV × THp := (.tv (.ba 32) z, [])
def canon_Digest_t (N : Nat) (a0 : T_api_Book) : Tree (Vector UInt8 32) :=
 .bind (canon_Put N a0) fun r1 =>
 .bind (sha_Sum N r1.1) fun r2 =>
 .ret r2
def canon_Digest (N : Nat) (a0 : T_api_Book) : Option (Vector UInt8 32) := (canon_Digest_t N a0).run some
def canon_Digest_L (N : Nat) : List (Nat × LEnt) := []
def canon_Digest_s (N : Nat) : Ent := smF ⟨30, [], [.x t_api_Book], [], []⟩ [t_api_Book] (Vector UInt8 32) (fun x => canon_Digest N x.1) cs1 fun _ => canon_Digest_o
theorem canon_Digest_ok (N : Nat) : SmOK Tryz.prog (canon_Digest_s N) :=
  fn_ok (H := canon_Digest_H) (L := lenv (canon_Digest_L N)) (ts := [t_api_Book]) (T := fun x => canon_Digest_t N x.1) 0 Tryz_F30 (canon_Digest_Eok N) (lenv_ok (by kernel_rfl) trivial) (rg0 (by kernel_rfl)) fun x => by kernel_rfl
noncomputable def Tryz_b33 : Code := Tryz.f33.body.getD .skip
theorem Tryz_F33 : FnF Tryz.prog 33 Tryz.f33 Tryz_b33 := ⟨Tryz_draw, by kernel_rfl, by kernel_rfl, by kernel_rfl⟩
def sha_Of_H : TH := { live := [(0, [0, 2]), (1, [2])] }
def sha_Of_E (N : Nat) : List Ent := [sha_Sum_s N]
theorem sha_Of_Eok (N : Nat) : SmAll Tryz.prog (sha_Of_E N) := ⟨sha_Sum_ok N, trivial⟩
def sha_Of_o (z : Vector UInt8 32) : TV × THp := (.tv (.ba 32) z, [])
def sha_Of_t (N : Nat) (a0 : List UInt8) : Tree (Vector UInt8 32) :=
 .chk (lenOK (a0 : List UInt8).length) <|
 .bind (sha_Sum N a0) fun r1 =>
 .ret r1
def sha_Of (N : Nat) (a0 : List UInt8) : Option (Vector UInt8 32) := (sha_Of_t N a0).run some
def sha_Of_L (N : Nat) : List (Nat × LEnt) := []
def sha_Of_s (N : Nat) : Ent := smF ⟨33, [], [.x .s], [], []⟩ [.s] (Vector UInt8 32) (fun x => sha_Of N x.1) cs1 fun _ => sha_Of_o
theorem sha_Of_ok (N : Nat) : SmOK Tryz.prog (sha_Of_s N) :=
  fn_ok (H := sha_Of_H) (L := lenv (sha_Of_L N)) (ts := [.s]) (T := fun x => sha_Of_t N x.1) 0 Tryz_F33 (sha_Of_Eok N) (lenv_ok (by kernel_rfl) trivial) (rg0 (by kernel_rfl)) fun x => by kernel_rfl
noncomputable def Tryz_b112 : Code := Tryz.f112.body.getD .skip
theorem Tryz_F112 : FnF Tryz.prog 112 Tryz.f112 Tryz_b112 := ⟨Tryz_draw, by kernel_rfl, by kernel_rfl, by kernel_rfl⟩
def roll_pair_H : TH := { live := [(0, [0, 1]), (1, [4])] }
def roll_pair_E (N : Nat) : List Ent := []
theorem roll_pair_Eok (N : Nat) : SmAll Tryz.prog (roll_pair_E N) := trivial
def roll_pair_o (z : Int) : TV × THp := (.tv (.i .u32) z, [])
def roll_pair_t (a0 : Int) (a1 : Int) : Tree (Int) :=
 .chk (0 ≤ (16 : Int)) <|
 let w1 : Int := uOr .u32 (uShl .u32 (IntKind.u32.wrap a1) 16) (IntKind.u32.wrap a0)
 .ret w1
def roll_pair (a0 : Int) (a1 : Int) : Option (Int) := (roll_pair_t a0 a1).run some
def roll_pair_L : List (Nat × LEnt) := []
def roll_pair_s : Ent := smF ⟨112, [], [.x (.i .u16), .x (.i .u16)], [], []⟩ [(.i .u16), (.i .u16)] (Int) (fun x => roll_pair x.1 x.2.1) cs1 fun _ => roll_pair_o
theorem roll_pair_ok : SmOK Tryz.prog (roll_pair_s) :=
  fn_ok (H := roll_pair_H) (L := lenv (roll_pair_L)) (ts := [(.i .u16), (.i .u16)]) (T := fun x => roll_pair_t x.1 x.2.1) 0 Tryz_F112 (roll_pair_Eok 0) (lenv_ok (by kernel_rfl) trivial) (rg0 (by kernel_rfl)) fun x => by kernel_rfl
noncomputable def Tryz_b91 : Code := Tryz.f91.body.getD .skip
theorem Tryz_F91 : FnF Tryz.prog 91 Tryz.f91 Tryz_b91 := ⟨Tryz_draw, by kernel_rfl, by kernel_rfl, by kernel_rfl⟩
def roll_Sum_H : TH := { live := [(0, [0]), (1, [0, 3, 4]), (2, [0, 3, 4, 7, 8]), (3, [0, 3, 4, 7, 8, 9]), (4, [0, 3, 4, 5, 7, 8]), (5, [0, 3, 4, 7, 8]), (6, [0, 3, 4, 7, 8]), (7, [0, 3, 4, 7, 8]), (8, [2])] }
def roll_Sum_E (N : Nat) : List Ent := [roll_pair_s]
theorem roll_Sum_Eok (N : Nat) : SmAll Tryz.prog (roll_Sum_E N) := ⟨roll_pair_ok, trivial⟩
abbrev roll_Sum_l3_F := List UInt8 × Int
abbrev roll_Sum_l3_Y := Int × Int × Int × Bool
def roll_Sum_l3_o (f : roll_Sum_l3_F) (y : roll_Sum_l3_Y) : Ex × TSt := (.exit 0, ⟨0, 24, [], [(0, .tv .s f.1), (3, .tv (.i .u16) (y.1 : Int)), (4, .tv (.i .u16) (y.2.1 : Int)), (7, xi f.2), (8, xi y.2.2.1), (9, xb y.2.2.2)], [], false, []⟩)
def roll_Sum_l3_L (N : Nat) : List (Nat × LEnt) := []
abbrev roll_Sum_l3_V := Int × Int × Int
def roll_Sum_l3_p : SP := ⟨0, 24, [], [(0, .x .s), (3, .x (.i .u16)), (4, .x (.i .u16)), (7, .x (.i .i64)), (8, .x (.i .i64))], [], false, []⟩
def roll_Sum_l3_h (f : roll_Sum_l3_F) (v : roll_Sum_l3_V) : TSt := fillS roll_Sum_l3_p [dv .s f.1, dv (.i .u16) v.1, dv (.i .u16) v.2.1, dv (.i .i64) f.2, dv (.i .i64) v.2.2]
def roll_Sum_l3_t (N : Nat) (s0_3 : List UInt8) (s7_3 : Int) (v : roll_Sum_l3_V) : Tree (roll_Sum_l3_V ⊕ roll_Sum_l3_Y) :=
 .cond (decide (v.2.2 < s7_3)) (
 .bind (getI s0_3 v.2.2) fun e1 =>
 let w2 : Int := IntKind.u16.wrap ((e1.toNat : Nat) : Int)
 .chk (in64 (v.2.2 + 1)) <|
 .ret (.inl (uAdd .u16 v.1 w2, uAdd .u16 v.2.1 (uAdd .u16 v.1 w2), v.2.2 + 1))) <|
 .ret (.inr (v.1, v.2.1, v.2.2, decide (v.2.2 < s7_3)))
def roll_Sum_l3_n (N n : Nat) (f : roll_Sum_l3_F) (v : roll_Sum_l3_V) : Option roll_Sum_l3_Y := loopG (roll_Sum_l3_t N f.1 f.2) some n v
theorem roll_Sum_l3_q (N : Nat) (f : roll_Sum_l3_F) (n : Nat) (v : roll_Sum_l3_V) (y : roll_Sum_l3_Y) (h : roll_Sum_l3_n N n f v = some y) : LG Tryz.prog roll_Sum_H 91 (lookC Tryz_b91 3) (roll_Sum_l3_h f v) (roll_Sum_l3_o f y) :=
  loop_g Tryz_draw (E := roll_Sum_E N) (L := lenv (roll_Sum_l3_L N)) (st := roll_Sum_l3_o f) (g := some) (R := roll_Sum_l3_o f) (roll_Sum_Eok N) (lenv_ok (by kernel_rfl) trivial) (rg0 (by kernel_rfl)) (fun v => by kernel_rfl) (good_self (st := roll_Sum_l3_o f) fun y => by rfl) n v y h
def roll_Sum_l3 (N : Nat) (s0_3 : List UInt8) (s7_3 : Int) (s3_3 : Int) (s4_3 : Int) (s8_3 : Int) : Option roll_Sum_l3_Y := roll_Sum_l3_n N N (s0_3, s7_3) (s3_3, s4_3, s8_3)
def roll_Sum_l3_s (N : Nat) : LEnt := smL roll_Sum_l3_p [.s, (.i .u16), (.i .u16), (.i .i64), (.i .i64)] roll_Sum_l3_Y (fun x => roll_Sum_l3 N x.1 x.2.2.2.1 x.2.1 x.2.2.1 x.2.2.2.2.1) cs1 fun x => roll_Sum_l3_o (x.1, x.2.2.2.1)
theorem roll_Sum_l3_ok (N : Nat) : LsOK Tryz.prog roll_Sum_H 91 (lookC Tryz_b91 3) (roll_Sum_l3_s N) := smL_ok fun x z h => roll_Sum_l3_q N (x.1, x.2.2.2.1) N (x.2.1, x.2.2.1, x.2.2.2.2.1) z h
def roll_Sum_o (z : Int) : TV × THp := (.tv (.i .u32) z, [])
def roll_Sum_t (N : Nat) (a0 : List UInt8) : Tree (Int) :=
 .bind (roll_Sum_l3 N a0 ((a0.length : Nat) : Int) 0 0 0) fun z1 =>
 .bind (roll_pair z1.1 z1.2.1) fun r2 =>
 .ret r2
def roll_Sum (N : Nat) (a0 : List UInt8) : Option (Int) := (roll_Sum_t N a0).run some
def roll_Sum_L (N : Nat) : List (Nat × LEnt) := [(3, roll_Sum_l3_s N)]
def roll_Sum_s (N : Nat) : Ent := smF ⟨91, [], [.x .s], [], []⟩ [.s] (Int) (fun x => roll_Sum N x.1) cs1 fun _ => roll_Sum_o
theorem roll_Sum_ok (N : Nat) : SmOK Tryz.prog (roll_Sum_s N) :=
  fn_ok (H := roll_Sum_H) (L := lenv (roll_Sum_L N)) (ts := [.s]) (T := fun x => roll_Sum_t N x.1) 0 Tryz_F91 (roll_Sum_Eok N) (lenv_ok (by kernel_rfl) ⟨roll_Sum_l3_ok N, trivial⟩) (rg0 (by kernel_rfl)) fun x => by kernel_rfl
noncomputable def Tryz_b66 : Code := Tryz.f66.body.getD .skip
theorem Tryz_F66 : FnF Tryz.prog 66 Tryz.f66 Tryz_b66 := ⟨Tryz_draw, by kernel_rfl, by kernel_rfl, by kernel_rfl⟩
def sign_One_H : TH := { live := [(0, [0, 2]), (1, [2])] }
def sign_One_E (N : Nat) : List Ent := [roll_Sum_s N, sha_Of_s N]
theorem sign_One_Eok (N : Nat) : SmAll Tryz.prog (sign_One_E N) := ⟨roll_Sum_ok N, sha_Of_ok N, trivial⟩
def sign_One_o (z : T_api_Sig) : TV × THp := (.tv t_api_Sig z, [])
def sign_One_t (N : Nat) (a0 : List UInt8) : Tree (T_api_Sig) :=
 .bind (roll_Sum N a0) fun r1 =>
 .bind (sha_Of N a0) fun r2 =>
 .ret (T_api_Sig.mk r1 r2)
def sign_One (N : Nat) (a0 : List UInt8) : Option (T_api_Sig) := (sign_One_t N a0).run some
def sign_One_L (N : Nat) : List (Nat × LEnt) := []
def sign_One_s (N : Nat) : Ent := smF ⟨66, [], [.x .s], [], []⟩ [.s] (T_api_Sig) (fun x => sign_One N x.1) cs1 fun _ => sign_One_o
theorem sign_One_ok (N : Nat) : SmOK Tryz.prog (sign_One_s N) :=
  fn_ok (H := sign_One_H) (L := lenv (sign_One_L N)) (ts := [.s]) (T := fun x => sign_One_t N x.1) 0 Tryz_F66 (sign_One_Eok N) (lenv_ok (by kernel_rfl) trivial) (rg0 (by kernel_rfl)) fun x => by kernel_rfl
noncomputable def Tryz_b32 : Code := Tryz.f32.body.getD .skip
theorem Tryz_F32 : FnF Tryz.prog 32 Tryz.f32 Tryz_b32 := ⟨Tryz_draw, by kernel_rfl, by kernel_rfl, by kernel_rfl⟩
def sign_Of_H : TH := { live := [(0, [0]), (1, [0, 6]), (2, [2]), (3, [0, 3]), (4, [0, 3, 9]), (5, [0, 3]), (6, [0, 3]), (7, [2])], nil := [(3, [⟨.sl 3, 35, (.sl 33 t_api_Sig)⟩])] }
def sign_Of_E (N : Nat) : List Ent := [sign_One_s N]
theorem sign_Of_Eok (N : Nat) : SmAll Tryz.prog (sign_Of_E N) := ⟨sign_One_ok N, trivial⟩
abbrev sign_Of_l4_F := Unit
abbrev sign_Of_l4_Y := List T_api_Sig × List UInt8 × Bool
def sign_Of_l4_o (f : sign_Of_l4_F) (y : sign_Of_l4_Y) : Ex × TSt := (.exit 0, ⟨0, 19, [], [(0, .tv .s (y.2.1 : List UInt8)), (3, .v 35 y.1.length), (9, xb y.2.2)], [(35, .vec false 33 (.sl 33 t_api_Sig) (y.1 : List T_api_Sig))], false, []⟩)
def sign_Of_l4_L (N : Nat) : List (Nat × LEnt) := []
abbrev sign_Of_l4_V := List T_api_Sig × List UInt8
def sign_Of_l4_p : SP := ⟨0, 19, [], [(0, .x .s), (3, .vs 35)], [(35, .vec false 33)], false, []⟩
def sign_Of_l4_h (f : sign_Of_l4_F) (v : sign_Of_l4_V) : TSt := fillS sign_Of_l4_p [dv (.sl 33 t_api_Sig) v.1, dv .s v.2]
def sign_Of_l4_t (N : Nat) (v : sign_Of_l4_V) : Tree (sign_Of_l4_V ⊕ sign_Of_l4_Y) :=
 .cond (decide (((8 : Int)) ≤ ((v.2.length : Nat) : Int))) (
 .chk (0 ≤ (0 : Int) ∧ (0 : Int) ≤ (8 : Int) ∧ (8 : Int) ≤ ((v.2.length : Nat) : Int)) <|
 .bind (sign_One N ((v.2.take 8).drop 0)) fun r1 =>
 .chk (avOK v.1.length v.1.length ((v.1 ++ [r1]).length) 36) <|
 .chk (0 ≤ (8 : Int) ∧ (8 : Int) ≤ ((v.2.length : Nat) : Int)) <|
 .ret (.inl (v.1 ++ [r1], v.2.drop 8))) <|
 .ret (.inr (v.1, v.2, decide (((8 : Int)) ≤ ((v.2.length : Nat) : Int))))
def sign_Of_l4_n (N n : Nat) (f : sign_Of_l4_F) (v : sign_Of_l4_V) : Option sign_Of_l4_Y := loopG (sign_Of_l4_t N) some n v
theorem sign_Of_l4_q (N : Nat) (f : sign_Of_l4_F) (n : Nat) (v : sign_Of_l4_V) (y : sign_Of_l4_Y) (h : sign_Of_l4_n N n f v = some y) : LG Tryz.prog sign_Of_H 32 (lookC Tryz_b32 4) (sign_Of_l4_h f v) (sign_Of_l4_o f y) :=
  loop_g Tryz_draw (E := sign_Of_E N) (L := lenv (sign_Of_l4_L N)) (st := sign_Of_l4_o f) (g := some) (R := sign_Of_l4_o f) (sign_Of_Eok N) (lenv_ok (by kernel_rfl) trivial) (rg0 (by kernel_rfl)) (fun v => by kernel_rfl) (good_self (st := sign_Of_l4_o f) fun y => by rfl) n v y h
def sign_Of_l4 (N : Nat) (o_4 : List T_api_Sig) (s0_4 : List UInt8) : Option sign_Of_l4_Y := sign_Of_l4_n N N () (o_4, s0_4)
def sign_Of_l4_s (N : Nat) : LEnt := smL sign_Of_l4_p [(.sl 33 t_api_Sig), .s] sign_Of_l4_Y (fun x => sign_Of_l4 N x.1 x.2.1) cs1 fun x => sign_Of_l4_o ()
theorem sign_Of_l4_ok (N : Nat) : LsOK Tryz.prog sign_Of_H 32 (lookC Tryz_b32 4) (sign_Of_l4_s N) := smL_ok fun x z h => sign_Of_l4_q N () N (x.1, x.2.1) z h
def sign_Of_o (z : List T_api_Sig) : TV × THp := (.tv (.sl 33 t_api_Sig) z, [])
def sign_Of_t (N : Nat) (a0 : List UInt8) : Tree (List T_api_Sig) :=
 .cond (decide (((a0.length : Nat) : Int) < ((24 : Int)))) (
 .ret []) <|
 .bind (chkLs [(([] : List T_api_Sig).length, 0)] (sign_Of_l4 N [] a0)) fun z1 =>
 .chk (z1.1.length = z1.1.length) <|
 .ret z1.1
def sign_Of (N : Nat) (a0 : List UInt8) : Option (List T_api_Sig) := (sign_Of_t N a0).run some
def sign_Of_L (N : Nat) : List (Nat × LEnt) := [(4, sign_Of_l4_s N)]
def sign_Of_s (N : Nat) : Ent := smF ⟨32, [], [.x .s], [], []⟩ [.s] (List T_api_Sig) (fun x => sign_Of N x.1) cs1 fun _ => sign_Of_o
theorem sign_Of_ok (N : Nat) : SmOK Tryz.prog (sign_Of_s N) :=
  fn_ok (H := sign_Of_H) (L := lenv (sign_Of_L N)) (ts := [.s]) (T := fun x => sign_Of_t N x.1) 0 Tryz_F32 (sign_Of_Eok N) (lenv_ok (by kernel_rfl) ⟨sign_Of_l4_ok N, trivial⟩) (rg0 (by kernel_rfl)) fun x => by kernel_rfl
noncomputable def Tryz_b12 : Code := Tryz.f12.body.getD .skip
theorem Tryz_F12 : FnF Tryz.prog 12 Tryz.f12 Tryz_b12 := ⟨Tryz_draw, by kernel_rfl, by kernel_rfl, by kernel_rfl⟩
def manifest_Of_H : TH := { live := [(0, [1, 2]), (1, [1, 2, 13]), (2, [2, 3]), (3, [1, 2, 4]), (4, [2, 4, 19, 20, 21]), (5, [2, 4, 19, 20, 21, 22]), (6, [2, 4, 6, 19, 20, 21]), (7, [2, 4, 6, 7, 19, 20, 21]), (8, [2, 4, 7, 19, 20, 21, 31, 32, 33]), (9, [2, 4, 7, 19, 20, 21, 31, 32, 33, 34]), (10, [2, 4, 7, 9, 19, 20, 21, 31, 32, 33]), (11, [2, 4, 7, 9, 10, 19, 20, 21, 31, 32, 33]), (12, [2, 4, 7, 19, 20, 21, 31, 32, 33]), (13, [2, 4, 7, 19, 20, 21, 31, 32, 33]), (14, [2, 4, 19, 20, 21]), (15, [2, 4, 19, 20, 21]), (16, [2, 3])], nil := [(0, [⟨.ob 20 [1], 24, (.sl 19 t_api_Line)⟩]), (2, [⟨.ob 20 [1], 24, (.sl 19 t_api_Line)⟩]), (3, [⟨.ob 40 [1], 44, (.sl 19 t_api_Line)⟩]), (7, [⟨.ob 70 [2], 75, (.sl 37 t_api_Entry)⟩])] }
def manifest_Of_E (N : Nat) : List Ent := [book_May_s N, canon_Digest_s N, sha_Of_s N, sign_Of_s N]
theorem manifest_Of_Eok (N : Nat) : SmAll Tryz.prog (manifest_Of_E N) := ⟨book_May_ok N, canon_Digest_ok N, sha_Of_ok N, sign_Of_ok N, trivial⟩
abbrev manifest_Of_l9_F := List T_api_Line × List T_api_Line × Vector UInt8 32 × Vector UInt8 32 × Vector UInt8 16 × T_api_Stamp × List T_api_Rec × Int × Int × List T_api_Field × Int
abbrev manifest_Of_l9_Y := List T_api_Entry × Int × Bool
def manifest_Of_l9_o (f : manifest_Of_l9_F) (y : manifest_Of_l9_Y) : Ex × TSt := (.exit 2, ⟨0, 66, [], [(2, .p 20 [] 0), (4, .p 40 [] 0), (7, .p 70 [] 0), (19, .tv (.sl 19 t_api_Rec) f.2.2.2.2.2.2.1), (20, xi f.2.2.2.2.2.2.2.1), (21, xi f.2.2.2.2.2.2.2.2.1), (31, .tv (.sl 4 t_api_Field) f.2.2.2.2.2.2.2.2.2.1), (32, xi f.2.2.2.2.2.2.2.2.2.2), (33, xi y.2.1), (34, xb y.2.2)], [(20, .cell false (.ag [.tv (.ba 32) f.2.2.1, .v 24 f.1.length])), (24, .vec false 19 (.sl 19 t_api_Line) f.1), (40, .cell false (.ag [.tv (.ba 32) f.2.2.2.1, .v 44 f.2.1.length])), (44, .vec false 19 (.sl 19 t_api_Line) f.2.1), (70, .cell false (.ag [.tv (.ba 16) f.2.2.2.2.1, .tv t_api_Stamp f.2.2.2.2.2.1, .v 75 y.1.length])), (75, .vec false 37 (.sl 37 t_api_Entry) (y.1 : List T_api_Entry))], false, []⟩)
def manifest_Of_l9_L (N : Nat) : List (Nat × LEnt) := []
abbrev manifest_Of_l9_V := List T_api_Entry × Int
def manifest_Of_l9_p : SP := ⟨0, 66, [], [(2, .k (.p 20 [] 0)), (4, .k (.p 40 [] 0)), (7, .k (.p 70 [] 0)), (19, .x (.sl 19 t_api_Rec)), (20, .x (.i .i64)), (21, .x (.i .i64)), (31, .x (.sl 4 t_api_Field)), (32, .x (.i .i64)), (33, .x (.i .i64))], [(20, .cell false (.ag [.x (.ba 32), .vs 24])), (24, .vec false 19), (40, .cell false (.ag [.x (.ba 32), .vs 44])), (44, .vec false 19), (70, .cell false (.ag [.x (.ba 16), .x t_api_Stamp, .vs 75])), (75, .vec false 37)], false, []⟩
def manifest_Of_l9_h (f : manifest_Of_l9_F) (v : manifest_Of_l9_V) : TSt := fillS manifest_Of_l9_p [dv (.sl 19 t_api_Line) f.1, dv (.sl 19 t_api_Line) f.2.1, dv (.sl 37 t_api_Entry) v.1, dv (.ba 32) f.2.2.1, dv (.ba 32) f.2.2.2.1, dv (.ba 16) f.2.2.2.2.1, dv t_api_Stamp f.2.2.2.2.2.1, dv (.sl 19 t_api_Rec) f.2.2.2.2.2.2.1, dv (.i .i64) f.2.2.2.2.2.2.2.1, dv (.i .i64) f.2.2.2.2.2.2.2.2.1, dv (.sl 4 t_api_Field) f.2.2.2.2.2.2.2.2.2.1, dv (.i .i64) f.2.2.2.2.2.2.2.2.2.2, dv (.i .i64) v.2]
def manifest_Of_l9_t (N : Nat) (o_9 : List T_api_Line) (o_9_2 : List T_api_Line) (o_9_4 : Vector UInt8 32) (o_9_5 : Vector UInt8 32) (o_9_6 : Vector UInt8 16) (o_9_7 : T_api_Stamp) (s19_9 : List T_api_Rec) (s20_9 : Int) (s21_9 : Int) (s31_9 : List T_api_Field) (s32_9 : Int) (v : manifest_Of_l9_V) : Tree (manifest_Of_l9_V ⊕ manifest_Of_l9_Y) :=
 .cond (decide (v.2 < s32_9)) (
 .bind (getI s31_9 v.2) fun e1 =>
 .bind (sha_Of N (T_api_Cell.V (T_api_Field.C e1))) fun r2 =>
 .bind (sign_Of N (T_api_Cell.V (T_api_Field.C e1))) fun r3 =>
 .chk (avOK v.1.length v.1.length ((v.1 ++ [T_api_Entry.mk (T_api_Field.No e1) (T_api_Cell.S (T_api_Field.C e1)) (((T_api_Cell.V (T_api_Field.C e1)).length : Nat) : Int) r2 r3]).length) 88) <|
 .chk (in64 (v.2 + 1)) <|
 .ret (.inl (v.1 ++ [T_api_Entry.mk (T_api_Field.No e1) (T_api_Cell.S (T_api_Field.C e1)) (((T_api_Cell.V (T_api_Field.C e1)).length : Nat) : Int) r2 r3], v.2 + 1))) <|
 .ret (.inr (v.1, v.2, decide (v.2 < s32_9)))
def manifest_Of_l9_n (N n : Nat) (f : manifest_Of_l9_F) (v : manifest_Of_l9_V) : Option manifest_Of_l9_Y := loopG (manifest_Of_l9_t N f.1 f.2.1 f.2.2.1 f.2.2.2.1 f.2.2.2.2.1 f.2.2.2.2.2.1 f.2.2.2.2.2.2.1 f.2.2.2.2.2.2.2.1 f.2.2.2.2.2.2.2.2.1 f.2.2.2.2.2.2.2.2.2.1 f.2.2.2.2.2.2.2.2.2.2) some n v
theorem manifest_Of_l9_q (N : Nat) (f : manifest_Of_l9_F) (n : Nat) (v : manifest_Of_l9_V) (y : manifest_Of_l9_Y) (h : manifest_Of_l9_n N n f v = some y) : LG Tryz.prog manifest_Of_H 12 (lookC (lookC Tryz_b12 5) 9) (manifest_Of_l9_h f v) (manifest_Of_l9_o f y) :=
  loop_g Tryz_draw (E := manifest_Of_E N) (L := lenv (manifest_Of_l9_L N)) (st := manifest_Of_l9_o f) (g := some) (R := manifest_Of_l9_o f) (manifest_Of_Eok N) (lenv_ok (by kernel_rfl) trivial) (rg0 (by kernel_rfl)) (fun v => by kernel_rfl) (good_self (st := manifest_Of_l9_o f) fun y => by rfl) n v y h
def manifest_Of_l9 (N : Nat) (o_9 : List T_api_Line) (o_9_2 : List T_api_Line) (o_9_4 : Vector UInt8 32) (o_9_5 : Vector UInt8 32) (o_9_6 : Vector UInt8 16) (o_9_7 : T_api_Stamp) (s19_9 : List T_api_Rec) (s20_9 : Int) (s21_9 : Int) (s31_9 : List T_api_Field) (s32_9 : Int) (o_9_3 : List T_api_Entry) (s33_9 : Int) : Option manifest_Of_l9_Y := manifest_Of_l9_n N N (o_9, o_9_2, o_9_4, o_9_5, o_9_6, o_9_7, s19_9, s20_9, s21_9, s31_9, s32_9) (o_9_3, s33_9)
def manifest_Of_l9_s (N : Nat) : LEnt := smL manifest_Of_l9_p [(.sl 19 t_api_Line), (.sl 19 t_api_Line), (.sl 37 t_api_Entry), (.ba 32), (.ba 32), (.ba 16), t_api_Stamp, (.sl 19 t_api_Rec), (.i .i64), (.i .i64), (.sl 4 t_api_Field), (.i .i64), (.i .i64)] manifest_Of_l9_Y (fun x => manifest_Of_l9 N x.1 x.2.1 x.2.2.2.1 x.2.2.2.2.1 x.2.2.2.2.2.1 x.2.2.2.2.2.2.1 x.2.2.2.2.2.2.2.1 x.2.2.2.2.2.2.2.2.1 x.2.2.2.2.2.2.2.2.2.1 x.2.2.2.2.2.2.2.2.2.2.1 x.2.2.2.2.2.2.2.2.2.2.2.1 x.2.2.1 x.2.2.2.2.2.2.2.2.2.2.2.2.1) cs1 fun x => manifest_Of_l9_o (x.1, x.2.1, x.2.2.2.1, x.2.2.2.2.1, x.2.2.2.2.2.1, x.2.2.2.2.2.2.1, x.2.2.2.2.2.2.2.1, x.2.2.2.2.2.2.2.2.1, x.2.2.2.2.2.2.2.2.2.1, x.2.2.2.2.2.2.2.2.2.2.1, x.2.2.2.2.2.2.2.2.2.2.2.1)
theorem manifest_Of_l9_ok (N : Nat) : LsOK Tryz.prog manifest_Of_H 12 (lookC (lookC Tryz_b12 5) 9) (manifest_Of_l9_s N) := smL_ok fun x z h => manifest_Of_l9_q N (x.1, x.2.1, x.2.2.2.1, x.2.2.2.2.1, x.2.2.2.2.2.1, x.2.2.2.2.2.2.1, x.2.2.2.2.2.2.2.1, x.2.2.2.2.2.2.2.2.1, x.2.2.2.2.2.2.2.2.2.1, x.2.2.2.2.2.2.2.2.2.2.1, x.2.2.2.2.2.2.2.2.2.2.2.1) N (x.2.2.1, x.2.2.2.2.2.2.2.2.2.2.2.2.1) z h
abbrev manifest_Of_l5_F := List T_api_Line × Vector UInt8 32 × Vector UInt8 32 × List T_api_Rec × Int
abbrev manifest_Of_l5_Y := List T_api_Line × Int × Bool
def manifest_Of_l5_o (f : manifest_Of_l5_F) (y : manifest_Of_l5_Y) : Ex × TSt := (.exit 0, ⟨0, 66, [], [(2, .p 20 [] 0), (4, .p 40 [] 0), (19, .tv (.sl 19 t_api_Rec) f.2.2.2.1), (20, xi f.2.2.2.2), (21, xi y.2.1), (22, xb y.2.2)], [(20, .cell false (.ag [.tv (.ba 32) f.2.1, .v 24 f.1.length])), (24, .vec false 19 (.sl 19 t_api_Line) f.1), (40, .cell false (.ag [.tv (.ba 32) f.2.2.1, .v 44 y.1.length])), (44, .vec false 19 (.sl 19 t_api_Line) (y.1 : List T_api_Line))], false, []⟩)
def manifest_Of_l5_L (N : Nat) : List (Nat × LEnt) := [(9, manifest_Of_l9_s N)]
abbrev manifest_Of_l5_V := List T_api_Line × Int
def manifest_Of_l5_p : SP := ⟨0, 66, [], [(2, .k (.p 20 [] 0)), (4, .k (.p 40 [] 0)), (19, .x (.sl 19 t_api_Rec)), (20, .x (.i .i64)), (21, .x (.i .i64))], [(20, .cell false (.ag [.x (.ba 32), .vs 24])), (24, .vec false 19), (40, .cell false (.ag [.x (.ba 32), .vs 44])), (44, .vec false 19)], false, []⟩
def manifest_Of_l5_h (f : manifest_Of_l5_F) (v : manifest_Of_l5_V) : TSt := fillS manifest_Of_l5_p [dv (.sl 19 t_api_Line) f.1, dv (.sl 19 t_api_Line) v.1, dv (.ba 32) f.2.1, dv (.ba 32) f.2.2.1, dv (.sl 19 t_api_Rec) f.2.2.2.1, dv (.i .i64) f.2.2.2.2, dv (.i .i64) v.2]
def manifest_Of_l5_t (N : Nat) (o_5 : List T_api_Line) (o_5_3 : Vector UInt8 32) (o_5_4 : Vector UInt8 32) (s19_5 : List T_api_Rec) (s20_5 : Int) (v : manifest_Of_l5_V) : Tree (manifest_Of_l5_V ⊕ manifest_Of_l5_Y) :=
 .cond (decide (v.2 < s20_5)) (
 .bind (getI s19_5 v.2) fun e1 =>
 .bind (chkLs [(o_5.length, o_5.length), (v.1.length, v.1.length), (([] : List T_api_Entry).length, 0)] (manifest_Of_l9 N o_5 v.1 o_5_3 o_5_4 (T_api_Rec.ID e1) (T_api_Rec.Dead e1) s19_5 s20_5 v.2 (T_api_Rec.F e1) (((T_api_Rec.F e1).length : Nat) : Int) [] 0)) fun z2 =>
 .chk (z2.1.length = z2.1.length) <|
 .chk (avOK v.1.length v.1.length ((v.1 ++ [T_api_Line.mk (T_api_Rec.ID e1) (T_api_Rec.Dead e1) z2.1]).length) 56) <|
 .chk (in64 (v.2 + 1)) <|
 .ret (.inl (v.1 ++ [T_api_Line.mk (T_api_Rec.ID e1) (T_api_Rec.Dead e1) z2.1], v.2 + 1))) <|
 .ret (.inr (v.1, v.2, decide (v.2 < s20_5)))
def manifest_Of_l5_n (N n : Nat) (f : manifest_Of_l5_F) (v : manifest_Of_l5_V) : Option manifest_Of_l5_Y := loopG (manifest_Of_l5_t N f.1 f.2.1 f.2.2.1 f.2.2.2.1 f.2.2.2.2) some n v
theorem manifest_Of_l5_q (N : Nat) (f : manifest_Of_l5_F) (n : Nat) (v : manifest_Of_l5_V) (y : manifest_Of_l5_Y) (h : manifest_Of_l5_n N n f v = some y) : LG Tryz.prog manifest_Of_H 12 (lookC Tryz_b12 5) (manifest_Of_l5_h f v) (manifest_Of_l5_o f y) :=
  loop_g Tryz_draw (E := manifest_Of_E N) (L := lenv (manifest_Of_l5_L N)) (st := manifest_Of_l5_o f) (g := some) (R := manifest_Of_l5_o f) (manifest_Of_Eok N) (lenv_ok (by kernel_rfl) ⟨manifest_Of_l9_ok N, trivial⟩) (rg0 (by kernel_rfl)) (fun v => by kernel_rfl) (good_self (st := manifest_Of_l5_o f) fun y => by rfl) n v y h
def manifest_Of_l5 (N : Nat) (o_5 : List T_api_Line) (o_5_3 : Vector UInt8 32) (o_5_4 : Vector UInt8 32) (s19_5 : List T_api_Rec) (s20_5 : Int) (o_5_2 : List T_api_Line) (s21_5 : Int) : Option manifest_Of_l5_Y := manifest_Of_l5_n N N (o_5, o_5_3, o_5_4, s19_5, s20_5) (o_5_2, s21_5)
def manifest_Of_l5_s (N : Nat) : LEnt := smL manifest_Of_l5_p [(.sl 19 t_api_Line), (.sl 19 t_api_Line), (.ba 32), (.ba 32), (.sl 19 t_api_Rec), (.i .i64), (.i .i64)] manifest_Of_l5_Y (fun x => manifest_Of_l5 N x.1 x.2.2.1 x.2.2.2.1 x.2.2.2.2.1 x.2.2.2.2.2.1 x.2.1 x.2.2.2.2.2.2.1) cs1 fun x => manifest_Of_l5_o (x.1, x.2.2.1, x.2.2.2.1, x.2.2.2.2.1, x.2.2.2.2.2.1)
theorem manifest_Of_l5_ok (N : Nat) : LsOK Tryz.prog manifest_Of_H 12 (lookC Tryz_b12 5) (manifest_Of_l5_s N) := smL_ok fun x z h => manifest_Of_l5_q N (x.1, x.2.2.1, x.2.2.2.1, x.2.2.2.2.1, x.2.2.2.2.2.1) N (x.2.1, x.2.2.2.2.2.2.1) z h
def manifest_Of_o (z : T_api_Manifest × Bool) : TV × THp := (.tup [.tv t_api_Manifest (z.1 : T_api_Manifest), xb z.2], [])
def manifest_Of_t (N : Nat) (a0 : T_api_Book) : Tree (T_api_Manifest × Bool) :=
 .bind (book_May N a0) fun r1 =>
 .cond (!r1) (
 .chk (0 = 0) <|
 .ret (T_api_Manifest.mk ((Vector.replicate 32 0)) [], false)) <|
 .bind (canon_Digest N a0) fun r2 =>
 .bind (chkLs [(([] : List T_api_Line).length, 0), (([] : List T_api_Line).length, 0)] (manifest_Of_l5 N [] ((Vector.replicate 32 0)) r2 (T_api_Book.R a0) (((T_api_Book.R a0).length : Nat) : Int) [] 0)) fun z3 =>
 .chk (z3.1.length = z3.1.length) <|
 .ret (T_api_Manifest.mk r2 z3.1, true)
def manifest_Of (N : Nat) (a0 : T_api_Book) : Option (T_api_Manifest × Bool) := (manifest_Of_t N a0).run some
def manifest_Of_L (N : Nat) : List (Nat × LEnt) := [(5, manifest_Of_l5_s N)]
def manifest_Of_s (N : Nat) : Ent := smF ⟨12, [], [.x t_api_Book], [], []⟩ [t_api_Book] (T_api_Manifest × Bool) (fun x => manifest_Of N x.1) cs1 fun _ => manifest_Of_o
theorem manifest_Of_ok (N : Nat) : SmOK Tryz.prog (manifest_Of_s N) :=
  fn_ok (H := manifest_Of_H) (L := lenv (manifest_Of_L N)) (ts := [t_api_Book]) (T := fun x => manifest_Of_t N x.1) 0 Tryz_F12 (manifest_Of_Eok N) (lenv_ok (by kernel_rfl) ⟨manifest_Of_l5_ok N, trivial⟩) (rg0 (by kernel_rfl)) fun x => by kernel_rfl
noncomputable def Tryz_b47 : Code := Tryz.f47.body.getD .skip
theorem Tryz_F47 : FnF Tryz.prog 47 Tryz.f47 Tryz_b47 := ⟨Tryz_draw, by kernel_rfl, by kernel_rfl, by kernel_rfl⟩
def slices_Equal_Sig_H : TH := { live := [(0, [0, 1]), (1, [0, 1, 10]), (2, [4]), (3, [0, 1, 12, 13]), (4, [0, 1, 12, 13, 14]), (5, [0, 1, 5, 12, 13]), (6, [0, 1, 12, 13, 24]), (7, [4]), (8, [0, 1, 12, 13]), (9, [4])] }
def slices_Equal_Sig_E (N : Nat) : List Ent := []
theorem slices_Equal_Sig_Eok (N : Nat) : SmAll Tryz.prog (slices_Equal_Sig_E N) := trivial
abbrev slices_Equal_Sig_l4_F := List T_api_Sig × List T_api_Sig × Int
abbrev slices_Equal_Sig_l4_Y := Unit ⊕ (Int × Bool)
def slices_Equal_Sig_l4_o (f : slices_Equal_Sig_l4_F) : slices_Equal_Sig_l4_Y → Ex × TSt
 | .inl y => (.ret, ⟨0, 26, [], [(4, .bc false)], [], false, []⟩)
 | .inr y => (.exit 0, ⟨0, 26, [], [(0, .tv (.sl 33 t_api_Sig) f.1), (1, .tv (.sl 33 t_api_Sig) f.2.1), (12, xi f.2.2), (13, xi y.1), (14, xb y.2)], [], false, []⟩)
def slices_Equal_Sig_l4_L (N : Nat) : List (Nat × LEnt) := []
abbrev slices_Equal_Sig_l4_V := Int
def slices_Equal_Sig_l4_p : SP := ⟨0, 26, [], [(0, .x (.sl 33 t_api_Sig)), (1, .x (.sl 33 t_api_Sig)), (12, .x (.i .i64)), (13, .x (.i .i64))], [], false, []⟩
def slices_Equal_Sig_l4_h (f : slices_Equal_Sig_l4_F) (v : slices_Equal_Sig_l4_V) : TSt := fillS slices_Equal_Sig_l4_p [dv (.sl 33 t_api_Sig) f.1, dv (.sl 33 t_api_Sig) f.2.1, dv (.i .i64) f.2.2, dv (.i .i64) v]
def slices_Equal_Sig_l4_t (N : Nat) (s0_4 : List T_api_Sig) (s1_4 : List T_api_Sig) (s12_4 : Int) (v : slices_Equal_Sig_l4_V) : Tree (slices_Equal_Sig_l4_V ⊕ slices_Equal_Sig_l4_Y) :=
 .cond (decide (v < s12_4)) (
 .bind (getI s0_4 v) fun e1 =>
 .bind (getI s1_4 v) fun e2 =>
 .cond (!(eqE t_api_Sig e1 e2)) (
 .ret (.inr (.inl ()))) <|
 .chk (in64 (v + 1)) <|
 .ret (.inl (v + 1))) <|
 .ret (.inr (.inr ((v, decide (v < s12_4)))))
def slices_Equal_Sig_l4_n (N n : Nat) (f : slices_Equal_Sig_l4_F) (v : slices_Equal_Sig_l4_V) : Option slices_Equal_Sig_l4_Y := loopG (slices_Equal_Sig_l4_t N f.1 f.2.1 f.2.2) some n v
theorem slices_Equal_Sig_l4_q (N : Nat) (f : slices_Equal_Sig_l4_F) (n : Nat) (v : slices_Equal_Sig_l4_V) (y : slices_Equal_Sig_l4_Y) (h : slices_Equal_Sig_l4_n N n f v = some y) : LG Tryz.prog slices_Equal_Sig_H 47 (lookC Tryz_b47 4) (slices_Equal_Sig_l4_h f v) (slices_Equal_Sig_l4_o f y) :=
  loop_g Tryz_draw (E := slices_Equal_Sig_E N) (L := lenv (slices_Equal_Sig_l4_L N)) (st := slices_Equal_Sig_l4_o f) (g := some) (R := slices_Equal_Sig_l4_o f) (slices_Equal_Sig_Eok N) (lenv_ok (by kernel_rfl) trivial) (rg0 (by kernel_rfl)) (fun v => by kernel_rfl) (good_self (st := slices_Equal_Sig_l4_o f) fun y => by rcases y with _ | _ <;> rfl) n v y h
def slices_Equal_Sig_l4 (N : Nat) (s0_4 : List T_api_Sig) (s1_4 : List T_api_Sig) (s12_4 : Int) (s13_4 : Int) : Option slices_Equal_Sig_l4_Y := slices_Equal_Sig_l4_n N N (s0_4, s1_4, s12_4) s13_4
def slices_Equal_Sig_l4_s (N : Nat) : LEnt := smL slices_Equal_Sig_l4_p [(.sl 33 t_api_Sig), (.sl 33 t_api_Sig), (.i .i64), (.i .i64)] slices_Equal_Sig_l4_Y (fun x => slices_Equal_Sig_l4 N x.1 x.2.1 x.2.2.1 x.2.2.2.1) (csS cs1) fun x => slices_Equal_Sig_l4_o (x.1, x.2.1, x.2.2.1)
theorem slices_Equal_Sig_l4_ok (N : Nat) : LsOK Tryz.prog slices_Equal_Sig_H 47 (lookC Tryz_b47 4) (slices_Equal_Sig_l4_s N) := smL_ok fun x z h => slices_Equal_Sig_l4_q N (x.1, x.2.1, x.2.2.1) N x.2.2.2.1 z h
def slices_Equal_Sig_o (z : Bool) : TV × THp := (xb z, [])
def slices_Equal_Sig_t (N : Nat) (a0 : List T_api_Sig) (a1 : List T_api_Sig) : Tree (Bool) :=
 .cond (!decide (((a0.length : Nat) : Int) = ((a1.length : Nat) : Int))) (
 .ret false) <|
 .bind (slices_Equal_Sig_l4 N a0 a1 ((a0.length : Nat) : Int) 0) fun z1 =>
 .sum z1 (fun z2 =>
 .ret false) fun z2 =>
 .ret true
def slices_Equal_Sig (N : Nat) (a0 : List T_api_Sig) (a1 : List T_api_Sig) : Option (Bool) := (slices_Equal_Sig_t N a0 a1).run some
def slices_Equal_Sig_L (N : Nat) : List (Nat × LEnt) := [(4, slices_Equal_Sig_l4_s N)]
def slices_Equal_Sig_s (N : Nat) : Ent := smF ⟨47, [], [.x (.sl 33 t_api_Sig), .x (.sl 33 t_api_Sig)], [], []⟩ [(.sl 33 t_api_Sig), (.sl 33 t_api_Sig)] (Bool) (fun x => slices_Equal_Sig N x.1 x.2.1) cs1 fun _ => slices_Equal_Sig_o
theorem slices_Equal_Sig_ok (N : Nat) : SmOK Tryz.prog (slices_Equal_Sig_s N) :=
  fn_ok (H := slices_Equal_Sig_H) (L := lenv (slices_Equal_Sig_L N)) (ts := [(.sl 33 t_api_Sig), (.sl 33 t_api_Sig)]) (T := fun x => slices_Equal_Sig_t N x.1 x.2.1) 0 Tryz_F47 (slices_Equal_Sig_Eok N) (lenv_ok (by kernel_rfl) ⟨slices_Equal_Sig_l4_ok N, trivial⟩) (rg0 (by kernel_rfl)) fun x => by kernel_rfl
noncomputable def Tryz_b46 : Code := Tryz.f46.body.getD .skip
theorem Tryz_F46 : FnF Tryz.prog 46 Tryz.f46 Tryz_b46 := ⟨Tryz_draw, by kernel_rfl, by kernel_rfl, by kernel_rfl⟩
def manifest_Same_1_H : TH := { live := [(0, [2, 3]), (1, [4])], dec := [10, 17, 24, 31] }
def manifest_Same_1_E (N : Nat) : List Ent := [slices_Equal_Sig_s N]
theorem manifest_Same_1_Eok (N : Nat) : SmAll Tryz.prog (manifest_Same_1_E N) := ⟨slices_Equal_Sig_ok N, trivial⟩
def manifest_Same_1_o (z : Bool) : TV × THp := (xb z, [])
def manifest_Same_1_t (N : Nat) (a0 : T_api_Entry) (a1 : T_api_Entry) : Tree (Bool) :=
 .cond (decide ((T_api_Entry.No a0) = (T_api_Entry.No a1))) (
 .cond (eqE t_api_Stamp (T_api_Entry.S a0) (T_api_Entry.S a1)) (
 .cond (decide ((T_api_Entry.Len a0) = (T_api_Entry.Len a1))) (
 .cond (eqE (.ba 32) (T_api_Entry.D a0) (T_api_Entry.D a1)) (
 .bind (slices_Equal_Sig N (T_api_Entry.B a0) (T_api_Entry.B a1)) fun r1 =>
 .ret r1) <|
 .ret false) <|
 .ret false) <|
 .ret false) <|
 .ret false
def manifest_Same_1 (N : Nat) (a0 : T_api_Entry) (a1 : T_api_Entry) : Option (Bool) := (manifest_Same_1_t N a0 a1).run some
def manifest_Same_1_L (N : Nat) : List (Nat × LEnt) := []
def manifest_Same_1_s (N : Nat) : Ent := smF ⟨46, [], [.x t_api_Entry, .x t_api_Entry], [], []⟩ [t_api_Entry, t_api_Entry] (Bool) (fun x => manifest_Same_1 N x.1 x.2.1) cs1 fun _ => manifest_Same_1_o
theorem manifest_Same_1_ok (N : Nat) : SmOK Tryz.prog (manifest_Same_1_s N) :=
  fn_ok (H := manifest_Same_1_H) (L := lenv (manifest_Same_1_L N)) (ts := [t_api_Entry, t_api_Entry]) (T := fun x => manifest_Same_1_t N x.1 x.2.1) 0 Tryz_F46 (manifest_Same_1_Eok N) (lenv_ok (by kernel_rfl) trivial) (rg0 (by kernel_rfl)) fun x => by kernel_rfl
noncomputable def Tryz_b49 : Code := Tryz.f49.body.getD .skip
theorem Tryz_F49 : FnF Tryz.prog 49 Tryz.f49 Tryz_b49 := ⟨Tryz_draw, by kernel_rfl, by kernel_rfl, by kernel_rfl⟩
def slices_EqualFunc_Entry_H : TH := { live := [(0, [0, 1, 2]), (1, [0, 1, 2, 14]), (2, [6]), (3, [1, 2, 15, 16, 17]), (4, [1, 2, 15, 16, 17, 18]), (5, [1, 2, 7, 8, 15, 16, 17]), (6, [1, 2, 8, 9, 15, 16, 17]), (7, [1, 2, 15, 16, 17, 30]), (8, [6]), (9, [1, 2, 15, 16, 17]), (10, [6])] }
def slices_EqualFunc_Entry_E (N : Nat) : List Ent := [manifest_Same_1_s N]
theorem slices_EqualFunc_Entry_Eok (N : Nat) : SmAll Tryz.prog (slices_EqualFunc_Entry_E N) := ⟨manifest_Same_1_ok N, trivial⟩
abbrev slices_EqualFunc_Entry_l4_F := List T_api_Entry × List T_api_Entry × Int
abbrev slices_EqualFunc_Entry_l4_Y := Unit ⊕ (Int × Bool)
def slices_EqualFunc_Entry_l4_o (f : slices_EqualFunc_Entry_l4_F) : slices_EqualFunc_Entry_l4_Y → Ex × TSt
 | .inl y => (.ret, ⟨0, 32, [], [(6, .bc false)], [], false, []⟩)
 | .inr y => (.exit 0, ⟨0, 32, [], [(1, .tv (.sl 37 t_api_Entry) f.1), (2, .fn (.func 46) [] []), (15, .tv (.sl 37 t_api_Entry) f.2.1), (16, xi f.2.2), (17, xi y.1), (18, xb y.2)], [], false, []⟩)
def slices_EqualFunc_Entry_l4_L (N : Nat) : List (Nat × LEnt) := []
abbrev slices_EqualFunc_Entry_l4_V := Int
def slices_EqualFunc_Entry_l4_p : SP := ⟨0, 32, [], [(1, .x (.sl 37 t_api_Entry)), (2, .fn 46 [] []), (15, .x (.sl 37 t_api_Entry)), (16, .x (.i .i64)), (17, .x (.i .i64))], [], false, []⟩
def slices_EqualFunc_Entry_l4_h (f : slices_EqualFunc_Entry_l4_F) (v : slices_EqualFunc_Entry_l4_V) : TSt := fillS slices_EqualFunc_Entry_l4_p [dv (.sl 37 t_api_Entry) f.1, dv (.sl 37 t_api_Entry) f.2.1, dv (.i .i64) f.2.2, dv (.i .i64) v]
def slices_EqualFunc_Entry_l4_t (N : Nat) (s1_4 : List T_api_Entry) (s15_4 : List T_api_Entry) (s16_4 : Int) (v : slices_EqualFunc_Entry_l4_V) : Tree (slices_EqualFunc_Entry_l4_V ⊕ slices_EqualFunc_Entry_l4_Y) :=
 .cond (decide (v < s16_4)) (
 .bind (getI s15_4 v) fun e1 =>
 .bind (getI s1_4 v) fun e2 =>
 .bind (manifest_Same_1 N e1 e2) fun r3 =>
 .cond (!r3) (
 .ret (.inr (.inl ()))) <|
 .chk (in64 (v + 1)) <|
 .ret (.inl (v + 1))) <|
 .ret (.inr (.inr ((v, decide (v < s16_4)))))
def slices_EqualFunc_Entry_l4_n (N n : Nat) (f : slices_EqualFunc_Entry_l4_F) (v : slices_EqualFunc_Entry_l4_V) : Option slices_EqualFunc_Entry_l4_Y := loopG (slices_EqualFunc_Entry_l4_t N f.1 f.2.1 f.2.2) some n v
theorem slices_EqualFunc_Entry_l4_q (N : Nat) (f : slices_EqualFunc_Entry_l4_F) (n : Nat) (v : slices_EqualFunc_Entry_l4_V) (y : slices_EqualFunc_Entry_l4_Y) (h : slices_EqualFunc_Entry_l4_n N n f v = some y) : LG Tryz.prog slices_EqualFunc_Entry_H 49 (lookC Tryz_b49 4) (slices_EqualFunc_Entry_l4_h f v) (slices_EqualFunc_Entry_l4_o f y) :=
  loop_g Tryz_draw (E := slices_EqualFunc_Entry_E N) (L := lenv (slices_EqualFunc_Entry_l4_L N)) (st := slices_EqualFunc_Entry_l4_o f) (g := some) (R := slices_EqualFunc_Entry_l4_o f) (slices_EqualFunc_Entry_Eok N) (lenv_ok (by kernel_rfl) trivial) (rg0 (by kernel_rfl)) (fun v => by kernel_rfl) (good_self (st := slices_EqualFunc_Entry_l4_o f) fun y => by rcases y with _ | _ <;> rfl) n v y h
def slices_EqualFunc_Entry_l4 (N : Nat) (s1_4 : List T_api_Entry) (s15_4 : List T_api_Entry) (s16_4 : Int) (s17_4 : Int) : Option slices_EqualFunc_Entry_l4_Y := slices_EqualFunc_Entry_l4_n N N (s1_4, s15_4, s16_4) s17_4
def slices_EqualFunc_Entry_l4_s (N : Nat) : LEnt := smL slices_EqualFunc_Entry_l4_p [(.sl 37 t_api_Entry), (.sl 37 t_api_Entry), (.i .i64), (.i .i64)] slices_EqualFunc_Entry_l4_Y (fun x => slices_EqualFunc_Entry_l4 N x.1 x.2.1 x.2.2.1 x.2.2.2.1) (csS cs1) fun x => slices_EqualFunc_Entry_l4_o (x.1, x.2.1, x.2.2.1)
theorem slices_EqualFunc_Entry_l4_ok (N : Nat) : LsOK Tryz.prog slices_EqualFunc_Entry_H 49 (lookC Tryz_b49 4) (slices_EqualFunc_Entry_l4_s N) := smL_ok fun x z h => slices_EqualFunc_Entry_l4_q N (x.1, x.2.1, x.2.2.1) N x.2.2.2.1 z h
def slices_EqualFunc_Entry_o (z : Bool) : TV × THp := (xb z, [])
def slices_EqualFunc_Entry_t (N : Nat) (a0 : List T_api_Entry) (a1 : List T_api_Entry) : Tree (Bool) :=
 .cond (!decide (((a0.length : Nat) : Int) = ((a1.length : Nat) : Int))) (
 .ret false) <|
 .bind (slices_EqualFunc_Entry_l4 N a1 a0 ((a0.length : Nat) : Int) 0) fun z1 =>
 .sum z1 (fun z2 =>
 .ret false) fun z2 =>
 .ret true
def slices_EqualFunc_Entry (N : Nat) (a0 : List T_api_Entry) (a1 : List T_api_Entry) : Option (Bool) := (slices_EqualFunc_Entry_t N a0 a1).run some
def slices_EqualFunc_Entry_L (N : Nat) : List (Nat × LEnt) := [(4, slices_EqualFunc_Entry_l4_s N)]
def slices_EqualFunc_Entry_s (N : Nat) : Ent := smF ⟨49, [], [.x (.sl 37 t_api_Entry), .x (.sl 37 t_api_Entry), .fn 46 [] []], [], []⟩ [(.sl 37 t_api_Entry), (.sl 37 t_api_Entry)] (Bool) (fun x => slices_EqualFunc_Entry N x.1 x.2.1) cs1 fun _ => slices_EqualFunc_Entry_o
theorem slices_EqualFunc_Entry_ok (N : Nat) : SmOK Tryz.prog (slices_EqualFunc_Entry_s N) :=
  fn_ok (H := slices_EqualFunc_Entry_H) (L := lenv (slices_EqualFunc_Entry_L N)) (ts := [(.sl 37 t_api_Entry), (.sl 37 t_api_Entry)]) (T := fun x => slices_EqualFunc_Entry_t N x.1 x.2.1) 0 Tryz_F49 (slices_EqualFunc_Entry_Eok N) (lenv_ok (by kernel_rfl) ⟨slices_EqualFunc_Entry_l4_ok N, trivial⟩) (rg0 (by kernel_rfl)) fun x => by kernel_rfl
noncomputable def Tryz_b48 : Code := Tryz.f48.body.getD .skip
theorem Tryz_F48 : FnF Tryz.prog 48 Tryz.f48 Tryz_b48 := ⟨Tryz_draw, by kernel_rfl, by kernel_rfl, by kernel_rfl⟩
def manifest_Same_2_H : TH := { live := [(0, [2, 3, 4]), (1, [5])], dec := [11, 18] }
def manifest_Same_2_E (N : Nat) : List Ent := [slices_EqualFunc_Entry_s N]
theorem manifest_Same_2_Eok (N : Nat) : SmAll Tryz.prog (manifest_Same_2_E N) := ⟨slices_EqualFunc_Entry_ok N, trivial⟩
def manifest_Same_2_o (z : Bool) : TV × THp := (xb z, [(50, .cell false (.fn (.func 46) [] []))])
def manifest_Same_2_t (N : Nat) (a0 : T_api_Line) (a1 : T_api_Line) : Tree (Bool) :=
 .cond (eqE (.ba 16) (T_api_Line.ID a0) (T_api_Line.ID a1)) (
 .cond (eqE t_api_Stamp (T_api_Line.Dead a0) (T_api_Line.Dead a1)) (
 .bind (slices_EqualFunc_Entry N (T_api_Line.F a0) (T_api_Line.F a1)) fun r1 =>
 .ret r1) <|
 .ret false) <|
 .ret false
def manifest_Same_2 (N : Nat) (a0 : T_api_Line) (a1 : T_api_Line) : Option (Bool) := (manifest_Same_2_t N a0 a1).run some
def manifest_Same_2_L (N : Nat) : List (Nat × LEnt) := []
def manifest_Same_2_s (N : Nat) : Ent := smF ⟨48, [], [.x t_api_Line, .x t_api_Line], [.k (.p 50 [] 0)], [(50, .cell false (.fn 46 [] []))]⟩ [t_api_Line, t_api_Line] (Bool) (fun x => manifest_Same_2 N x.1 x.2.1) cs1 fun _ => manifest_Same_2_o
theorem manifest_Same_2_ok (N : Nat) : SmOK Tryz.prog (manifest_Same_2_s N) :=
  fn_ok (H := manifest_Same_2_H) (L := lenv (manifest_Same_2_L N)) (ts := [t_api_Line, t_api_Line]) (T := fun x => manifest_Same_2_t N x.1 x.2.1) 0 Tryz_F48 (manifest_Same_2_Eok N) (lenv_ok (by kernel_rfl) trivial) (rg0 (by kernel_rfl)) fun x => by kernel_rfl
noncomputable def Tryz_b50 : Code := Tryz.f50.body.getD .skip
theorem Tryz_F50 : FnF Tryz.prog 50 Tryz.f50 Tryz_b50 := ⟨Tryz_draw, by kernel_rfl, by kernel_rfl, by kernel_rfl⟩
def slices_EqualFunc_Line_H : TH := { live := [(0, [0, 1, 2]), (1, [0, 1, 2, 14]), (2, [6]), (3, [1, 2, 15, 16, 17]), (4, [1, 2, 15, 16, 17, 18]), (5, [1, 2, 7, 8, 15, 16, 17]), (6, [1, 2, 8, 9, 15, 16, 17]), (7, [1, 2, 15, 16, 17, 30]), (8, [6]), (9, [1, 2, 15, 16, 17]), (10, [6])] }
def slices_EqualFunc_Line_E (N : Nat) : List Ent := [manifest_Same_2_s N]
theorem slices_EqualFunc_Line_Eok (N : Nat) : SmAll Tryz.prog (slices_EqualFunc_Line_E N) := ⟨manifest_Same_2_ok N, trivial⟩
abbrev slices_EqualFunc_Line_l4_F := List T_api_Line × List T_api_Line × Int
abbrev slices_EqualFunc_Line_l4_Y := Unit ⊕ (Int × Bool)
def slices_EqualFunc_Line_l4_o (f : slices_EqualFunc_Line_l4_F) : slices_EqualFunc_Line_l4_Y → Ex × TSt
 | .inl y => (.ret, ⟨1, 32, [50], [(6, .bc false)], [(50, .cell false (.fn (.func 46) [] []))], false, []⟩)
 | .inr y => (.exit 0, ⟨1, 32, [50], [(1, .tv (.sl 19 t_api_Line) f.1), (2, .fn (.func 48) [] [.p 50 [] 0]), (15, .tv (.sl 19 t_api_Line) f.2.1), (16, xi f.2.2), (17, xi y.1), (18, xb y.2)], [(50, .cell false (.fn (.func 46) [] []))], false, []⟩)
def slices_EqualFunc_Line_l4_L (N : Nat) : List (Nat × LEnt) := []
abbrev slices_EqualFunc_Line_l4_V := Int
def slices_EqualFunc_Line_l4_p : SP := ⟨1, 32, [50], [(1, .x (.sl 19 t_api_Line)), (2, .fn 48 [] [.k (.p 50 [] 0)]), (15, .x (.sl 19 t_api_Line)), (16, .x (.i .i64)), (17, .x (.i .i64))], [(50, .cell false (.fn 46 [] []))], false, []⟩
def slices_EqualFunc_Line_l4_h (f : slices_EqualFunc_Line_l4_F) (v : slices_EqualFunc_Line_l4_V) : TSt := fillS slices_EqualFunc_Line_l4_p [dv (.sl 19 t_api_Line) f.1, dv (.sl 19 t_api_Line) f.2.1, dv (.i .i64) f.2.2, dv (.i .i64) v]
def slices_EqualFunc_Line_l4_t (N : Nat) (s1_4 : List T_api_Line) (s15_4 : List T_api_Line) (s16_4 : Int) (v : slices_EqualFunc_Line_l4_V) : Tree (slices_EqualFunc_Line_l4_V ⊕ slices_EqualFunc_Line_l4_Y) :=
 .cond (decide (v < s16_4)) (
 .bind (getI s15_4 v) fun e1 =>
 .bind (getI s1_4 v) fun e2 =>
 .bind (manifest_Same_2 N e1 e2) fun r3 =>
 .cond (!r3) (
 .ret (.inr (.inl ()))) <|
 .chk (in64 (v + 1)) <|
 .ret (.inl (v + 1))) <|
 .ret (.inr (.inr ((v, decide (v < s16_4)))))
def slices_EqualFunc_Line_l4_n (N n : Nat) (f : slices_EqualFunc_Line_l4_F) (v : slices_EqualFunc_Line_l4_V) : Option slices_EqualFunc_Line_l4_Y := loopG (slices_EqualFunc_Line_l4_t N f.1 f.2.1 f.2.2) some n v
theorem slices_EqualFunc_Line_l4_q (N : Nat) (f : slices_EqualFunc_Line_l4_F) (n : Nat) (v : slices_EqualFunc_Line_l4_V) (y : slices_EqualFunc_Line_l4_Y) (h : slices_EqualFunc_Line_l4_n N n f v = some y) : LG Tryz.prog slices_EqualFunc_Line_H 50 (lookC Tryz_b50 4) (slices_EqualFunc_Line_l4_h f v) (slices_EqualFunc_Line_l4_o f y) :=
  loop_g Tryz_draw (E := slices_EqualFunc_Line_E N) (L := lenv (slices_EqualFunc_Line_l4_L N)) (st := slices_EqualFunc_Line_l4_o f) (g := some) (R := slices_EqualFunc_Line_l4_o f) (slices_EqualFunc_Line_Eok N) (lenv_ok (by kernel_rfl) trivial) (rg0 (by kernel_rfl)) (fun v => by kernel_rfl) (good_self (st := slices_EqualFunc_Line_l4_o f) fun y => by rcases y with _ | _ <;> rfl) n v y h
def slices_EqualFunc_Line_l4 (N : Nat) (s1_4 : List T_api_Line) (s15_4 : List T_api_Line) (s16_4 : Int) (s17_4 : Int) : Option slices_EqualFunc_Line_l4_Y := slices_EqualFunc_Line_l4_n N N (s1_4, s15_4, s16_4) s17_4
def slices_EqualFunc_Line_l4_s (N : Nat) : LEnt := smL slices_EqualFunc_Line_l4_p [(.sl 19 t_api_Line), (.sl 19 t_api_Line), (.i .i64), (.i .i64)] slices_EqualFunc_Line_l4_Y (fun x => slices_EqualFunc_Line_l4 N x.1 x.2.1 x.2.2.1 x.2.2.2.1) (csS cs1) fun x => slices_EqualFunc_Line_l4_o (x.1, x.2.1, x.2.2.1)
theorem slices_EqualFunc_Line_l4_ok (N : Nat) : LsOK Tryz.prog slices_EqualFunc_Line_H 50 (lookC Tryz_b50 4) (slices_EqualFunc_Line_l4_s N) := smL_ok fun x z h => slices_EqualFunc_Line_l4_q N (x.1, x.2.1, x.2.2.1) N x.2.2.2.1 z h
def slices_EqualFunc_Line_o (z : Bool) : TV × THp := (xb z, [(50, .cell false (.fn (.func 46) [] []))])
def slices_EqualFunc_Line_t (N : Nat) (a0 : List T_api_Line) (a1 : List T_api_Line) : Tree (Bool) :=
 .cond (!decide (((a0.length : Nat) : Int) = ((a1.length : Nat) : Int))) (
 .ret false) <|
 .bind (slices_EqualFunc_Line_l4 N a1 a0 ((a0.length : Nat) : Int) 0) fun z1 =>
 .sum z1 (fun z2 =>
 .ret false) fun z2 =>
 .ret true
def slices_EqualFunc_Line (N : Nat) (a0 : List T_api_Line) (a1 : List T_api_Line) : Option (Bool) := (slices_EqualFunc_Line_t N a0 a1).run some
def slices_EqualFunc_Line_L (N : Nat) : List (Nat × LEnt) := [(4, slices_EqualFunc_Line_l4_s N)]
def slices_EqualFunc_Line_s (N : Nat) : Ent := smF ⟨50, [], [.x (.sl 19 t_api_Line), .x (.sl 19 t_api_Line), .fn 48 [] [.k (.p 50 [] 0)]], [], [(50, .cell false (.fn 46 [] []))]⟩ [(.sl 19 t_api_Line), (.sl 19 t_api_Line)] (Bool) (fun x => slices_EqualFunc_Line N x.1 x.2.1) cs1 fun _ => slices_EqualFunc_Line_o
theorem slices_EqualFunc_Line_ok (N : Nat) : SmOK Tryz.prog (slices_EqualFunc_Line_s N) :=
  fn_ok (H := slices_EqualFunc_Line_H) (L := lenv (slices_EqualFunc_Line_L N)) (ts := [(.sl 19 t_api_Line), (.sl 19 t_api_Line)]) (T := fun x => slices_EqualFunc_Line_t N x.1 x.2.1) 0 Tryz_F50 (slices_EqualFunc_Line_Eok N) (lenv_ok (by kernel_rfl) ⟨slices_EqualFunc_Line_l4_ok N, trivial⟩) (rg0 (by kernel_rfl)) fun x => by kernel_rfl
noncomputable def Tryz_b17 : Code := Tryz.f17.body.getD .skip
theorem Tryz_F17 : FnF Tryz.prog 17 Tryz.f17 Tryz_b17 := ⟨Tryz_draw, by kernel_rfl, by kernel_rfl, by kernel_rfl⟩
def manifest_Same_H : TH := { live := [(0, [2, 3]), (1, [2, 3, 5]), (2, [2, 3, 6]), (3, [4])], dec := [13] }
def manifest_Same_E (N : Nat) : List Ent := [slices_EqualFunc_Line_s N]
theorem manifest_Same_Eok (N : Nat) : SmAll Tryz.prog (manifest_Same_E N) := ⟨slices_EqualFunc_Line_ok N, trivial⟩
def manifest_Same_o (z : Bool) : TV × THp := (xb z, [])
def manifest_Same_t (N : Nat) (a0 : T_api_Manifest) (a1 : T_api_Manifest) : Tree (Bool) :=
 .cond (eqE (.ba 32) (T_api_Manifest.Base a0) (T_api_Manifest.Base a1)) (
 .bind (slices_EqualFunc_Line N (T_api_Manifest.L a0) (T_api_Manifest.L a1)) fun r1 =>
 .ret r1) <|
 .ret false
def manifest_Same (N : Nat) (a0 : T_api_Manifest) (a1 : T_api_Manifest) : Option (Bool) := (manifest_Same_t N a0 a1).run some
def manifest_Same_L (N : Nat) : List (Nat × LEnt) := []
def manifest_Same_s (N : Nat) : Ent := smF ⟨17, [], [.x t_api_Manifest, .x t_api_Manifest], [], []⟩ [t_api_Manifest, t_api_Manifest] (Bool) (fun x => manifest_Same N x.1 x.2.1) cs1 fun _ => manifest_Same_o
theorem manifest_Same_ok (N : Nat) : SmOK Tryz.prog (manifest_Same_s N) :=
  fn_ok (H := manifest_Same_H) (L := lenv (manifest_Same_L N)) (ts := [t_api_Manifest, t_api_Manifest]) (T := fun x => manifest_Same_t N x.1 x.2.1) 0 Tryz_F17 (manifest_Same_Eok N) (lenv_ok (by kernel_rfl) trivial) (rg0 (by kernel_rfl)) fun x => by kernel_rfl
noncomputable def Tryz_b84 : Code := Tryz.f84.body.getD .skip
theorem Tryz_F84 : FnF Tryz.prog 84 Tryz.f84 Tryz_b84 := ⟨Tryz_draw, by kernel_rfl, by kernel_rfl, by kernel_rfl⟩
def slices_Equal_Field_H : TH := { live := [(0, [0, 1]), (1, [0, 1, 10]), (2, [4]), (3, [0, 1, 12, 13]), (4, [0, 1, 12, 13, 14]), (5, [0, 1, 5, 12, 13]), (6, [0, 1, 12, 13, 24]), (7, [4]), (8, [0, 1, 12, 13]), (9, [4])] }
def slices_Equal_Field_E (N : Nat) : List Ent := []
theorem slices_Equal_Field_Eok (N : Nat) : SmAll Tryz.prog (slices_Equal_Field_E N) := trivial
abbrev slices_Equal_Field_l4_F := List T_api_Field × List T_api_Field × Int
abbrev slices_Equal_Field_l4_Y := Unit ⊕ (Int × Bool)
def slices_Equal_Field_l4_o (f : slices_Equal_Field_l4_F) : slices_Equal_Field_l4_Y → Ex × TSt
 | .inl y => (.ret, ⟨0, 26, [], [(4, .bc false)], [], false, []⟩)
 | .inr y => (.exit 0, ⟨0, 26, [], [(0, .tv (.sl 4 t_api_Field) f.1), (1, .tv (.sl 4 t_api_Field) f.2.1), (12, xi f.2.2), (13, xi y.1), (14, xb y.2)], [], false, []⟩)
def slices_Equal_Field_l4_L (N : Nat) : List (Nat × LEnt) := []
abbrev slices_Equal_Field_l4_V := Int
def slices_Equal_Field_l4_p : SP := ⟨0, 26, [], [(0, .x (.sl 4 t_api_Field)), (1, .x (.sl 4 t_api_Field)), (12, .x (.i .i64)), (13, .x (.i .i64))], [], false, []⟩
def slices_Equal_Field_l4_h (f : slices_Equal_Field_l4_F) (v : slices_Equal_Field_l4_V) : TSt := fillS slices_Equal_Field_l4_p [dv (.sl 4 t_api_Field) f.1, dv (.sl 4 t_api_Field) f.2.1, dv (.i .i64) f.2.2, dv (.i .i64) v]
def slices_Equal_Field_l4_t (N : Nat) (s0_4 : List T_api_Field) (s1_4 : List T_api_Field) (s12_4 : Int) (v : slices_Equal_Field_l4_V) : Tree (slices_Equal_Field_l4_V ⊕ slices_Equal_Field_l4_Y) :=
 .cond (decide (v < s12_4)) (
 .bind (getI s0_4 v) fun e1 =>
 .bind (getI s1_4 v) fun e2 =>
 .cond (!(eqE t_api_Field e1 e2)) (
 .ret (.inr (.inl ()))) <|
 .chk (in64 (v + 1)) <|
 .ret (.inl (v + 1))) <|
 .ret (.inr (.inr ((v, decide (v < s12_4)))))
def slices_Equal_Field_l4_n (N n : Nat) (f : slices_Equal_Field_l4_F) (v : slices_Equal_Field_l4_V) : Option slices_Equal_Field_l4_Y := loopG (slices_Equal_Field_l4_t N f.1 f.2.1 f.2.2) some n v
theorem slices_Equal_Field_l4_q (N : Nat) (f : slices_Equal_Field_l4_F) (n : Nat) (v : slices_Equal_Field_l4_V) (y : slices_Equal_Field_l4_Y) (h : slices_Equal_Field_l4_n N n f v = some y) : LG Tryz.prog slices_Equal_Field_H 84 (lookC Tryz_b84 4) (slices_Equal_Field_l4_h f v) (slices_Equal_Field_l4_o f y) :=
  loop_g Tryz_draw (E := slices_Equal_Field_E N) (L := lenv (slices_Equal_Field_l4_L N)) (st := slices_Equal_Field_l4_o f) (g := some) (R := slices_Equal_Field_l4_o f) (slices_Equal_Field_Eok N) (lenv_ok (by kernel_rfl) trivial) (rg0 (by kernel_rfl)) (fun v => by kernel_rfl) (good_self (st := slices_Equal_Field_l4_o f) fun y => by rcases y with _ | _ <;> rfl) n v y h
def slices_Equal_Field_l4 (N : Nat) (s0_4 : List T_api_Field) (s1_4 : List T_api_Field) (s12_4 : Int) (s13_4 : Int) : Option slices_Equal_Field_l4_Y := slices_Equal_Field_l4_n N N (s0_4, s1_4, s12_4) s13_4
def slices_Equal_Field_l4_s (N : Nat) : LEnt := smL slices_Equal_Field_l4_p [(.sl 4 t_api_Field), (.sl 4 t_api_Field), (.i .i64), (.i .i64)] slices_Equal_Field_l4_Y (fun x => slices_Equal_Field_l4 N x.1 x.2.1 x.2.2.1 x.2.2.2.1) (csS cs1) fun x => slices_Equal_Field_l4_o (x.1, x.2.1, x.2.2.1)
theorem slices_Equal_Field_l4_ok (N : Nat) : LsOK Tryz.prog slices_Equal_Field_H 84 (lookC Tryz_b84 4) (slices_Equal_Field_l4_s N) := smL_ok fun x z h => slices_Equal_Field_l4_q N (x.1, x.2.1, x.2.2.1) N x.2.2.2.1 z h
def slices_Equal_Field_o (z : Bool) : TV × THp := (xb z, [])
def slices_Equal_Field_t (N : Nat) (a0 : List T_api_Field) (a1 : List T_api_Field) : Tree (Bool) :=
 .cond (!decide (((a0.length : Nat) : Int) = ((a1.length : Nat) : Int))) (
 .ret false) <|
 .bind (slices_Equal_Field_l4 N a0 a1 ((a0.length : Nat) : Int) 0) fun z1 =>
 .sum z1 (fun z2 =>
 .ret false) fun z2 =>
 .ret true
def slices_Equal_Field (N : Nat) (a0 : List T_api_Field) (a1 : List T_api_Field) : Option (Bool) := (slices_Equal_Field_t N a0 a1).run some
def slices_Equal_Field_L (N : Nat) : List (Nat × LEnt) := [(4, slices_Equal_Field_l4_s N)]
def slices_Equal_Field_s (N : Nat) : Ent := smF ⟨84, [], [.x (.sl 4 t_api_Field), .x (.sl 4 t_api_Field)], [], []⟩ [(.sl 4 t_api_Field), (.sl 4 t_api_Field)] (Bool) (fun x => slices_Equal_Field N x.1 x.2.1) cs1 fun _ => slices_Equal_Field_o
theorem slices_Equal_Field_ok (N : Nat) : SmOK Tryz.prog (slices_Equal_Field_s N) :=
  fn_ok (H := slices_Equal_Field_H) (L := lenv (slices_Equal_Field_L N)) (ts := [(.sl 4 t_api_Field), (.sl 4 t_api_Field)]) (T := fun x => slices_Equal_Field_t N x.1 x.2.1) 0 Tryz_F84 (slices_Equal_Field_Eok N) (lenv_ok (by kernel_rfl) ⟨slices_Equal_Field_l4_ok N, trivial⟩) (rg0 (by kernel_rfl)) fun x => by kernel_rfl
noncomputable def Tryz_b58 : Code := Tryz.f58.body.getD .skip
theorem Tryz_F58 : FnF Tryz.prog 58 Tryz.f58 Tryz_b58 := ⟨Tryz_draw, by kernel_rfl, by kernel_rfl, by kernel_rfl⟩
def rec_Same_H : TH := { live := [(0, [2, 3]), (1, [4])], dec := [10, 17] }
def rec_Same_E (N : Nat) : List Ent := [slices_Equal_Field_s N]
theorem rec_Same_Eok (N : Nat) : SmAll Tryz.prog (rec_Same_E N) := ⟨slices_Equal_Field_ok N, trivial⟩
def rec_Same_o (z : Bool) : TV × THp := (xb z, [])
def rec_Same_t (N : Nat) (a0 : T_api_Rec) (a1 : T_api_Rec) : Tree (Bool) :=
 .cond (eqE (.ba 16) (T_api_Rec.ID a0) (T_api_Rec.ID a1)) (
 .cond (eqE t_api_Stamp (T_api_Rec.Dead a0) (T_api_Rec.Dead a1)) (
 .bind (slices_Equal_Field N (T_api_Rec.F a0) (T_api_Rec.F a1)) fun r1 =>
 .ret r1) <|
 .ret false) <|
 .ret false
def rec_Same (N : Nat) (a0 : T_api_Rec) (a1 : T_api_Rec) : Option (Bool) := (rec_Same_t N a0 a1).run some
def rec_Same_L (N : Nat) : List (Nat × LEnt) := []
def rec_Same_s (N : Nat) : Ent := smF ⟨58, [], [.x t_api_Rec, .x t_api_Rec], [], []⟩ [t_api_Rec, t_api_Rec] (Bool) (fun x => rec_Same N x.1 x.2.1) cs1 fun _ => rec_Same_o
theorem rec_Same_ok (N : Nat) : SmOK Tryz.prog (rec_Same_s N) :=
  fn_ok (H := rec_Same_H) (L := lenv (rec_Same_L N)) (ts := [t_api_Rec, t_api_Rec]) (T := fun x => rec_Same_t N x.1 x.2.1) 0 Tryz_F58 (rec_Same_Eok N) (lenv_ok (by kernel_rfl) trivial) (rg0 (by kernel_rfl)) fun x => by kernel_rfl
noncomputable def Tryz_b57 : Code := Tryz.f57.body.getD .skip
theorem Tryz_F57 : FnF Tryz.prog 57 Tryz.f57 Tryz_b57 := ⟨Tryz_draw, by kernel_rfl, by kernel_rfl, by kernel_rfl⟩
def slices_EqualFunc_Rec_H : TH := { live := [(0, [0, 1, 2]), (1, [0, 1, 2, 14]), (2, [6]), (3, [1, 2, 15, 16, 17]), (4, [1, 2, 15, 16, 17, 18]), (5, [1, 2, 7, 8, 15, 16, 17]), (6, [1, 2, 8, 9, 15, 16, 17]), (7, [1, 2, 15, 16, 17, 30]), (8, [6]), (9, [1, 2, 15, 16, 17]), (10, [6])] }
def slices_EqualFunc_Rec_E (N : Nat) : List Ent := [rec_Same_s N]
theorem slices_EqualFunc_Rec_Eok (N : Nat) : SmAll Tryz.prog (slices_EqualFunc_Rec_E N) := ⟨rec_Same_ok N, trivial⟩
abbrev slices_EqualFunc_Rec_l4_F := List T_api_Rec × List T_api_Rec × Int
abbrev slices_EqualFunc_Rec_l4_Y := Unit ⊕ (Int × Bool)
def slices_EqualFunc_Rec_l4_o (f : slices_EqualFunc_Rec_l4_F) : slices_EqualFunc_Rec_l4_Y → Ex × TSt
 | .inl y => (.ret, ⟨0, 32, [], [(6, .bc false)], [], false, []⟩)
 | .inr y => (.exit 0, ⟨0, 32, [], [(1, .tv (.sl 19 t_api_Rec) f.1), (2, .fn (.func 58) [] []), (15, .tv (.sl 19 t_api_Rec) f.2.1), (16, xi f.2.2), (17, xi y.1), (18, xb y.2)], [], false, []⟩)
def slices_EqualFunc_Rec_l4_L (N : Nat) : List (Nat × LEnt) := []
abbrev slices_EqualFunc_Rec_l4_V := Int
def slices_EqualFunc_Rec_l4_p : SP := ⟨0, 32, [], [(1, .x (.sl 19 t_api_Rec)), (2, .fn 58 [] []), (15, .x (.sl 19 t_api_Rec)), (16, .x (.i .i64)), (17, .x (.i .i64))], [], false, []⟩
def slices_EqualFunc_Rec_l4_h (f : slices_EqualFunc_Rec_l4_F) (v : slices_EqualFunc_Rec_l4_V) : TSt := fillS slices_EqualFunc_Rec_l4_p [dv (.sl 19 t_api_Rec) f.1, dv (.sl 19 t_api_Rec) f.2.1, dv (.i .i64) f.2.2, dv (.i .i64) v]
def slices_EqualFunc_Rec_l4_t (N : Nat) (s1_4 : List T_api_Rec) (s15_4 : List T_api_Rec) (s16_4 : Int) (v : slices_EqualFunc_Rec_l4_V) : Tree (slices_EqualFunc_Rec_l4_V ⊕ slices_EqualFunc_Rec_l4_Y) :=
 .cond (decide (v < s16_4)) (
 .bind (getI s15_4 v) fun e1 =>
 .bind (getI s1_4 v) fun e2 =>
 .bind (rec_Same N e1 e2) fun r3 =>
 .cond (!r3) (
 .ret (.inr (.inl ()))) <|
 .chk (in64 (v + 1)) <|
 .ret (.inl (v + 1))) <|
 .ret (.inr (.inr ((v, decide (v < s16_4)))))
def slices_EqualFunc_Rec_l4_n (N n : Nat) (f : slices_EqualFunc_Rec_l4_F) (v : slices_EqualFunc_Rec_l4_V) : Option slices_EqualFunc_Rec_l4_Y := loopG (slices_EqualFunc_Rec_l4_t N f.1 f.2.1 f.2.2) some n v
theorem slices_EqualFunc_Rec_l4_q (N : Nat) (f : slices_EqualFunc_Rec_l4_F) (n : Nat) (v : slices_EqualFunc_Rec_l4_V) (y : slices_EqualFunc_Rec_l4_Y) (h : slices_EqualFunc_Rec_l4_n N n f v = some y) : LG Tryz.prog slices_EqualFunc_Rec_H 57 (lookC Tryz_b57 4) (slices_EqualFunc_Rec_l4_h f v) (slices_EqualFunc_Rec_l4_o f y) :=
  loop_g Tryz_draw (E := slices_EqualFunc_Rec_E N) (L := lenv (slices_EqualFunc_Rec_l4_L N)) (st := slices_EqualFunc_Rec_l4_o f) (g := some) (R := slices_EqualFunc_Rec_l4_o f) (slices_EqualFunc_Rec_Eok N) (lenv_ok (by kernel_rfl) trivial) (rg0 (by kernel_rfl)) (fun v => by kernel_rfl) (good_self (st := slices_EqualFunc_Rec_l4_o f) fun y => by rcases y with _ | _ <;> rfl) n v y h
def slices_EqualFunc_Rec_l4 (N : Nat) (s1_4 : List T_api_Rec) (s15_4 : List T_api_Rec) (s16_4 : Int) (s17_4 : Int) : Option slices_EqualFunc_Rec_l4_Y := slices_EqualFunc_Rec_l4_n N N (s1_4, s15_4, s16_4) s17_4
def slices_EqualFunc_Rec_l4_s (N : Nat) : LEnt := smL slices_EqualFunc_Rec_l4_p [(.sl 19 t_api_Rec), (.sl 19 t_api_Rec), (.i .i64), (.i .i64)] slices_EqualFunc_Rec_l4_Y (fun x => slices_EqualFunc_Rec_l4 N x.1 x.2.1 x.2.2.1 x.2.2.2.1) (csS cs1) fun x => slices_EqualFunc_Rec_l4_o (x.1, x.2.1, x.2.2.1)
theorem slices_EqualFunc_Rec_l4_ok (N : Nat) : LsOK Tryz.prog slices_EqualFunc_Rec_H 57 (lookC Tryz_b57 4) (slices_EqualFunc_Rec_l4_s N) := smL_ok fun x z h => slices_EqualFunc_Rec_l4_q N (x.1, x.2.1, x.2.2.1) N x.2.2.2.1 z h
def slices_EqualFunc_Rec_o (z : Bool) : TV × THp := (xb z, [])
def slices_EqualFunc_Rec_t (N : Nat) (a0 : List T_api_Rec) (a1 : List T_api_Rec) : Tree (Bool) :=
 .cond (!decide (((a0.length : Nat) : Int) = ((a1.length : Nat) : Int))) (
 .ret false) <|
 .bind (slices_EqualFunc_Rec_l4 N a1 a0 ((a0.length : Nat) : Int) 0) fun z1 =>
 .sum z1 (fun z2 =>
 .ret false) fun z2 =>
 .ret true
def slices_EqualFunc_Rec (N : Nat) (a0 : List T_api_Rec) (a1 : List T_api_Rec) : Option (Bool) := (slices_EqualFunc_Rec_t N a0 a1).run some
def slices_EqualFunc_Rec_L (N : Nat) : List (Nat × LEnt) := [(4, slices_EqualFunc_Rec_l4_s N)]
def slices_EqualFunc_Rec_s (N : Nat) : Ent := smF ⟨57, [], [.x (.sl 19 t_api_Rec), .x (.sl 19 t_api_Rec), .fn 58 [] []], [], []⟩ [(.sl 19 t_api_Rec), (.sl 19 t_api_Rec)] (Bool) (fun x => slices_EqualFunc_Rec N x.1 x.2.1) cs1 fun _ => slices_EqualFunc_Rec_o
theorem slices_EqualFunc_Rec_ok (N : Nat) : SmOK Tryz.prog (slices_EqualFunc_Rec_s N) :=
  fn_ok (H := slices_EqualFunc_Rec_H) (L := lenv (slices_EqualFunc_Rec_L N)) (ts := [(.sl 19 t_api_Rec), (.sl 19 t_api_Rec)]) (T := fun x => slices_EqualFunc_Rec_t N x.1 x.2.1) 0 Tryz_F57 (slices_EqualFunc_Rec_Eok N) (lenv_ok (by kernel_rfl) ⟨slices_EqualFunc_Rec_l4_ok N, trivial⟩) (rg0 (by kernel_rfl)) fun x => by kernel_rfl
noncomputable def Tryz_b26 : Code := Tryz.f26.body.getD .skip
theorem Tryz_F26 : FnF Tryz.prog 26 Tryz.f26 Tryz_b26 := ⟨Tryz_draw, by kernel_rfl, by kernel_rfl, by kernel_rfl⟩
def book_Same_H : TH := { live := [(0, [2, 3]), (1, [4])] }
def book_Same_E (N : Nat) : List Ent := [slices_EqualFunc_Rec_s N]
theorem book_Same_Eok (N : Nat) : SmAll Tryz.prog (book_Same_E N) := ⟨slices_EqualFunc_Rec_ok N, trivial⟩
def book_Same_o (z : Bool) : TV × THp := (xb z, [])
def book_Same_t (N : Nat) (a0 : T_api_Book) (a1 : T_api_Book) : Tree (Bool) :=
 .bind (slices_EqualFunc_Rec N (T_api_Book.R a0) (T_api_Book.R a1)) fun r1 =>
 .ret r1
def book_Same (N : Nat) (a0 : T_api_Book) (a1 : T_api_Book) : Option (Bool) := (book_Same_t N a0 a1).run some
def book_Same_L (N : Nat) : List (Nat × LEnt) := []
def book_Same_s (N : Nat) : Ent := smF ⟨26, [], [.x t_api_Book, .x t_api_Book], [], []⟩ [t_api_Book, t_api_Book] (Bool) (fun x => book_Same N x.1 x.2.1) cs1 fun _ => book_Same_o
theorem book_Same_ok (N : Nat) : SmOK Tryz.prog (book_Same_s N) :=
  fn_ok (H := book_Same_H) (L := lenv (book_Same_L N)) (ts := [t_api_Book, t_api_Book]) (T := fun x => book_Same_t N x.1 x.2.1) 0 Tryz_F26 (book_Same_Eok N) (lenv_ok (by kernel_rfl) trivial) (rg0 (by kernel_rfl)) fun x => by kernel_rfl
noncomputable def Tryz_b7 : Code := Tryz.f7.body.getD .skip
theorem Tryz_F7 : FnF Tryz.prog 7 Tryz.f7 Tryz_b7 := ⟨Tryz_draw, by kernel_rfl, by kernel_rfl, by kernel_rfl⟩
def rolodexlaw12_ManifestSame_H : TH := { live := [(0, [2, 3]), (1, [2, 3, 5]), (2, [2, 3, 5, 6]), (3, [2, 3, 5, 6, 7]), (4, [2, 3, 5, 6, 7, 8, 9]), (5, [2, 3, 5, 6, 7, 8, 9, 10, 11]), (6, [2, 3, 5, 8, 10, 45]), (7, [4]), (8, [2, 3, 8, 10, 12]), (9, [8, 10, 12, 52]), (10, [4]), (11, [4])], dec := [30, 34, 38, 42, 56] }
def rolodexlaw12_ManifestSame_E (N : Nat) : List Ent := [auto9_s, rolodexlaw07_Few_s N, manifest_Of_s N, manifest_Same_s N, book_Same_s N]
theorem rolodexlaw12_ManifestSame_Eok (N : Nat) : SmAll Tryz.prog (rolodexlaw12_ManifestSame_E N) := ⟨auto9_ok, rolodexlaw07_Few_ok N, manifest_Of_ok N, manifest_Same_ok N, book_Same_ok N, trivial⟩
def rolodexlaw12_ManifestSame_o (z : Bool) : TV × THp := (xb z, [])
def rolodexlaw12_ManifestSame_t (N : Nat) (a0 : T_api_Book) (a1 : T_api_Book) : Tree (Bool) :=
 .bind (auto9) fun r1 =>
 .bind (rolodexlaw07_Few N a0) fun r2 =>
 .bind (rolodexlaw07_Few N a1) fun r3 =>
 .bind (manifest_Of N a0) fun r4 =>
 .bind (manifest_Of N a1) fun r5 =>
 .cond (!r1) (
 .ret r1) <|
 .cond (!r2) (
 .ret r1) <|
 .cond (!r3) (
 .ret r1) <|
 .cond (!r4.2) (
 .ret r1) <|
 .cond (!r5.2) (
 .ret r1) <|
 .bind (manifest_Same N r4.1 r5.1) fun r6 =>
 .bind (book_Same N a0 a1) fun r7 =>
 .cond r7 (
 .ret r6) <|
 .cond (!r6) (
 .ret true) <|
 .ret (eqE (.ba 32) (T_api_Manifest.Base r4.1) (T_api_Manifest.Base r5.1))
def rolodexlaw12_ManifestSame (N : Nat) (a0 : T_api_Book) (a1 : T_api_Book) : Option (Bool) := (rolodexlaw12_ManifestSame_t N a0 a1).run some
def rolodexlaw12_ManifestSame_L (N : Nat) : List (Nat × LEnt) := []
def rolodexlaw12_ManifestSame_s (N : Nat) : Ent := smF ⟨7, [], [.x t_api_Book, .x t_api_Book], [], []⟩ [t_api_Book, t_api_Book] (Bool) (fun x => rolodexlaw12_ManifestSame N x.1 x.2.1) cs1 fun _ => rolodexlaw12_ManifestSame_o
theorem rolodexlaw12_ManifestSame_val (N : Nat) : FnVal Tryz.prog ⟨7, [], [.x t_api_Book, .x t_api_Book], [], []⟩ [t_api_Book, t_api_Book] (fun x => rolodexlaw12_ManifestSame_t N x.1 x.2.1) (fun _ => rolodexlaw12_ManifestSame_o) :=
  fn_val (H := rolodexlaw12_ManifestSame_H) (L := lenv (rolodexlaw12_ManifestSame_L N)) 0 Tryz_F7 (rolodexlaw12_ManifestSame_Eok N) (lenv_ok (by kernel_rfl) trivial) (rg0 (by kernel_rfl)) fun x => by kernel_rfl
theorem rolodexlaw12_ManifestSame_ok (N : Nat) : SmOK Tryz.prog (rolodexlaw12_ManifestSame_s N) := smF_ok (rolodexlaw12_ManifestSame_val N)
noncomputable def Tryz_b61 : Code := Tryz.f61.body.getD .skip
theorem Tryz_F61 : FnF Tryz.prog 61 Tryz.f61 Tryz_b61 := ⟨Tryz_draw, by kernel_rfl, by kernel_rfl, by kernel_rfl⟩
def book_Find_1_H : TH := { live := [(0, [1, 2]), (1, [3])] }
def book_Find_1_E (N : Nat) : List Ent := []
theorem book_Find_1_Eok (N : Nat) : SmAll Tryz.prog (book_Find_1_E N) := trivial
def book_Find_1_o (a0 : Vector UInt8 16) (a1 : T_api_Rec) (z : Unit) : TV × THp := (xb (eqE (.ba 16) (T_api_Rec.ID a1) a0), [(30, .cell false (.tv (.ba 16) a0))])
def book_Find_1_t (a0 : Vector UInt8 16) (a1 : T_api_Rec) : Tree (Unit) :=
 .ret ()
def book_Find_1 (a0 : Vector UInt8 16) (a1 : T_api_Rec) : Option (Unit) := (book_Find_1_t a0 a1).run some
def book_Find_1_L : List (Nat × LEnt) := []
def book_Find_1_s : Ent := smF ⟨61, [], [.x t_api_Rec], [.k (.p 30 [] 0)], [(30, .cell false (.x (.ba 16)))]⟩ [(.ba 16), t_api_Rec] (Unit) (fun x => book_Find_1 x.1 x.2.1) cs1 fun x => book_Find_1_o x.1 x.2.1
theorem book_Find_1_ok : SmOK Tryz.prog (book_Find_1_s) :=
  fn_ok (H := book_Find_1_H) (L := lenv (book_Find_1_L)) (ts := [(.ba 16), t_api_Rec]) (T := fun x => book_Find_1_t x.1 x.2.1) 0 Tryz_F61 (book_Find_1_Eok 0) (lenv_ok (by kernel_rfl) trivial) (rg0 (by kernel_rfl)) fun x => by kernel_rfl
noncomputable def Tryz_b60 : Code := Tryz.f60.body.getD .skip
theorem Tryz_F60 : FnF Tryz.prog 60 Tryz.f60 Tryz_b60 := ⟨Tryz_draw, by kernel_rfl, by kernel_rfl, by kernel_rfl⟩
def slices_IndexFunc_Rec_H : TH := { live := [(0, [0, 1]), (1, [0, 1, 7, 8]), (2, [0, 1, 7, 8, 9]), (3, [0, 1, 5, 7, 8]), (4, [0, 1, 5, 7, 8, 16]), (5, [4]), (6, [0, 1, 7, 8]), (7, [4])] }
def slices_IndexFunc_Rec_E (N : Nat) : List Ent := [book_Find_1_s]
theorem slices_IndexFunc_Rec_Eok (N : Nat) : SmAll Tryz.prog (slices_IndexFunc_Rec_E N) := ⟨book_Find_1_ok, trivial⟩
abbrev slices_IndexFunc_Rec_l2_F := Vector UInt8 16 × List T_api_Rec × Int
abbrev slices_IndexFunc_Rec_l2_Y := Int ⊕ (Int × Bool)
def slices_IndexFunc_Rec_l2_o (f : slices_IndexFunc_Rec_l2_F) : slices_IndexFunc_Rec_l2_Y → Ex × TSt
 | .inl y => (.ret, ⟨1, 19, [30], [(4, xi y)], [(30, .cell false (.tv (.ba 16) f.1))], false, []⟩)
 | .inr y => (.exit 0, ⟨1, 19, [30], [(0, .tv (.sl 19 t_api_Rec) f.2.1), (1, .fn (.func 61) [] [.p 30 [] 0]), (7, xi f.2.2), (8, xi y.1), (9, xb y.2)], [(30, .cell false (.tv (.ba 16) f.1))], false, []⟩)
def slices_IndexFunc_Rec_l2_L (N : Nat) : List (Nat × LEnt) := []
abbrev slices_IndexFunc_Rec_l2_V := Int
def slices_IndexFunc_Rec_l2_p : SP := ⟨1, 19, [30], [(0, .x (.sl 19 t_api_Rec)), (1, .fn 61 [] [.k (.p 30 [] 0)]), (7, .x (.i .i64)), (8, .x (.i .i64))], [(30, .cell false (.x (.ba 16)))], false, []⟩
def slices_IndexFunc_Rec_l2_h (f : slices_IndexFunc_Rec_l2_F) (v : slices_IndexFunc_Rec_l2_V) : TSt := fillS slices_IndexFunc_Rec_l2_p [dv (.ba 16) f.1, dv (.sl 19 t_api_Rec) f.2.1, dv (.i .i64) f.2.2, dv (.i .i64) v]
def slices_IndexFunc_Rec_l2_t (N : Nat) (o_2 : Vector UInt8 16) (s0_2 : List T_api_Rec) (s7_2 : Int) (v : slices_IndexFunc_Rec_l2_V) : Tree (slices_IndexFunc_Rec_l2_V ⊕ slices_IndexFunc_Rec_l2_Y) :=
 .cond (decide (v < s7_2)) (
 .bind (getI s0_2 v) fun e1 =>
 .bind (book_Find_1 o_2 e1) fun r2 =>
 .cond (eqE (.ba 16) (T_api_Rec.ID e1) o_2) (
 .ret (.inr (.inl v))) <|
 .chk (in64 (v + 1)) <|
 .ret (.inl (v + 1))) <|
 .ret (.inr (.inr ((v, decide (v < s7_2)))))
def slices_IndexFunc_Rec_l2_n (N n : Nat) (f : slices_IndexFunc_Rec_l2_F) (v : slices_IndexFunc_Rec_l2_V) : Option slices_IndexFunc_Rec_l2_Y := loopG (slices_IndexFunc_Rec_l2_t N f.1 f.2.1 f.2.2) some n v
theorem slices_IndexFunc_Rec_l2_q (N : Nat) (f : slices_IndexFunc_Rec_l2_F) (n : Nat) (v : slices_IndexFunc_Rec_l2_V) (y : slices_IndexFunc_Rec_l2_Y) (h : slices_IndexFunc_Rec_l2_n N n f v = some y) : LG Tryz.prog slices_IndexFunc_Rec_H 60 (lookC Tryz_b60 2) (slices_IndexFunc_Rec_l2_h f v) (slices_IndexFunc_Rec_l2_o f y) :=
  loop_g Tryz_draw (E := slices_IndexFunc_Rec_E N) (L := lenv (slices_IndexFunc_Rec_l2_L N)) (st := slices_IndexFunc_Rec_l2_o f) (g := some) (R := slices_IndexFunc_Rec_l2_o f) (slices_IndexFunc_Rec_Eok N) (lenv_ok (by kernel_rfl) trivial) (rg0 (by kernel_rfl)) (fun v => by kernel_rfl) (good_self (st := slices_IndexFunc_Rec_l2_o f) fun y => by rcases y with _ | _ <;> rfl) n v y h
def slices_IndexFunc_Rec_l2 (N : Nat) (o_2 : Vector UInt8 16) (s0_2 : List T_api_Rec) (s7_2 : Int) (s8_2 : Int) : Option slices_IndexFunc_Rec_l2_Y := slices_IndexFunc_Rec_l2_n N N (o_2, s0_2, s7_2) s8_2
def slices_IndexFunc_Rec_l2_s (N : Nat) : LEnt := smL slices_IndexFunc_Rec_l2_p [(.ba 16), (.sl 19 t_api_Rec), (.i .i64), (.i .i64)] slices_IndexFunc_Rec_l2_Y (fun x => slices_IndexFunc_Rec_l2 N x.1 x.2.1 x.2.2.1 x.2.2.2.1) (csS cs1) fun x => slices_IndexFunc_Rec_l2_o (x.1, x.2.1, x.2.2.1)
theorem slices_IndexFunc_Rec_l2_ok (N : Nat) : LsOK Tryz.prog slices_IndexFunc_Rec_H 60 (lookC Tryz_b60 2) (slices_IndexFunc_Rec_l2_s N) := smL_ok fun x z h => slices_IndexFunc_Rec_l2_q N (x.1, x.2.1, x.2.2.1) N x.2.2.2.1 z h
def slices_IndexFunc_Rec_o (a0 : Vector UInt8 16) (z : Int) : TV × THp := (xi z, [(30, .cell false (.tv (.ba 16) a0))])
def slices_IndexFunc_Rec_t (N : Nat) (a0 : Vector UInt8 16) (a1 : List T_api_Rec) : Tree (Int) :=
 .bind (slices_IndexFunc_Rec_l2 N a0 a1 ((a1.length : Nat) : Int) 0) fun z1 =>
 .sum z1 (fun z2 =>
 .ret z2) fun z2 =>
 .ret (-1)
def slices_IndexFunc_Rec (N : Nat) (a0 : Vector UInt8 16) (a1 : List T_api_Rec) : Option (Int) := (slices_IndexFunc_Rec_t N a0 a1).run some
def slices_IndexFunc_Rec_L (N : Nat) : List (Nat × LEnt) := [(2, slices_IndexFunc_Rec_l2_s N)]
def slices_IndexFunc_Rec_s (N : Nat) : Ent := smF ⟨60, [], [.x (.sl 19 t_api_Rec), .fn 61 [] [.k (.p 30 [] 0)]], [], [(30, .cell false (.x (.ba 16)))]⟩ [(.ba 16), (.sl 19 t_api_Rec)] (Int) (fun x => slices_IndexFunc_Rec N x.1 x.2.1) cs1 fun x => slices_IndexFunc_Rec_o x.1
theorem slices_IndexFunc_Rec_ok (N : Nat) : SmOK Tryz.prog (slices_IndexFunc_Rec_s N) :=
  fn_ok (H := slices_IndexFunc_Rec_H) (L := lenv (slices_IndexFunc_Rec_L N)) (ts := [(.ba 16), (.sl 19 t_api_Rec)]) (T := fun x => slices_IndexFunc_Rec_t N x.1 x.2.1) 0 Tryz_F60 (slices_IndexFunc_Rec_Eok N) (lenv_ok (by kernel_rfl) ⟨slices_IndexFunc_Rec_l2_ok N, trivial⟩) (rg0 (by kernel_rfl)) fun x => by kernel_rfl
noncomputable def Tryz_b87 : Code := Tryz.f87.body.getD .skip
theorem Tryz_F87 : FnF Tryz.prog 87 Tryz.f87 Tryz_b87 := ⟨Tryz_draw, by kernel_rfl, by kernel_rfl, by kernel_rfl⟩
def slices_Clone_Field_H : TH := { live := [(0, [0]), (1, [0, 4]), (2, [2]), (3, [2])], vecs := [5] }
def slices_Clone_Field_E (N : Nat) : List Ent := []
theorem slices_Clone_Field_Eok (N : Nat) : SmAll Tryz.prog (slices_Clone_Field_E N) := trivial
def slices_Clone_Field_o (a0 : List T_api_Field) (z : Unit) : TV × THp := (.tv (.sl 4 t_api_Field) ((([] : List T_api_Field)) ++ a0 : List T_api_Field), [])
def slices_Clone_Field_t (a0 : List T_api_Field) : Tree (Unit) :=
 .chk (List.isEmpty a0 = false) <|
 .chk (avOK ((([] : List T_api_Field)).length) 0 (((([] : List T_api_Field)) ++ a0).length) 40) <|
 .chk (((([] : List T_api_Field)) ++ a0).length = ((([] : List T_api_Field)) ++ a0).length) <|
 .ret ()
def slices_Clone_Field (a0 : List T_api_Field) : Option (Unit) := (slices_Clone_Field_t a0).run some
def slices_Clone_Field_L : List (Nat × LEnt) := []
def slices_Clone_Field_s : Ent := smF ⟨87, [], [.x (.sl 4 t_api_Field)], [], []⟩ [(.sl 4 t_api_Field)] (Unit) (fun x => slices_Clone_Field x.1) cs1 fun x => slices_Clone_Field_o x.1
theorem slices_Clone_Field_val : FnVal Tryz.prog ⟨87, [], [.x (.sl 4 t_api_Field)], [], []⟩ [(.sl 4 t_api_Field)] (fun x => slices_Clone_Field_t x.1) (fun x => slices_Clone_Field_o x.1) :=
  fn_val (H := slices_Clone_Field_H) (L := lenv (slices_Clone_Field_L)) 0 Tryz_F87 (slices_Clone_Field_Eok 0) (lenv_ok (by kernel_rfl) trivial) (rg0 (by kernel_rfl)) fun x => by kernel_rfl
theorem slices_Clone_Field_ok : SmOK Tryz.prog (slices_Clone_Field_s) := smF_ok (slices_Clone_Field_val)
def slices_Clone_Field_2_H : TH := { live := [(0, [0]), (1, [0, 4]), (2, [2]), (3, [2])], vecs := [5] }
def slices_Clone_Field_2_E (N : Nat) : List Ent := []
theorem slices_Clone_Field_2_Eok (N : Nat) : SmAll Tryz.prog (slices_Clone_Field_2_E N) := trivial
def slices_Clone_Field_2_o (z : Unit) : TV × THp := (.tv (.sl 4 t_api_Field) ([] : List T_api_Field), [])
def slices_Clone_Field_2_t : Tree (Unit) :=
 .chk (0 = 0) <|
 .chk (0 = 0) <|
 .ret ()
def slices_Clone_Field_2 : Option (Unit) := (slices_Clone_Field_2_t).run some
def slices_Clone_Field_2_L : List (Nat × LEnt) := []
def slices_Clone_Field_2_s : Ent := smF ⟨87, [], [.k (.es 0)], [], []⟩ [] (Unit) (fun x => slices_Clone_Field_2) cs1 fun _ => slices_Clone_Field_2_o
theorem slices_Clone_Field_2_val : FnVal Tryz.prog ⟨87, [], [.k (.es 0)], [], []⟩ [] (fun x => slices_Clone_Field_2_t) (fun _ => slices_Clone_Field_2_o) :=
  fn_val (H := slices_Clone_Field_2_H) (L := lenv (slices_Clone_Field_2_L)) 0 Tryz_F87 (slices_Clone_Field_2_Eok 0) (lenv_ok (by kernel_rfl) trivial) (rg0 (by kernel_rfl)) fun x => by kernel_rfl
theorem slices_Clone_Field_2_ok : SmOK Tryz.prog (slices_Clone_Field_2_s) := smF_ok (slices_Clone_Field_2_val)
def slices_Clone_Field_3_H : TH := { live := [(0, [0]), (1, [0, 4]), (2, [2]), (3, [2])], vecs := [5] }
def slices_Clone_Field_3_E (N : Nat) : List Ent := []
theorem slices_Clone_Field_3_Eok (N : Nat) : SmAll Tryz.prog (slices_Clone_Field_3_E N) := trivial
def slices_Clone_Field_3_o (z : Unit) : TV × THp := (.tv (.sl 4 t_api_Field) ([] : List T_api_Field), [])
def slices_Clone_Field_3_t : Tree (Unit) :=
 .ret ()
def slices_Clone_Field_3 : Option (Unit) := (slices_Clone_Field_3_t).run some
def slices_Clone_Field_3_L : List (Nat × LEnt) := []
def slices_Clone_Field_3_s : Ent := smF ⟨87, [], [.k (.es 1)], [], []⟩ [] (Unit) (fun x => slices_Clone_Field_3) cs1 fun _ => slices_Clone_Field_3_o
theorem slices_Clone_Field_3_val : FnVal Tryz.prog ⟨87, [], [.k (.es 1)], [], []⟩ [] (fun x => slices_Clone_Field_3_t) (fun _ => slices_Clone_Field_3_o) :=
  fn_val (H := slices_Clone_Field_3_H) (L := lenv (slices_Clone_Field_3_L)) 0 Tryz_F87 (slices_Clone_Field_3_Eok 0) (lenv_ok (by kernel_rfl) trivial) (rg0 (by kernel_rfl)) fun x => by kernel_rfl
theorem slices_Clone_Field_3_ok : SmOK Tryz.prog (slices_Clone_Field_3_s) := smF_ok (slices_Clone_Field_3_val)
def slices_Clone_FieldW_c0 (z : Unit) : Unit := ()
def slices_Clone_FieldW_c1 (z : Unit) : Unit := ()
def slices_Clone_FieldW (a0 : List T_api_Field) : Option (Unit) :=
 bif a0.isEmpty then
  (slices_Clone_Field_2).bind fun z0 => (slices_Clone_Field_3).bind fun z1 => chk (slices_Clone_FieldW_c0 z0 = slices_Clone_FieldW_c1 z1) (some (slices_Clone_FieldW_c0 z0))
 else slices_Clone_Field a0
def slices_Clone_FieldW_s : Ent := smF ⟨87, [], [.x (.sl 4 t_api_Field)], [], []⟩ [(.sl 4 t_api_Field)] (Unit) (fun x => slices_Clone_FieldW x.1) cs1 fun x => slices_Clone_Field_o x.1
theorem slices_Clone_FieldW_ok : SmOK Tryz.prog (slices_Clone_FieldW_s) := smF_ok fun x z h l => by
  obtain ⟨a0, _⟩ := x
  replace h : slices_Clone_FieldW a0 = some z := h
  unfold slices_Clone_FieldW at h
  rcases cond_some h with ⟨e, h2⟩ | ⟨_, h2⟩ <;> clear h
  · have e := List.isEmpty_iff.1 e
    subst e
    obtain ⟨z0, c0, h2⟩ := bind_some h2
    obtain ⟨z1, c1, h2⟩ := bind_some h2
    obtain ⟨hE, h2⟩ := chk_some h2
    obtain rfl := Option.some.inj h2
    refine maybe_val (t := (.sl 4 t_api_Field)) (x := []) rfl (TV.ers []) (TV.ers []) (by exact slices_Clone_Field_2_val (()) _ c0 l) ?_
    rw [hE]
    exact (by exact slices_Clone_Field_3_val (()) _ c1 l)
  · exact slices_Clone_Field_val (a0, ()) z h2 l
noncomputable def Tryz_b62 : Code := Tryz.f62.body.getD .skip
theorem Tryz_F62 : FnF Tryz.prog 62 Tryz.f62 Tryz_b62 := ⟨Tryz_draw, by kernel_rfl, by kernel_rfl, by kernel_rfl⟩
def book_own_H : TH := { live := [(0, [1, 2]), (1, [1, 2]), (2, [2])], nil := [(0, [⟨.ob 20 [2], 25, (.sl 4 t_api_Field)⟩])] }
def book_own_E (N : Nat) : List Ent := [slices_Clone_FieldW_s]
theorem book_own_Eok (N : Nat) : SmAll Tryz.prog (book_own_E N) := ⟨slices_Clone_FieldW_ok, trivial⟩
def book_own_o (a0 : T_api_Rec) (z : Unit) : TV × THp := (.tv t_api_Rec (T_api_Rec.mk (T_api_Rec.ID a0) (T_api_Rec.Dead a0) ((([] : List T_api_Field)) ++ (T_api_Rec.F a0))), [])
def book_own_t (a0 : T_api_Rec) : Tree (Unit) :=
 .bind (slices_Clone_FieldW (T_api_Rec.F a0)) fun r1 =>
 .ret ()
def book_own (a0 : T_api_Rec) : Option (Unit) := (book_own_t a0).run some
def book_own_L : List (Nat × LEnt) := []
def book_own_s : Ent := smF ⟨62, [], [.x t_api_Rec], [], []⟩ [t_api_Rec] (Unit) (fun x => book_own x.1) cs1 fun x => book_own_o x.1
theorem book_own_ok : SmOK Tryz.prog (book_own_s) :=
  fn_ok (H := book_own_H) (L := lenv (book_own_L)) (ts := [t_api_Rec]) (T := fun x => book_own_t x.1) 0 Tryz_F62 (book_own_Eok 0) (lenv_ok (by kernel_rfl) trivial) (rg0 (by kernel_rfl)) fun x => by kernel_rfl
noncomputable def Tryz_b28 : Code := Tryz.f28.body.getD .skip
theorem Tryz_F28 : FnF Tryz.prog 28 Tryz.f28 Tryz_b28 := ⟨Tryz_draw, by kernel_rfl, by kernel_rfl, by kernel_rfl⟩
def book_Find_H : TH := { live := [(0, [2, 3, 4]), (1, [2, 4, 6]), (2, [2, 4, 6, 12]), (3, [4, 5]), (4, [4, 5])], nil := [(0, [⟨.ob 40 [2], 45, (.sl 4 t_api_Field)⟩]), (3, [⟨.ob 40 [2], 45, (.sl 4 t_api_Field)⟩])] }
def book_Find_E (N : Nat) : List Ent := [slices_IndexFunc_Rec_s N, book_own_s]
theorem book_Find_Eok (N : Nat) : SmAll Tryz.prog (book_Find_E N) := ⟨slices_IndexFunc_Rec_ok N, book_own_ok, trivial⟩
def book_Find_o (z : T_api_Rec × Bool) : TV × THp := (.tup [.tv t_api_Rec (z.1 : T_api_Rec), xb z.2], [])
def book_Find_t (N : Nat) (a0 : T_api_Book) (a1 : Vector UInt8 16) : Tree (T_api_Rec × Bool) :=
 .bind (slices_IndexFunc_Rec N a1 (T_api_Book.R a0)) fun r1 =>
 .cond (decide (r1 < ((0 : Int)))) (
 .chk (0 = 0) <|
 .ret (T_api_Rec.mk ((Vector.replicate 16 0)) (T_api_Stamp.mk 0 0) [], false)) <|
 .bind (getI (T_api_Book.R a0) r1) fun e2 =>
 .bind (book_own e2) fun r3 =>
 .ret (T_api_Rec.mk (T_api_Rec.ID e2) (T_api_Rec.Dead e2) ((([] : List T_api_Field)) ++ (T_api_Rec.F e2)), true)
def book_Find (N : Nat) (a0 : T_api_Book) (a1 : Vector UInt8 16) : Option (T_api_Rec × Bool) := (book_Find_t N a0 a1).run some
def book_Find_L (N : Nat) : List (Nat × LEnt) := []
def book_Find_s (N : Nat) : Ent := smF ⟨28, [], [.x t_api_Book, .x (.ba 16)], [], []⟩ [t_api_Book, (.ba 16)] (T_api_Rec × Bool) (fun x => book_Find N x.1 x.2.1) cs1 fun _ => book_Find_o
theorem book_Find_ok (N : Nat) : SmOK Tryz.prog (book_Find_s N) :=
  fn_ok (H := book_Find_H) (L := lenv (book_Find_L N)) (ts := [t_api_Book, (.ba 16)]) (T := fun x => book_Find_t N x.1 x.2.1) 0 Tryz_F28 (book_Find_Eok N) (lenv_ok (by kernel_rfl) trivial) (rg0 (by kernel_rfl)) fun x => by kernel_rfl
noncomputable def Tryz_b64 : Code := Tryz.f64.body.getD .skip
theorem Tryz_F64 : FnF Tryz.prog 64 Tryz.f64 Tryz_b64 := ⟨Tryz_draw, by kernel_rfl, by kernel_rfl, by kernel_rfl⟩
def rec_Find_1_H : TH := { live := [(0, [1, 2]), (1, [3])] }
def rec_Find_1_E (N : Nat) : List Ent := []
theorem rec_Find_1_Eok (N : Nat) : SmAll Tryz.prog (rec_Find_1_E N) := trivial
def rec_Find_1_o (a0 : Int) (a1 : T_api_Field) (z : Unit) : TV × THp := (xb (decide ((T_api_Field.No a1) = a0)), [(30, .cell false (xi a0))])
def rec_Find_1_t (a0 : Int) (a1 : T_api_Field) : Tree (Unit) :=
 .ret ()
def rec_Find_1 (a0 : Int) (a1 : T_api_Field) : Option (Unit) := (rec_Find_1_t a0 a1).run some
def rec_Find_1_L : List (Nat × LEnt) := []
def rec_Find_1_s : Ent := smF ⟨64, [], [.x t_api_Field], [.k (.p 30 [] 0)], [(30, .cell false (.x (.i .i64)))]⟩ [(.i .i64), t_api_Field] (Unit) (fun x => rec_Find_1 x.1 x.2.1) cs1 fun x => rec_Find_1_o x.1 x.2.1
theorem rec_Find_1_ok : SmOK Tryz.prog (rec_Find_1_s) :=
  fn_ok (H := rec_Find_1_H) (L := lenv (rec_Find_1_L)) (ts := [(.i .i64), t_api_Field]) (T := fun x => rec_Find_1_t x.1 x.2.1) 0 Tryz_F64 (rec_Find_1_Eok 0) (lenv_ok (by kernel_rfl) trivial) (rg0 (by kernel_rfl)) fun x => by kernel_rfl
noncomputable def Tryz_b63 : Code := Tryz.f63.body.getD .skip
theorem Tryz_F63 : FnF Tryz.prog 63 Tryz.f63 Tryz_b63 := ⟨Tryz_draw, by kernel_rfl, by kernel_rfl, by kernel_rfl⟩
def slices_IndexFunc_Field_H : TH := { live := [(0, [0, 1]), (1, [0, 1, 7, 8]), (2, [0, 1, 7, 8, 9]), (3, [0, 1, 5, 7, 8]), (4, [0, 1, 5, 7, 8, 16]), (5, [4]), (6, [0, 1, 7, 8]), (7, [4])] }
def slices_IndexFunc_Field_E (N : Nat) : List Ent := [rec_Find_1_s]
theorem slices_IndexFunc_Field_Eok (N : Nat) : SmAll Tryz.prog (slices_IndexFunc_Field_E N) := ⟨rec_Find_1_ok, trivial⟩
abbrev slices_IndexFunc_Field_l2_F := Int × List T_api_Field × Int
abbrev slices_IndexFunc_Field_l2_Y := Int ⊕ (Int × Bool)
def slices_IndexFunc_Field_l2_o (f : slices_IndexFunc_Field_l2_F) : slices_IndexFunc_Field_l2_Y → Ex × TSt
 | .inl y => (.ret, ⟨1, 19, [30], [(4, xi y)], [(30, .cell false (xi f.1))], false, []⟩)
 | .inr y => (.exit 0, ⟨1, 19, [30], [(0, .tv (.sl 4 t_api_Field) f.2.1), (1, .fn (.func 64) [] [.p 30 [] 0]), (7, xi f.2.2), (8, xi y.1), (9, xb y.2)], [(30, .cell false (xi f.1))], false, []⟩)
def slices_IndexFunc_Field_l2_L (N : Nat) : List (Nat × LEnt) := []
abbrev slices_IndexFunc_Field_l2_V := Int
def slices_IndexFunc_Field_l2_p : SP := ⟨1, 19, [30], [(0, .x (.sl 4 t_api_Field)), (1, .fn 64 [] [.k (.p 30 [] 0)]), (7, .x (.i .i64)), (8, .x (.i .i64))], [(30, .cell false (.x (.i .i64)))], false, []⟩
def slices_IndexFunc_Field_l2_h (f : slices_IndexFunc_Field_l2_F) (v : slices_IndexFunc_Field_l2_V) : TSt := fillS slices_IndexFunc_Field_l2_p [dv (.i .i64) f.1, dv (.sl 4 t_api_Field) f.2.1, dv (.i .i64) f.2.2, dv (.i .i64) v]
def slices_IndexFunc_Field_l2_t (N : Nat) (o_2 : Int) (s0_2 : List T_api_Field) (s7_2 : Int) (v : slices_IndexFunc_Field_l2_V) : Tree (slices_IndexFunc_Field_l2_V ⊕ slices_IndexFunc_Field_l2_Y) :=
 .cond (decide (v < s7_2)) (
 .bind (getI s0_2 v) fun e1 =>
 .bind (rec_Find_1 o_2 e1) fun r2 =>
 .cond (decide ((T_api_Field.No e1) = o_2)) (
 .ret (.inr (.inl v))) <|
 .chk (in64 (v + 1)) <|
 .ret (.inl (v + 1))) <|
 .ret (.inr (.inr ((v, decide (v < s7_2)))))
def slices_IndexFunc_Field_l2_n (N n : Nat) (f : slices_IndexFunc_Field_l2_F) (v : slices_IndexFunc_Field_l2_V) : Option slices_IndexFunc_Field_l2_Y := loopG (slices_IndexFunc_Field_l2_t N f.1 f.2.1 f.2.2) some n v
theorem slices_IndexFunc_Field_l2_q (N : Nat) (f : slices_IndexFunc_Field_l2_F) (n : Nat) (v : slices_IndexFunc_Field_l2_V) (y : slices_IndexFunc_Field_l2_Y) (h : slices_IndexFunc_Field_l2_n N n f v = some y) : LG Tryz.prog slices_IndexFunc_Field_H 63 (lookC Tryz_b63 2) (slices_IndexFunc_Field_l2_h f v) (slices_IndexFunc_Field_l2_o f y) :=
  loop_g Tryz_draw (E := slices_IndexFunc_Field_E N) (L := lenv (slices_IndexFunc_Field_l2_L N)) (st := slices_IndexFunc_Field_l2_o f) (g := some) (R := slices_IndexFunc_Field_l2_o f) (slices_IndexFunc_Field_Eok N) (lenv_ok (by kernel_rfl) trivial) (rg0 (by kernel_rfl)) (fun v => by kernel_rfl) (good_self (st := slices_IndexFunc_Field_l2_o f) fun y => by rcases y with _ | _ <;> rfl) n v y h
def slices_IndexFunc_Field_l2 (N : Nat) (o_2 : Int) (s0_2 : List T_api_Field) (s7_2 : Int) (s8_2 : Int) : Option slices_IndexFunc_Field_l2_Y := slices_IndexFunc_Field_l2_n N N (o_2, s0_2, s7_2) s8_2
def slices_IndexFunc_Field_l2_s (N : Nat) : LEnt := smL slices_IndexFunc_Field_l2_p [(.i .i64), (.sl 4 t_api_Field), (.i .i64), (.i .i64)] slices_IndexFunc_Field_l2_Y (fun x => slices_IndexFunc_Field_l2 N x.1 x.2.1 x.2.2.1 x.2.2.2.1) (csS cs1) fun x => slices_IndexFunc_Field_l2_o (x.1, x.2.1, x.2.2.1)
theorem slices_IndexFunc_Field_l2_ok (N : Nat) : LsOK Tryz.prog slices_IndexFunc_Field_H 63 (lookC Tryz_b63 2) (slices_IndexFunc_Field_l2_s N) := smL_ok fun x z h => slices_IndexFunc_Field_l2_q N (x.1, x.2.1, x.2.2.1) N x.2.2.2.1 z h
def slices_IndexFunc_Field_o (a0 : Int) (z : Int) : TV × THp := (xi z, [(30, .cell false (xi a0))])
def slices_IndexFunc_Field_t (N : Nat) (a0 : Int) (a1 : List T_api_Field) : Tree (Int) :=
 .bind (slices_IndexFunc_Field_l2 N a0 a1 ((a1.length : Nat) : Int) 0) fun z1 =>
 .sum z1 (fun z2 =>
 .ret z2) fun z2 =>
 .ret (-1)
def slices_IndexFunc_Field (N : Nat) (a0 : Int) (a1 : List T_api_Field) : Option (Int) := (slices_IndexFunc_Field_t N a0 a1).run some
def slices_IndexFunc_Field_L (N : Nat) : List (Nat × LEnt) := [(2, slices_IndexFunc_Field_l2_s N)]
def slices_IndexFunc_Field_s (N : Nat) : Ent := smF ⟨63, [], [.x (.sl 4 t_api_Field), .fn 64 [] [.k (.p 30 [] 0)]], [], [(30, .cell false (.x (.i .i64)))]⟩ [(.i .i64), (.sl 4 t_api_Field)] (Int) (fun x => slices_IndexFunc_Field N x.1 x.2.1) cs1 fun x => slices_IndexFunc_Field_o x.1
theorem slices_IndexFunc_Field_ok (N : Nat) : SmOK Tryz.prog (slices_IndexFunc_Field_s N) :=
  fn_ok (H := slices_IndexFunc_Field_H) (L := lenv (slices_IndexFunc_Field_L N)) (ts := [(.i .i64), (.sl 4 t_api_Field)]) (T := fun x => slices_IndexFunc_Field_t N x.1 x.2.1) 0 Tryz_F63 (slices_IndexFunc_Field_Eok N) (lenv_ok (by kernel_rfl) ⟨slices_IndexFunc_Field_l2_ok N, trivial⟩) (rg0 (by kernel_rfl)) fun x => by kernel_rfl
noncomputable def Tryz_b29 : Code := Tryz.f29.body.getD .skip
theorem Tryz_F29 : FnF Tryz.prog 29 Tryz.f29 Tryz_b29 := ⟨Tryz_draw, by kernel_rfl, by kernel_rfl, by kernel_rfl⟩
def rec_Find_H : TH := { live := [(0, [2, 3, 4]), (1, [2, 4, 6]), (2, [2, 4, 6, 12]), (3, [4, 5]), (4, [4, 5])] }
def rec_Find_E (N : Nat) : List Ent := [slices_IndexFunc_Field_s N]
theorem rec_Find_Eok (N : Nat) : SmAll Tryz.prog (rec_Find_E N) := ⟨slices_IndexFunc_Field_ok N, trivial⟩
def rec_Find_o (z : T_api_Cell × Bool) : TV × THp := (.tup [.tv t_api_Cell (z.1 : T_api_Cell), xb z.2], [])
def rec_Find_t (N : Nat) (a0 : T_api_Rec) (a1 : Int) : Tree (T_api_Cell × Bool) :=
 .bind (slices_IndexFunc_Field N a1 (T_api_Rec.F a0)) fun r1 =>
 .cond (decide (r1 < ((0 : Int)))) (
 .ret (T_api_Cell.mk (T_api_Stamp.mk 0 0) [], false)) <|
 .bind (getI (T_api_Rec.F a0) r1) fun e2 =>
 .ret (T_api_Field.C e2, true)
def rec_Find (N : Nat) (a0 : T_api_Rec) (a1 : Int) : Option (T_api_Cell × Bool) := (rec_Find_t N a0 a1).run some
def rec_Find_L (N : Nat) : List (Nat × LEnt) := []
def rec_Find_s (N : Nat) : Ent := smF ⟨29, [], [.x t_api_Rec, .x (.i .i64)], [], []⟩ [t_api_Rec, (.i .i64)] (T_api_Cell × Bool) (fun x => rec_Find N x.1 x.2.1) cs1 fun _ => rec_Find_o
theorem rec_Find_ok (N : Nat) : SmOK Tryz.prog (rec_Find_s N) :=
  fn_ok (H := rec_Find_H) (L := lenv (rec_Find_L N)) (ts := [t_api_Rec, (.i .i64)]) (T := fun x => rec_Find_t N x.1 x.2.1) 0 Tryz_F29 (rec_Find_Eok N) (lenv_ok (by kernel_rfl) trivial) (rg0 (by kernel_rfl)) fun x => by kernel_rfl
noncomputable def Tryz_b52 : Code := Tryz.f52.body.getD .skip
theorem Tryz_F52 : FnF Tryz.prog 52 Tryz.f52 Tryz_b52 := ⟨Tryz_draw, by kernel_rfl, by kernel_rfl, by kernel_rfl⟩
def manifest_Line_1_H : TH := { live := [(0, [1, 2]), (1, [3])] }
def manifest_Line_1_E (N : Nat) : List Ent := []
theorem manifest_Line_1_Eok (N : Nat) : SmAll Tryz.prog (manifest_Line_1_E N) := trivial
def manifest_Line_1_o (a0 : Vector UInt8 16) (a1 : T_api_Line) (z : Unit) : TV × THp := (xb (eqE (.ba 16) (T_api_Line.ID a1) a0), [(30, .cell false (.tv (.ba 16) a0))])
def manifest_Line_1_t (a0 : Vector UInt8 16) (a1 : T_api_Line) : Tree (Unit) :=
 .ret ()
def manifest_Line_1 (a0 : Vector UInt8 16) (a1 : T_api_Line) : Option (Unit) := (manifest_Line_1_t a0 a1).run some
def manifest_Line_1_L : List (Nat × LEnt) := []
def manifest_Line_1_s : Ent := smF ⟨52, [], [.x t_api_Line], [.k (.p 30 [] 0)], [(30, .cell false (.x (.ba 16)))]⟩ [(.ba 16), t_api_Line] (Unit) (fun x => manifest_Line_1 x.1 x.2.1) cs1 fun x => manifest_Line_1_o x.1 x.2.1
theorem manifest_Line_1_ok : SmOK Tryz.prog (manifest_Line_1_s) :=
  fn_ok (H := manifest_Line_1_H) (L := lenv (manifest_Line_1_L)) (ts := [(.ba 16), t_api_Line]) (T := fun x => manifest_Line_1_t x.1 x.2.1) 0 Tryz_F52 (manifest_Line_1_Eok 0) (lenv_ok (by kernel_rfl) trivial) (rg0 (by kernel_rfl)) fun x => by kernel_rfl
noncomputable def Tryz_b51 : Code := Tryz.f51.body.getD .skip
theorem Tryz_F51 : FnF Tryz.prog 51 Tryz.f51 Tryz_b51 := ⟨Tryz_draw, by kernel_rfl, by kernel_rfl, by kernel_rfl⟩
def slices_IndexFunc_Line_H : TH := { live := [(0, [0, 1]), (1, [0, 1, 7, 8]), (2, [0, 1, 7, 8, 9]), (3, [0, 1, 5, 7, 8]), (4, [0, 1, 5, 7, 8, 16]), (5, [4]), (6, [0, 1, 7, 8]), (7, [4])] }
def slices_IndexFunc_Line_E (N : Nat) : List Ent := [manifest_Line_1_s]
theorem slices_IndexFunc_Line_Eok (N : Nat) : SmAll Tryz.prog (slices_IndexFunc_Line_E N) := ⟨manifest_Line_1_ok, trivial⟩
abbrev slices_IndexFunc_Line_l2_F := Vector UInt8 16 × List T_api_Line × Int
abbrev slices_IndexFunc_Line_l2_Y := Int ⊕ (Int × Bool)
def slices_IndexFunc_Line_l2_o (f : slices_IndexFunc_Line_l2_F) : slices_IndexFunc_Line_l2_Y → Ex × TSt
 | .inl y => (.ret, ⟨1, 19, [30], [(4, xi y)], [(30, .cell false (.tv (.ba 16) f.1))], false, []⟩)
 | .inr y => (.exit 0, ⟨1, 19, [30], [(0, .tv (.sl 19 t_api_Line) f.2.1), (1, .fn (.func 52) [] [.p 30 [] 0]), (7, xi f.2.2), (8, xi y.1), (9, xb y.2)], [(30, .cell false (.tv (.ba 16) f.1))], false, []⟩)
def slices_IndexFunc_Line_l2_L (N : Nat) : List (Nat × LEnt) := []
abbrev slices_IndexFunc_Line_l2_V := Int
def slices_IndexFunc_Line_l2_p : SP := ⟨1, 19, [30], [(0, .x (.sl 19 t_api_Line)), (1, .fn 52 [] [.k (.p 30 [] 0)]), (7, .x (.i .i64)), (8, .x (.i .i64))], [(30, .cell false (.x (.ba 16)))], false, []⟩
def slices_IndexFunc_Line_l2_h (f : slices_IndexFunc_Line_l2_F) (v : slices_IndexFunc_Line_l2_V) : TSt := fillS slices_IndexFunc_Line_l2_p [dv (.ba 16) f.1, dv (.sl 19 t_api_Line) f.2.1, dv (.i .i64) f.2.2, dv (.i .i64) v]
def slices_IndexFunc_Line_l2_t (N : Nat) (o_2 : Vector UInt8 16) (s0_2 : List T_api_Line) (s7_2 : Int) (v : slices_IndexFunc_Line_l2_V) : Tree (slices_IndexFunc_Line_l2_V ⊕ slices_IndexFunc_Line_l2_Y) :=
 .cond (decide (v < s7_2)) (
 .bind (getI s0_2 v) fun e1 =>
 .bind (manifest_Line_1 o_2 e1) fun r2 =>
 .cond (eqE (.ba 16) (T_api_Line.ID e1) o_2) (
 .ret (.inr (.inl v))) <|
 .chk (in64 (v + 1)) <|
 .ret (.inl (v + 1))) <|
 .ret (.inr (.inr ((v, decide (v < s7_2)))))
def slices_IndexFunc_Line_l2_n (N n : Nat) (f : slices_IndexFunc_Line_l2_F) (v : slices_IndexFunc_Line_l2_V) : Option slices_IndexFunc_Line_l2_Y := loopG (slices_IndexFunc_Line_l2_t N f.1 f.2.1 f.2.2) some n v
theorem slices_IndexFunc_Line_l2_q (N : Nat) (f : slices_IndexFunc_Line_l2_F) (n : Nat) (v : slices_IndexFunc_Line_l2_V) (y : slices_IndexFunc_Line_l2_Y) (h : slices_IndexFunc_Line_l2_n N n f v = some y) : LG Tryz.prog slices_IndexFunc_Line_H 51 (lookC Tryz_b51 2) (slices_IndexFunc_Line_l2_h f v) (slices_IndexFunc_Line_l2_o f y) :=
  loop_g Tryz_draw (E := slices_IndexFunc_Line_E N) (L := lenv (slices_IndexFunc_Line_l2_L N)) (st := slices_IndexFunc_Line_l2_o f) (g := some) (R := slices_IndexFunc_Line_l2_o f) (slices_IndexFunc_Line_Eok N) (lenv_ok (by kernel_rfl) trivial) (rg0 (by kernel_rfl)) (fun v => by kernel_rfl) (good_self (st := slices_IndexFunc_Line_l2_o f) fun y => by rcases y with _ | _ <;> rfl) n v y h
def slices_IndexFunc_Line_l2 (N : Nat) (o_2 : Vector UInt8 16) (s0_2 : List T_api_Line) (s7_2 : Int) (s8_2 : Int) : Option slices_IndexFunc_Line_l2_Y := slices_IndexFunc_Line_l2_n N N (o_2, s0_2, s7_2) s8_2
def slices_IndexFunc_Line_l2_s (N : Nat) : LEnt := smL slices_IndexFunc_Line_l2_p [(.ba 16), (.sl 19 t_api_Line), (.i .i64), (.i .i64)] slices_IndexFunc_Line_l2_Y (fun x => slices_IndexFunc_Line_l2 N x.1 x.2.1 x.2.2.1 x.2.2.2.1) (csS cs1) fun x => slices_IndexFunc_Line_l2_o (x.1, x.2.1, x.2.2.1)
theorem slices_IndexFunc_Line_l2_ok (N : Nat) : LsOK Tryz.prog slices_IndexFunc_Line_H 51 (lookC Tryz_b51 2) (slices_IndexFunc_Line_l2_s N) := smL_ok fun x z h => slices_IndexFunc_Line_l2_q N (x.1, x.2.1, x.2.2.1) N x.2.2.2.1 z h
def slices_IndexFunc_Line_o (a0 : Vector UInt8 16) (z : Int) : TV × THp := (xi z, [(30, .cell false (.tv (.ba 16) a0))])
def slices_IndexFunc_Line_t (N : Nat) (a0 : Vector UInt8 16) (a1 : List T_api_Line) : Tree (Int) :=
 .bind (slices_IndexFunc_Line_l2 N a0 a1 ((a1.length : Nat) : Int) 0) fun z1 =>
 .sum z1 (fun z2 =>
 .ret z2) fun z2 =>
 .ret (-1)
def slices_IndexFunc_Line (N : Nat) (a0 : Vector UInt8 16) (a1 : List T_api_Line) : Option (Int) := (slices_IndexFunc_Line_t N a0 a1).run some
def slices_IndexFunc_Line_L (N : Nat) : List (Nat × LEnt) := [(2, slices_IndexFunc_Line_l2_s N)]
def slices_IndexFunc_Line_s (N : Nat) : Ent := smF ⟨51, [], [.x (.sl 19 t_api_Line), .fn 52 [] [.k (.p 30 [] 0)]], [], [(30, .cell false (.x (.ba 16)))]⟩ [(.ba 16), (.sl 19 t_api_Line)] (Int) (fun x => slices_IndexFunc_Line N x.1 x.2.1) cs1 fun x => slices_IndexFunc_Line_o x.1
theorem slices_IndexFunc_Line_ok (N : Nat) : SmOK Tryz.prog (slices_IndexFunc_Line_s N) :=
  fn_ok (H := slices_IndexFunc_Line_H) (L := lenv (slices_IndexFunc_Line_L N)) (ts := [(.ba 16), (.sl 19 t_api_Line)]) (T := fun x => slices_IndexFunc_Line_t N x.1 x.2.1) 0 Tryz_F51 (slices_IndexFunc_Line_Eok N) (lenv_ok (by kernel_rfl) ⟨slices_IndexFunc_Line_l2_ok N, trivial⟩) (rg0 (by kernel_rfl)) fun x => by kernel_rfl
noncomputable def Tryz_b81 : Code := Tryz.f81.body.getD .skip
theorem Tryz_F81 : FnF Tryz.prog 81 Tryz.f81 Tryz_b81 := ⟨Tryz_draw, by kernel_rfl, by kernel_rfl, by kernel_rfl⟩
def slices_Clone_Entry_H : TH := { live := [(0, [0]), (1, [0, 4]), (2, [2]), (3, [2])], vecs := [5], esc := true }
def slices_Clone_Entry_E (N : Nat) : List Ent := []
theorem slices_Clone_Entry_Eok (N : Nat) : SmAll Tryz.prog (slices_Clone_Entry_E N) := trivial
def slices_Clone_Entry_o (a0 : List T_api_Entry) (z : Unit) : TV × THp := (.v 100050 (((([] : List T_api_Entry)) ++ a0).length), [(100050, .vec false 37 (.sl 37 t_api_Entry) ((([] : List T_api_Entry)) ++ a0 : List T_api_Entry))])
def slices_Clone_Entry_t (a0 : List T_api_Entry) : Tree (Unit) :=
 .chk (List.isEmpty a0 = false) <|
 .chk (avOK ((([] : List T_api_Entry)).length) 0 (((([] : List T_api_Entry)) ++ a0).length) 88) <|
 .ret ()
def slices_Clone_Entry (a0 : List T_api_Entry) : Option (Unit) := (slices_Clone_Entry_t a0).run some
def slices_Clone_Entry_L : List (Nat × LEnt) := []
def slices_Clone_Entry_s : Ent := smF ⟨81, [], [.x (.sl 37 t_api_Entry)], [], []⟩ [(.sl 37 t_api_Entry)] (Unit) (fun x => slices_Clone_Entry x.1) cs1 fun x => slices_Clone_Entry_o x.1
theorem slices_Clone_Entry_val : FnVal Tryz.prog ⟨81, [], [.x (.sl 37 t_api_Entry)], [], []⟩ [(.sl 37 t_api_Entry)] (fun x => slices_Clone_Entry_t x.1) (fun x => slices_Clone_Entry_o x.1) :=
  fn_val (H := slices_Clone_Entry_H) (L := lenv (slices_Clone_Entry_L)) 0 Tryz_F81 (slices_Clone_Entry_Eok 0) (lenv_ok (by kernel_rfl) trivial) (rg0 (by kernel_rfl)) fun x => by kernel_rfl
theorem slices_Clone_Entry_ok : SmOK Tryz.prog (slices_Clone_Entry_s) := smF_ok (slices_Clone_Entry_val)
def slices_Clone_Entry_2_H : TH := { live := [(0, [0]), (1, [0, 4]), (2, [2]), (3, [2])], vecs := [5], esc := true }
def slices_Clone_Entry_2_E (N : Nat) : List Ent := []
theorem slices_Clone_Entry_2_Eok (N : Nat) : SmAll Tryz.prog (slices_Clone_Entry_2_E N) := trivial
def slices_Clone_Entry_2_o (z : Unit) : TV × THp := (.v 100050 0, [(100050, .vec false 37 (.sl 37 t_api_Entry) ([] : List T_api_Entry))])
def slices_Clone_Entry_2_t : Tree (Unit) :=
 .chk (0 = 0) <|
 .ret ()
def slices_Clone_Entry_2 : Option (Unit) := (slices_Clone_Entry_2_t).run some
def slices_Clone_Entry_2_L : List (Nat × LEnt) := []
def slices_Clone_Entry_2_s : Ent := smF ⟨81, [], [.k (.es 0)], [], []⟩ [] (Unit) (fun x => slices_Clone_Entry_2) cs1 fun _ => slices_Clone_Entry_2_o
theorem slices_Clone_Entry_2_val : FnVal Tryz.prog ⟨81, [], [.k (.es 0)], [], []⟩ [] (fun x => slices_Clone_Entry_2_t) (fun _ => slices_Clone_Entry_2_o) :=
  fn_val (H := slices_Clone_Entry_2_H) (L := lenv (slices_Clone_Entry_2_L)) 0 Tryz_F81 (slices_Clone_Entry_2_Eok 0) (lenv_ok (by kernel_rfl) trivial) (rg0 (by kernel_rfl)) fun x => by kernel_rfl
theorem slices_Clone_Entry_2_ok : SmOK Tryz.prog (slices_Clone_Entry_2_s) := smF_ok (slices_Clone_Entry_2_val)
def slices_Clone_Entry_3_H : TH := { live := [(0, [0]), (1, [0, 4]), (2, [2]), (3, [2])], vecs := [5], esc := true }
def slices_Clone_Entry_3_E (N : Nat) : List Ent := []
theorem slices_Clone_Entry_3_Eok (N : Nat) : SmAll Tryz.prog (slices_Clone_Entry_3_E N) := trivial
def slices_Clone_Entry_3_o (z : Unit) : TV × THp := (.nils, [])
def slices_Clone_Entry_3_t : Tree (Unit) :=
 .ret ()
def slices_Clone_Entry_3 : Option (Unit) := (slices_Clone_Entry_3_t).run some
def slices_Clone_Entry_3_L : List (Nat × LEnt) := []
def slices_Clone_Entry_3_s : Ent := smF ⟨81, [], [.k (.es 1)], [], []⟩ [] (Unit) (fun x => slices_Clone_Entry_3) cs1 fun _ => slices_Clone_Entry_3_o
theorem slices_Clone_Entry_3_val : FnVal Tryz.prog ⟨81, [], [.k (.es 1)], [], []⟩ [] (fun x => slices_Clone_Entry_3_t) (fun _ => slices_Clone_Entry_3_o) :=
  fn_val (H := slices_Clone_Entry_3_H) (L := lenv (slices_Clone_Entry_3_L)) 0 Tryz_F81 (slices_Clone_Entry_3_Eok 0) (lenv_ok (by kernel_rfl) trivial) (rg0 (by kernel_rfl)) fun x => by kernel_rfl
theorem slices_Clone_Entry_3_ok : SmOK Tryz.prog (slices_Clone_Entry_3_s) := smF_ok (slices_Clone_Entry_3_val)
def slices_Clone_EntryW_c0 (z : Unit) : Unit := ()
def slices_Clone_EntryW_c1 (z : Unit) : Unit := ()
def slices_Clone_EntryW (a0 : List T_api_Entry) : Option (Unit) :=
 bif a0.isEmpty then
  (slices_Clone_Entry_2).bind fun z0 => (slices_Clone_Entry_3).bind fun z1 => chk (slices_Clone_EntryW_c0 z0 = slices_Clone_EntryW_c1 z1) (some (slices_Clone_EntryW_c0 z0))
 else slices_Clone_Entry a0
def slices_Clone_EntryW_s : Ent := smF ⟨81, [], [.x (.sl 37 t_api_Entry)], [], []⟩ [(.sl 37 t_api_Entry)] (Unit) (fun x => slices_Clone_EntryW x.1) cs1 fun x => slices_Clone_Entry_o x.1
theorem slices_Clone_EntryW_ok : SmOK Tryz.prog (slices_Clone_EntryW_s) := smF_ok fun x z h l => by
  obtain ⟨a0, _⟩ := x
  replace h : slices_Clone_EntryW a0 = some z := h
  unfold slices_Clone_EntryW at h
  rcases cond_some h with ⟨e, h2⟩ | ⟨_, h2⟩ <;> clear h
  · have e := List.isEmpty_iff.1 e
    subst e
    obtain ⟨z0, c0, h2⟩ := bind_some h2
    obtain ⟨z1, c1, h2⟩ := bind_some h2
    obtain ⟨hE, h2⟩ := chk_some h2
    obtain rfl := Option.some.inj h2
    refine maybe_val (t := (.sl 37 t_api_Entry)) (x := []) rfl (TV.ers []) (TV.ers []) (by exact slices_Clone_Entry_2_val (()) _ c0 l) ?_
    rw [hE]
    exact (nil_vec (n := 100050) (sz := 37) (x := toPV (.sl 37 t_api_Entry) ([] : List T_api_Entry)) rfl (by kernel_rfl) (by kernel_rfl) (slices_Clone_Entry_3_val (()) _ c1 l))
  · exact slices_Clone_Entry_val (a0, ()) z h2 l
noncomputable def Tryz_b82 : Code := Tryz.f82.body.getD .skip
theorem Tryz_F82 : FnF Tryz.prog 82 Tryz.f82 Tryz_b82 := ⟨Tryz_draw, by kernel_rfl, by kernel_rfl, by kernel_rfl⟩
def slices_Clone_Sig_H : TH := { live := [(0, [0]), (1, [0, 4]), (2, [2]), (3, [2])], vecs := [5] }
def slices_Clone_Sig_E (N : Nat) : List Ent := []
theorem slices_Clone_Sig_Eok (N : Nat) : SmAll Tryz.prog (slices_Clone_Sig_E N) := trivial
def slices_Clone_Sig_o (a0 : List T_api_Sig) (z : Unit) : TV × THp := (.tv (.sl 33 t_api_Sig) ((([] : List T_api_Sig)) ++ a0 : List T_api_Sig), [])
def slices_Clone_Sig_t (a0 : List T_api_Sig) : Tree (Unit) :=
 .chk (List.isEmpty a0 = false) <|
 .chk (avOK ((([] : List T_api_Sig)).length) 0 (((([] : List T_api_Sig)) ++ a0).length) 36) <|
 .chk (((([] : List T_api_Sig)) ++ a0).length = ((([] : List T_api_Sig)) ++ a0).length) <|
 .ret ()
def slices_Clone_Sig (a0 : List T_api_Sig) : Option (Unit) := (slices_Clone_Sig_t a0).run some
def slices_Clone_Sig_L : List (Nat × LEnt) := []
def slices_Clone_Sig_s : Ent := smF ⟨82, [], [.x (.sl 33 t_api_Sig)], [], []⟩ [(.sl 33 t_api_Sig)] (Unit) (fun x => slices_Clone_Sig x.1) cs1 fun x => slices_Clone_Sig_o x.1
theorem slices_Clone_Sig_val : FnVal Tryz.prog ⟨82, [], [.x (.sl 33 t_api_Sig)], [], []⟩ [(.sl 33 t_api_Sig)] (fun x => slices_Clone_Sig_t x.1) (fun x => slices_Clone_Sig_o x.1) :=
  fn_val (H := slices_Clone_Sig_H) (L := lenv (slices_Clone_Sig_L)) 0 Tryz_F82 (slices_Clone_Sig_Eok 0) (lenv_ok (by kernel_rfl) trivial) (rg0 (by kernel_rfl)) fun x => by kernel_rfl
theorem slices_Clone_Sig_ok : SmOK Tryz.prog (slices_Clone_Sig_s) := smF_ok (slices_Clone_Sig_val)
def slices_Clone_Sig_2_H : TH := { live := [(0, [0]), (1, [0, 4]), (2, [2]), (3, [2])], vecs := [5] }
def slices_Clone_Sig_2_E (N : Nat) : List Ent := []
theorem slices_Clone_Sig_2_Eok (N : Nat) : SmAll Tryz.prog (slices_Clone_Sig_2_E N) := trivial
def slices_Clone_Sig_2_o (z : Unit) : TV × THp := (.tv (.sl 33 t_api_Sig) ([] : List T_api_Sig), [])
def slices_Clone_Sig_2_t : Tree (Unit) :=
 .chk (0 = 0) <|
 .chk (0 = 0) <|
 .ret ()
def slices_Clone_Sig_2 : Option (Unit) := (slices_Clone_Sig_2_t).run some
def slices_Clone_Sig_2_L : List (Nat × LEnt) := []
def slices_Clone_Sig_2_s : Ent := smF ⟨82, [], [.k (.es 0)], [], []⟩ [] (Unit) (fun x => slices_Clone_Sig_2) cs1 fun _ => slices_Clone_Sig_2_o
theorem slices_Clone_Sig_2_val : FnVal Tryz.prog ⟨82, [], [.k (.es 0)], [], []⟩ [] (fun x => slices_Clone_Sig_2_t) (fun _ => slices_Clone_Sig_2_o) :=
  fn_val (H := slices_Clone_Sig_2_H) (L := lenv (slices_Clone_Sig_2_L)) 0 Tryz_F82 (slices_Clone_Sig_2_Eok 0) (lenv_ok (by kernel_rfl) trivial) (rg0 (by kernel_rfl)) fun x => by kernel_rfl
theorem slices_Clone_Sig_2_ok : SmOK Tryz.prog (slices_Clone_Sig_2_s) := smF_ok (slices_Clone_Sig_2_val)
def slices_Clone_Sig_3_H : TH := { live := [(0, [0]), (1, [0, 4]), (2, [2]), (3, [2])], vecs := [5] }
def slices_Clone_Sig_3_E (N : Nat) : List Ent := []
theorem slices_Clone_Sig_3_Eok (N : Nat) : SmAll Tryz.prog (slices_Clone_Sig_3_E N) := trivial
def slices_Clone_Sig_3_o (z : Unit) : TV × THp := (.tv (.sl 33 t_api_Sig) ([] : List T_api_Sig), [])
def slices_Clone_Sig_3_t : Tree (Unit) :=
 .ret ()
def slices_Clone_Sig_3 : Option (Unit) := (slices_Clone_Sig_3_t).run some
def slices_Clone_Sig_3_L : List (Nat × LEnt) := []
def slices_Clone_Sig_3_s : Ent := smF ⟨82, [], [.k (.es 1)], [], []⟩ [] (Unit) (fun x => slices_Clone_Sig_3) cs1 fun _ => slices_Clone_Sig_3_o
theorem slices_Clone_Sig_3_val : FnVal Tryz.prog ⟨82, [], [.k (.es 1)], [], []⟩ [] (fun x => slices_Clone_Sig_3_t) (fun _ => slices_Clone_Sig_3_o) :=
  fn_val (H := slices_Clone_Sig_3_H) (L := lenv (slices_Clone_Sig_3_L)) 0 Tryz_F82 (slices_Clone_Sig_3_Eok 0) (lenv_ok (by kernel_rfl) trivial) (rg0 (by kernel_rfl)) fun x => by kernel_rfl
theorem slices_Clone_Sig_3_ok : SmOK Tryz.prog (slices_Clone_Sig_3_s) := smF_ok (slices_Clone_Sig_3_val)
def slices_Clone_SigW_c0 (z : Unit) : Unit := ()
def slices_Clone_SigW_c1 (z : Unit) : Unit := ()
def slices_Clone_SigW (a0 : List T_api_Sig) : Option (Unit) :=
 bif a0.isEmpty then
  (slices_Clone_Sig_2).bind fun z0 => (slices_Clone_Sig_3).bind fun z1 => chk (slices_Clone_SigW_c0 z0 = slices_Clone_SigW_c1 z1) (some (slices_Clone_SigW_c0 z0))
 else slices_Clone_Sig a0
def slices_Clone_SigW_s : Ent := smF ⟨82, [], [.x (.sl 33 t_api_Sig)], [], []⟩ [(.sl 33 t_api_Sig)] (Unit) (fun x => slices_Clone_SigW x.1) cs1 fun x => slices_Clone_Sig_o x.1
theorem slices_Clone_SigW_ok : SmOK Tryz.prog (slices_Clone_SigW_s) := smF_ok fun x z h l => by
  obtain ⟨a0, _⟩ := x
  replace h : slices_Clone_SigW a0 = some z := h
  unfold slices_Clone_SigW at h
  rcases cond_some h with ⟨e, h2⟩ | ⟨_, h2⟩ <;> clear h
  · have e := List.isEmpty_iff.1 e
    subst e
    obtain ⟨z0, c0, h2⟩ := bind_some h2
    obtain ⟨z1, c1, h2⟩ := bind_some h2
    obtain ⟨hE, h2⟩ := chk_some h2
    obtain rfl := Option.some.inj h2
    refine maybe_val (t := (.sl 33 t_api_Sig)) (x := []) rfl (TV.ers []) (TV.ers []) (by exact slices_Clone_Sig_2_val (()) _ c0 l) ?_
    rw [hE]
    exact (by exact slices_Clone_Sig_3_val (()) _ c1 l)
  · exact slices_Clone_Sig_val (a0, ()) z h2 l
noncomputable def Tryz_b53 : Code := Tryz.f53.body.getD .skip
theorem Tryz_F53 : FnF Tryz.prog 53 Tryz.f53 Tryz_b53 := ⟨Tryz_draw, by kernel_rfl, by kernel_rfl, by kernel_rfl⟩
def manifest_own_H : TH := { live := [(0, [1, 2]), (1, [1, 2]), (2, [1, 2, 10, 11]), (3, [1, 2, 10, 11, 12]), (4, [1, 2, 3, 10, 11]), (5, [1, 2, 10, 11]), (6, [1, 2, 10, 11]), (7, [2])], fresh := [6], nil := [(0, [⟨.ob 20 [2], 25, (.sl 37 t_api_Entry)⟩])] }
def manifest_own_E (N : Nat) : List Ent := [slices_Clone_EntryW_s, slices_Clone_SigW_s]
theorem manifest_own_Eok (N : Nat) : SmAll Tryz.prog (manifest_own_E N) := ⟨slices_Clone_EntryW_ok, slices_Clone_SigW_ok, trivial⟩
abbrev manifest_own_l3_F := List T_api_Entry × Vector UInt8 16 × T_api_Stamp × Nat × Vector UInt8 16 × T_api_Stamp × Int
abbrev manifest_own_l3_Y := List T_api_Entry × Int × Bool
def manifest_own_l3_o (f : manifest_own_l3_F) (y : manifest_own_l3_Y) : Ex × TSt := (.exit 0, ⟨0, 28, [], [(1, .p 10 [] 0), (2, .p 20 [] 0), (10, xi f.2.2.2.2.2.2), (11, xi y.2.1), (12, xb y.2.2)], [(10, .cell false (.ag [.tv (.ba 16) f.2.1, .tv t_api_Stamp f.2.2.1, .v 100050 f.2.2.2.1])), (20, .cell false (.ag [.tv (.ba 16) f.2.2.2.2.1, .tv t_api_Stamp f.2.2.2.2.2.1, .v 25 f.1.length])), (25, .vec false 37 (.sl 37 t_api_Entry) f.1), (100050, .vec false 37 (.sl 37 t_api_Entry) (y.1 : List T_api_Entry))], false, []⟩)
def manifest_own_l3_L (N : Nat) : List (Nat × LEnt) := []
abbrev manifest_own_l3_V := List T_api_Entry × Int
def manifest_own_l3_p : SP := ⟨0, 28, [], [(1, .k (.p 10 [] 0)), (2, .k (.p 20 [] 0)), (10, .x (.i .i64)), (11, .x (.i .i64))], [(10, .cell false (.ag [.x (.ba 16), .x t_api_Stamp, .v 100050])), (20, .cell false (.ag [.x (.ba 16), .x t_api_Stamp, .vs 25])), (25, .vec false 37), (100050, .vec false 37)], false, []⟩
def manifest_own_l3_h (f : manifest_own_l3_F) (v : manifest_own_l3_V) : TSt := fillS manifest_own_l3_p [dv (.sl 37 t_api_Entry) f.1, dv (.sl 37 t_api_Entry) v.1, dv (.ba 16) f.2.1, dv t_api_Stamp f.2.2.1, dv .nat f.2.2.2.1, dv (.ba 16) f.2.2.2.2.1, dv t_api_Stamp f.2.2.2.2.2.1, dv (.i .i64) f.2.2.2.2.2.2, dv (.i .i64) v.2]
def manifest_own_l3_t (N : Nat) (o_3 : List T_api_Entry) (o_3_3 : Vector UInt8 16) (o_3_4 : T_api_Stamp) (o_3_5 : Nat) (o_3_6 : Vector UInt8 16) (o_3_7 : T_api_Stamp) (s10_3 : Int) (v : manifest_own_l3_V) : Tree (manifest_own_l3_V ⊕ manifest_own_l3_Y) :=
 .cond (decide (v.2 < s10_3)) (
 .chk (0 ≤ v.2 ∧ v.2 < ((o_3_5 : Nat) : Int)) <|
 .bind (getV v.1 o_3_5 v.2.toNat) fun e1 =>
 .bind (slices_Clone_SigW (T_api_Entry.B e1)) fun r2 =>
 .chk (0 ≤ v.2 ∧ v.2 < ((o_3_5 : Nat) : Int)) <|
 .bind (getV v.1 o_3_5 v.2.toNat) fun e3 =>
 .chk (in64 (v.2 + 1)) <|
 .ret (.inl (v.1.set v.2.toNat (T_api_Entry.mk (T_api_Entry.No e3) (T_api_Entry.S e3) (T_api_Entry.Len e3) (T_api_Entry.D e3) ((([] : List T_api_Sig)) ++ (T_api_Entry.B e1))), v.2 + 1))) <|
 .ret (.inr (v.1, v.2, decide (v.2 < s10_3)))
def manifest_own_l3_n (N n : Nat) (f : manifest_own_l3_F) (v : manifest_own_l3_V) : Option manifest_own_l3_Y := loopG (manifest_own_l3_t N f.1 f.2.1 f.2.2.1 f.2.2.2.1 f.2.2.2.2.1 f.2.2.2.2.2.1 f.2.2.2.2.2.2) some n v
theorem manifest_own_l3_q (N : Nat) (f : manifest_own_l3_F) (n : Nat) (v : manifest_own_l3_V) (y : manifest_own_l3_Y) (h : manifest_own_l3_n N n f v = some y) : LG Tryz.prog manifest_own_H 53 (lookC Tryz_b53 3) (manifest_own_l3_h f v) (manifest_own_l3_o f y) :=
  loop_g Tryz_draw (E := manifest_own_E N) (L := lenv (manifest_own_l3_L N)) (st := manifest_own_l3_o f) (g := some) (R := manifest_own_l3_o f) (manifest_own_Eok N) (lenv_ok (by kernel_rfl) trivial) (rg0 (by kernel_rfl)) (fun v => by kernel_rfl) (good_self (st := manifest_own_l3_o f) fun y => by rfl) n v y h
def manifest_own_l3 (N : Nat) (o_3 : List T_api_Entry) (o_3_3 : Vector UInt8 16) (o_3_4 : T_api_Stamp) (o_3_5 : Nat) (o_3_6 : Vector UInt8 16) (o_3_7 : T_api_Stamp) (s10_3 : Int) (o_3_2 : List T_api_Entry) (s11_3 : Int) : Option manifest_own_l3_Y := manifest_own_l3_n N N (o_3, o_3_3, o_3_4, o_3_5, o_3_6, o_3_7, s10_3) (o_3_2, s11_3)
def manifest_own_l3_s (N : Nat) : LEnt := smL manifest_own_l3_p [(.sl 37 t_api_Entry), (.sl 37 t_api_Entry), (.ba 16), t_api_Stamp, .nat, (.ba 16), t_api_Stamp, (.i .i64), (.i .i64)] manifest_own_l3_Y (fun x => manifest_own_l3 N x.1 x.2.2.1 x.2.2.2.1 x.2.2.2.2.1 x.2.2.2.2.2.1 x.2.2.2.2.2.2.1 x.2.2.2.2.2.2.2.1 x.2.1 x.2.2.2.2.2.2.2.2.1) cs1 fun x => manifest_own_l3_o (x.1, x.2.2.1, x.2.2.2.1, x.2.2.2.2.1, x.2.2.2.2.2.1, x.2.2.2.2.2.2.1, x.2.2.2.2.2.2.2.1)
theorem manifest_own_l3_ok (N : Nat) : LsOK Tryz.prog manifest_own_H 53 (lookC Tryz_b53 3) (manifest_own_l3_s N) := smL_ok fun x z h => manifest_own_l3_q N (x.1, x.2.2.1, x.2.2.2.1, x.2.2.2.2.1, x.2.2.2.2.2.1, x.2.2.2.2.2.2.1, x.2.2.2.2.2.2.2.1) N (x.2.1, x.2.2.2.2.2.2.2.2.1) z h
def manifest_own_o (z : T_api_Line) : TV × THp := (.tv t_api_Line z, [])
def manifest_own_t (N : Nat) (a0 : T_api_Line) : Tree (T_api_Line) :=
 .bind (slices_Clone_EntryW (T_api_Line.F a0)) fun r1 =>
 .bind (chkLs [(([] : List T_api_Entry).length, 0)] (manifest_own_l3 N [] (T_api_Line.ID a0) (T_api_Line.Dead a0) (((([] : List T_api_Entry)) ++ (T_api_Line.F a0)).length) ((Vector.replicate 16 0)) (T_api_Stamp.mk 0 0) ((((([] : List T_api_Entry)) ++ (T_api_Line.F a0)).length : Nat) : Int) ((([] : List T_api_Entry)) ++ (T_api_Line.F a0)) 0)) fun z2 =>
 .chk (z2.1.length = ((([] : List T_api_Entry)) ++ (T_api_Line.F a0)).length) <|
 .ret (T_api_Line.mk (T_api_Line.ID a0) (T_api_Line.Dead a0) z2.1)
def manifest_own (N : Nat) (a0 : T_api_Line) : Option (T_api_Line) := (manifest_own_t N a0).run some
def manifest_own_L (N : Nat) : List (Nat × LEnt) := [(3, manifest_own_l3_s N)]
def manifest_own_s (N : Nat) : Ent := smF ⟨53, [], [.x t_api_Line], [], []⟩ [t_api_Line] (T_api_Line) (fun x => manifest_own N x.1) cs1 fun _ => manifest_own_o
theorem manifest_own_ok (N : Nat) : SmOK Tryz.prog (manifest_own_s N) :=
  fn_ok (H := manifest_own_H) (L := lenv (manifest_own_L N)) (ts := [t_api_Line]) (T := fun x => manifest_own_t N x.1) 0 Tryz_F53 (manifest_own_Eok N) (lenv_ok (by kernel_rfl) ⟨manifest_own_l3_ok N, trivial⟩) (rg0 (by kernel_rfl)) fun x => by kernel_rfl
noncomputable def Tryz_b18 : Code := Tryz.f18.body.getD .skip
theorem Tryz_F18 : FnF Tryz.prog 18 Tryz.f18 Tryz_b18 := ⟨Tryz_draw, by kernel_rfl, by kernel_rfl, by kernel_rfl⟩
def manifest_Line_H : TH := { live := [(0, [2, 3, 4]), (1, [2, 4, 6]), (2, [2, 4, 6, 12]), (3, [4, 5]), (4, [4, 5])], nil := [(0, [⟨.ob 40 [2], 45, (.sl 37 t_api_Entry)⟩]), (3, [⟨.ob 40 [2], 45, (.sl 37 t_api_Entry)⟩])] }
def manifest_Line_E (N : Nat) : List Ent := [slices_IndexFunc_Line_s N, manifest_own_s N]
theorem manifest_Line_Eok (N : Nat) : SmAll Tryz.prog (manifest_Line_E N) := ⟨slices_IndexFunc_Line_ok N, manifest_own_ok N, trivial⟩
def manifest_Line_o (z : T_api_Line × Bool) : TV × THp := (.tup [.tv t_api_Line (z.1 : T_api_Line), xb z.2], [])
def manifest_Line_t (N : Nat) (a0 : T_api_Manifest) (a1 : Vector UInt8 16) : Tree (T_api_Line × Bool) :=
 .bind (slices_IndexFunc_Line N a1 (T_api_Manifest.L a0)) fun r1 =>
 .cond (decide (r1 < ((0 : Int)))) (
 .chk (0 = 0) <|
 .ret (T_api_Line.mk ((Vector.replicate 16 0)) (T_api_Stamp.mk 0 0) [], false)) <|
 .bind (getI (T_api_Manifest.L a0) r1) fun e2 =>
 .bind (manifest_own N e2) fun r3 =>
 .ret (r3, true)
def manifest_Line (N : Nat) (a0 : T_api_Manifest) (a1 : Vector UInt8 16) : Option (T_api_Line × Bool) := (manifest_Line_t N a0 a1).run some
def manifest_Line_L (N : Nat) : List (Nat × LEnt) := []
def manifest_Line_s (N : Nat) : Ent := smF ⟨18, [], [.x t_api_Manifest, .x (.ba 16)], [], []⟩ [t_api_Manifest, (.ba 16)] (T_api_Line × Bool) (fun x => manifest_Line N x.1 x.2.1) cs1 fun _ => manifest_Line_o
theorem manifest_Line_ok (N : Nat) : SmOK Tryz.prog (manifest_Line_s N) :=
  fn_ok (H := manifest_Line_H) (L := lenv (manifest_Line_L N)) (ts := [t_api_Manifest, (.ba 16)]) (T := fun x => manifest_Line_t N x.1 x.2.1) 0 Tryz_F18 (manifest_Line_Eok N) (lenv_ok (by kernel_rfl) trivial) (rg0 (by kernel_rfl)) fun x => by kernel_rfl
noncomputable def Tryz_b55 : Code := Tryz.f55.body.getD .skip
theorem Tryz_F55 : FnF Tryz.prog 55 Tryz.f55 Tryz_b55 := ⟨Tryz_draw, by kernel_rfl, by kernel_rfl, by kernel_rfl⟩
def manifest_Find_1_H : TH := { live := [(0, [1, 2]), (1, [3])] }
def manifest_Find_1_E (N : Nat) : List Ent := []
theorem manifest_Find_1_Eok (N : Nat) : SmAll Tryz.prog (manifest_Find_1_E N) := trivial
def manifest_Find_1_o (a0 : Int) (a1 : T_api_Entry) (z : Unit) : TV × THp := (xb (decide ((T_api_Entry.No a1) = a0)), [(50, .cell false (xi a0))])
def manifest_Find_1_t (a0 : Int) (a1 : T_api_Entry) : Tree (Unit) :=
 .ret ()
def manifest_Find_1 (a0 : Int) (a1 : T_api_Entry) : Option (Unit) := (manifest_Find_1_t a0 a1).run some
def manifest_Find_1_L : List (Nat × LEnt) := []
def manifest_Find_1_s : Ent := smF ⟨55, [], [.x t_api_Entry], [.k (.p 50 [] 0)], [(50, .cell false (.x (.i .i64)))]⟩ [(.i .i64), t_api_Entry] (Unit) (fun x => manifest_Find_1 x.1 x.2.1) cs1 fun x => manifest_Find_1_o x.1 x.2.1
theorem manifest_Find_1_ok : SmOK Tryz.prog (manifest_Find_1_s) :=
  fn_ok (H := manifest_Find_1_H) (L := lenv (manifest_Find_1_L)) (ts := [(.i .i64), t_api_Entry]) (T := fun x => manifest_Find_1_t x.1 x.2.1) 0 Tryz_F55 (manifest_Find_1_Eok 0) (lenv_ok (by kernel_rfl) trivial) (rg0 (by kernel_rfl)) fun x => by kernel_rfl
noncomputable def Tryz_b54 : Code := Tryz.f54.body.getD .skip
theorem Tryz_F54 : FnF Tryz.prog 54 Tryz.f54 Tryz_b54 := ⟨Tryz_draw, by kernel_rfl, by kernel_rfl, by kernel_rfl⟩
def slices_IndexFunc_Entry_H : TH := { live := [(0, [0, 1]), (1, [0, 1, 7, 8]), (2, [0, 1, 7, 8, 9]), (3, [0, 1, 5, 7, 8]), (4, [0, 1, 5, 7, 8, 16]), (5, [4]), (6, [0, 1, 7, 8]), (7, [4])] }
def slices_IndexFunc_Entry_E (N : Nat) : List Ent := [manifest_Find_1_s]
theorem slices_IndexFunc_Entry_Eok (N : Nat) : SmAll Tryz.prog (slices_IndexFunc_Entry_E N) := ⟨manifest_Find_1_ok, trivial⟩
abbrev slices_IndexFunc_Entry_l2_F := Int × List T_api_Entry × Int
abbrev slices_IndexFunc_Entry_l2_Y := Int ⊕ (Int × Bool)
def slices_IndexFunc_Entry_l2_o (f : slices_IndexFunc_Entry_l2_F) : slices_IndexFunc_Entry_l2_Y → Ex × TSt
 | .inl y => (.ret, ⟨1, 19, [50], [(4, xi y)], [(50, .cell false (xi f.1))], false, []⟩)
 | .inr y => (.exit 0, ⟨1, 19, [50], [(0, .tv (.sl 37 t_api_Entry) f.2.1), (1, .fn (.func 55) [] [.p 50 [] 0]), (7, xi f.2.2), (8, xi y.1), (9, xb y.2)], [(50, .cell false (xi f.1))], false, []⟩)
def slices_IndexFunc_Entry_l2_L (N : Nat) : List (Nat × LEnt) := []
abbrev slices_IndexFunc_Entry_l2_V := Int
def slices_IndexFunc_Entry_l2_p : SP := ⟨1, 19, [50], [(0, .x (.sl 37 t_api_Entry)), (1, .fn 55 [] [.k (.p 50 [] 0)]), (7, .x (.i .i64)), (8, .x (.i .i64))], [(50, .cell false (.x (.i .i64)))], false, []⟩
def slices_IndexFunc_Entry_l2_h (f : slices_IndexFunc_Entry_l2_F) (v : slices_IndexFunc_Entry_l2_V) : TSt := fillS slices_IndexFunc_Entry_l2_p [dv (.i .i64) f.1, dv (.sl 37 t_api_Entry) f.2.1, dv (.i .i64) f.2.2, dv (.i .i64) v]
def slices_IndexFunc_Entry_l2_t (N : Nat) (o_2 : Int) (s0_2 : List T_api_Entry) (s7_2 : Int) (v : slices_IndexFunc_Entry_l2_V) : Tree (slices_IndexFunc_Entry_l2_V ⊕ slices_IndexFunc_Entry_l2_Y) :=
 .cond (decide (v < s7_2)) (
 .bind (getI s0_2 v) fun e1 =>
 .bind (manifest_Find_1 o_2 e1) fun r2 =>
 .cond (decide ((T_api_Entry.No e1) = o_2)) (
 .ret (.inr (.inl v))) <|
 .chk (in64 (v + 1)) <|
 .ret (.inl (v + 1))) <|
 .ret (.inr (.inr ((v, decide (v < s7_2)))))
def slices_IndexFunc_Entry_l2_n (N n : Nat) (f : slices_IndexFunc_Entry_l2_F) (v : slices_IndexFunc_Entry_l2_V) : Option slices_IndexFunc_Entry_l2_Y := loopG (slices_IndexFunc_Entry_l2_t N f.1 f.2.1 f.2.2) some n v
theorem slices_IndexFunc_Entry_l2_q (N : Nat) (f : slices_IndexFunc_Entry_l2_F) (n : Nat) (v : slices_IndexFunc_Entry_l2_V) (y : slices_IndexFunc_Entry_l2_Y) (h : slices_IndexFunc_Entry_l2_n N n f v = some y) : LG Tryz.prog slices_IndexFunc_Entry_H 54 (lookC Tryz_b54 2) (slices_IndexFunc_Entry_l2_h f v) (slices_IndexFunc_Entry_l2_o f y) :=
  loop_g Tryz_draw (E := slices_IndexFunc_Entry_E N) (L := lenv (slices_IndexFunc_Entry_l2_L N)) (st := slices_IndexFunc_Entry_l2_o f) (g := some) (R := slices_IndexFunc_Entry_l2_o f) (slices_IndexFunc_Entry_Eok N) (lenv_ok (by kernel_rfl) trivial) (rg0 (by kernel_rfl)) (fun v => by kernel_rfl) (good_self (st := slices_IndexFunc_Entry_l2_o f) fun y => by rcases y with _ | _ <;> rfl) n v y h
def slices_IndexFunc_Entry_l2 (N : Nat) (o_2 : Int) (s0_2 : List T_api_Entry) (s7_2 : Int) (s8_2 : Int) : Option slices_IndexFunc_Entry_l2_Y := slices_IndexFunc_Entry_l2_n N N (o_2, s0_2, s7_2) s8_2
def slices_IndexFunc_Entry_l2_s (N : Nat) : LEnt := smL slices_IndexFunc_Entry_l2_p [(.i .i64), (.sl 37 t_api_Entry), (.i .i64), (.i .i64)] slices_IndexFunc_Entry_l2_Y (fun x => slices_IndexFunc_Entry_l2 N x.1 x.2.1 x.2.2.1 x.2.2.2.1) (csS cs1) fun x => slices_IndexFunc_Entry_l2_o (x.1, x.2.1, x.2.2.1)
theorem slices_IndexFunc_Entry_l2_ok (N : Nat) : LsOK Tryz.prog slices_IndexFunc_Entry_H 54 (lookC Tryz_b54 2) (slices_IndexFunc_Entry_l2_s N) := smL_ok fun x z h => slices_IndexFunc_Entry_l2_q N (x.1, x.2.1, x.2.2.1) N x.2.2.2.1 z h
def slices_IndexFunc_Entry_o (a0 : Int) (z : Int) : TV × THp := (xi z, [(50, .cell false (xi a0))])
def slices_IndexFunc_Entry_t (N : Nat) (a0 : Int) (a1 : List T_api_Entry) : Tree (Int) :=
 .bind (slices_IndexFunc_Entry_l2 N a0 a1 ((a1.length : Nat) : Int) 0) fun z1 =>
 .sum z1 (fun z2 =>
 .ret z2) fun z2 =>
 .ret (-1)
def slices_IndexFunc_Entry (N : Nat) (a0 : Int) (a1 : List T_api_Entry) : Option (Int) := (slices_IndexFunc_Entry_t N a0 a1).run some
def slices_IndexFunc_Entry_L (N : Nat) : List (Nat × LEnt) := [(2, slices_IndexFunc_Entry_l2_s N)]
def slices_IndexFunc_Entry_s (N : Nat) : Ent := smF ⟨54, [], [.x (.sl 37 t_api_Entry), .fn 55 [] [.k (.p 50 [] 0)]], [], [(50, .cell false (.x (.i .i64)))]⟩ [(.i .i64), (.sl 37 t_api_Entry)] (Int) (fun x => slices_IndexFunc_Entry N x.1 x.2.1) cs1 fun x => slices_IndexFunc_Entry_o x.1
theorem slices_IndexFunc_Entry_ok (N : Nat) : SmOK Tryz.prog (slices_IndexFunc_Entry_s N) :=
  fn_ok (H := slices_IndexFunc_Entry_H) (L := lenv (slices_IndexFunc_Entry_L N)) (ts := [(.i .i64), (.sl 37 t_api_Entry)]) (T := fun x => slices_IndexFunc_Entry_t N x.1 x.2.1) 0 Tryz_F54 (slices_IndexFunc_Entry_Eok N) (lenv_ok (by kernel_rfl) ⟨slices_IndexFunc_Entry_l2_ok N, trivial⟩) (rg0 (by kernel_rfl)) fun x => by kernel_rfl
noncomputable def Tryz_b20 : Code := Tryz.f20.body.getD .skip
theorem Tryz_F20 : FnF Tryz.prog 20 Tryz.f20 Tryz_b20 := ⟨Tryz_draw, by kernel_rfl, by kernel_rfl, by kernel_rfl⟩
def manifest_Find_H : TH := { live := [(0, [3, 4, 5, 6]), (1, [5, 6, 8]), (2, [6, 8, 10]), (3, [6, 8, 10, 22]), (4, [6, 7]), (5, [6, 7])] }
def manifest_Find_E (N : Nat) : List Ent := [manifest_Line_s N, slices_IndexFunc_Entry_s N]
theorem manifest_Find_Eok (N : Nat) : SmAll Tryz.prog (manifest_Find_E N) := ⟨manifest_Line_ok N, slices_IndexFunc_Entry_ok N, trivial⟩
def manifest_Find_o (z : T_api_Entry × Bool) : TV × THp := (.tup [.tv t_api_Entry (z.1 : T_api_Entry), xb z.2], [])
def manifest_Find_t (N : Nat) (a0 : T_api_Manifest) (a1 : Vector UInt8 16) (a2 : Int) : Tree (T_api_Entry × Bool) :=
 .bind (manifest_Line N a0 a1) fun r1 =>
 .bind (slices_IndexFunc_Entry N a2 (T_api_Line.F r1.1)) fun r2 =>
 .cond (decide (r2 < ((0 : Int)))) (
 .ret (T_api_Entry.mk 0 (T_api_Stamp.mk 0 0) 0 ((Vector.replicate 32 0)) [], false)) <|
 .bind (getI (T_api_Line.F r1.1) r2) fun e3 =>
 .ret (e3, true)
def manifest_Find (N : Nat) (a0 : T_api_Manifest) (a1 : Vector UInt8 16) (a2 : Int) : Option (T_api_Entry × Bool) := (manifest_Find_t N a0 a1 a2).run some
def manifest_Find_L (N : Nat) : List (Nat × LEnt) := []
def manifest_Find_s (N : Nat) : Ent := smF ⟨20, [], [.x t_api_Manifest, .x (.ba 16), .x (.i .i64)], [], []⟩ [t_api_Manifest, (.ba 16), (.i .i64)] (T_api_Entry × Bool) (fun x => manifest_Find N x.1 x.2.1 x.2.2.1) cs1 fun _ => manifest_Find_o
theorem manifest_Find_ok (N : Nat) : SmOK Tryz.prog (manifest_Find_s N) :=
  fn_ok (H := manifest_Find_H) (L := lenv (manifest_Find_L N)) (ts := [t_api_Manifest, (.ba 16), (.i .i64)]) (T := fun x => manifest_Find_t N x.1 x.2.1 x.2.2.1) 0 Tryz_F20 (manifest_Find_Eok N) (lenv_ok (by kernel_rfl) trivial) (rg0 (by kernel_rfl)) fun x => by kernel_rfl
noncomputable def Tryz_b106 : Code := Tryz.f106.body.getD .skip
theorem Tryz_F106 : FnF Tryz.prog 106 Tryz.f106 Tryz_b106 := ⟨Tryz_draw, by kernel_rfl, by kernel_rfl, by kernel_rfl⟩
def manifest_blocks_H : TH := { live := [(0, [0]), (1, [0, 4]), (2, [2]), (3, [2])] }
def manifest_blocks_E (N : Nat) : List Ent := []
theorem manifest_blocks_Eok (N : Nat) : SmAll Tryz.prog (manifest_blocks_E N) := trivial
def manifest_blocks_o (z : Int) : TV × THp := (xi z, [])
def manifest_blocks_t (a0 : Int) : Tree (Int) :=
 .cond (decide (a0 < ((24 : Int)))) (
 .ret 0) <|
 .chk ((8 : Int) ≠ 0) <|
 .chk (in64 (a0.tdiv 8)) <|
 .ret (a0.tdiv 8)
def manifest_blocks (a0 : Int) : Option (Int) := (manifest_blocks_t a0).run some
def manifest_blocks_L : List (Nat × LEnt) := []
def manifest_blocks_s : Ent := smF ⟨106, [], [.x (.i .i64)], [], []⟩ [(.i .i64)] (Int) (fun x => manifest_blocks x.1) cs1 fun _ => manifest_blocks_o
theorem manifest_blocks_ok : SmOK Tryz.prog (manifest_blocks_s) :=
  fn_ok (H := manifest_blocks_H) (L := lenv (manifest_blocks_L)) (ts := [(.i .i64)]) (T := fun x => manifest_blocks_t x.1) 0 Tryz_F106 (manifest_blocks_Eok 0) (lenv_ok (by kernel_rfl) trivial) (rg0 (by kernel_rfl)) fun x => by kernel_rfl
noncomputable def Tryz_b78 : Code := Tryz.f78.body.getD .skip
theorem Tryz_F78 : FnF Tryz.prog 78 Tryz.f78 Tryz_b78 := ⟨Tryz_draw, by kernel_rfl, by kernel_rfl, by kernel_rfl⟩
def manifest_entry_H : TH := { live := [(0, [2, 3]), (1, [4])], dec := [8, 13, 18, 23, 32, 37] }
def manifest_entry_E (N : Nat) : List Ent := [manifest_blocks_s, stamp_May_s, stamp_Less_s N]
theorem manifest_entry_Eok (N : Nat) : SmAll Tryz.prog (manifest_entry_E N) := ⟨manifest_blocks_ok, stamp_May_ok, stamp_Less_ok N, trivial⟩
def manifest_entry_o (z : Bool) : TV × THp := (xb z, [])
def manifest_entry_t (N : Nat) (a0 : T_api_Entry) (a1 : T_api_Stamp) : Tree (Bool) :=
 .cond (decide (((0 : Int)) ≤ (T_api_Entry.No a0))) (
 .cond (decide ((T_api_Entry.No a0) < ((8 : Int)))) (
 .cond (decide (((0 : Int)) ≤ (T_api_Entry.Len a0))) (
 .cond (decide ((T_api_Entry.Len a0) ≤ ((200 : Int)))) (
 .bind (manifest_blocks (T_api_Entry.Len a0)) fun r1 =>
 .cond (decide ((((T_api_Entry.B a0).length : Nat) : Int) = r1)) (
 .bind (stamp_May (T_api_Entry.S a0)) fun r2 =>
 .cond r2 (
 .bind (stamp_Less N a1 (T_api_Entry.S a0)) fun r3 =>
 .ret r3) <|
 .ret false) <|
 .ret false) <|
 .ret false) <|
 .ret false) <|
 .ret false) <|
 .ret false
def manifest_entry (N : Nat) (a0 : T_api_Entry) (a1 : T_api_Stamp) : Option (Bool) := (manifest_entry_t N a0 a1).run some
def manifest_entry_L (N : Nat) : List (Nat × LEnt) := []
def manifest_entry_s (N : Nat) : Ent := smF ⟨78, [], [.x t_api_Entry, .x t_api_Stamp], [], []⟩ [t_api_Entry, t_api_Stamp] (Bool) (fun x => manifest_entry N x.1 x.2.1) cs1 fun _ => manifest_entry_o
theorem manifest_entry_ok (N : Nat) : SmOK Tryz.prog (manifest_entry_s N) :=
  fn_ok (H := manifest_entry_H) (L := lenv (manifest_entry_L N)) (ts := [t_api_Entry, t_api_Stamp]) (T := fun x => manifest_entry_t N x.1 x.2.1) 0 Tryz_F78 (manifest_entry_Eok N) (lenv_ok (by kernel_rfl) trivial) (rg0 (by kernel_rfl)) fun x => by kernel_rfl
noncomputable def Tryz_b44 : Code := Tryz.f44.body.getD .skip
theorem Tryz_F44 : FnF Tryz.prog 44 Tryz.f44 Tryz_b44 := ⟨Tryz_draw, by kernel_rfl, by kernel_rfl, by kernel_rfl⟩
def manifest_line_H : TH := { live := [(0, [1]), (1, [1, 6, 7, 8]), (2, [1, 6, 7, 8, 9]), (3, [1, 3, 4, 6, 7, 8]), (4, [1, 6, 7, 8, 33]), (5, [2]), (6, [1, 6, 7, 8]), (7, [2])], dec := [18, 21, 38, 43] }
def manifest_line_E (N : Nat) : List Ent := [manifest_entry_s N, stamp_May_s]
theorem manifest_line_Eok (N : Nat) : SmAll Tryz.prog (manifest_line_E N) := ⟨manifest_entry_ok N, stamp_May_ok, trivial⟩
abbrev manifest_line_l2_F := T_api_Line × List T_api_Entry × Int
abbrev manifest_line_l2_Y := Unit ⊕ (Int × Bool)
def manifest_line_l2_o (f : manifest_line_l2_F) : manifest_line_l2_Y → Ex × TSt
 | .inl y => (.ret, ⟨0, 50, [], [(2, .bc false)], [], false, []⟩)
 | .inr y => (.exit 0, ⟨0, 50, [], [(1, .p 10 [] 0), (6, .tv (.sl 37 t_api_Entry) f.2.1), (7, xi f.2.2), (8, xi y.1), (9, xb y.2)], [(10, .cell false (.tv t_api_Line f.1))], false, []⟩)
def manifest_line_l2_L (N : Nat) : List (Nat × LEnt) := []
abbrev manifest_line_l2_V := Int
def manifest_line_l2_p : SP := ⟨0, 50, [], [(1, .k (.p 10 [] 0)), (6, .x (.sl 37 t_api_Entry)), (7, .x (.i .i64)), (8, .x (.i .i64))], [(10, .cell false (.x t_api_Line))], false, []⟩
def manifest_line_l2_h (f : manifest_line_l2_F) (v : manifest_line_l2_V) : TSt := fillS manifest_line_l2_p [dv t_api_Line f.1, dv (.sl 37 t_api_Entry) f.2.1, dv (.i .i64) f.2.2, dv (.i .i64) v]
def manifest_line_l2_t (N : Nat) (o_2 : T_api_Line) (s6_2 : List T_api_Entry) (s7_2 : Int) (v : manifest_line_l2_V) : Tree (manifest_line_l2_V ⊕ manifest_line_l2_Y) :=
 .cond (decide (v < s7_2)) (
 .bind (getI s6_2 v) fun e1 =>
 .bind (manifest_entry N e1 (T_api_Line.Dead o_2)) fun r2 =>
 .cond (!r2) (
 .ret (.inr (.inl ()))) <|
 .cond (decide (((0 : Int)) < v)) (
 .chk (in64 (v - 1)) <|
 .bind (getI (T_api_Line.F o_2) (v - 1)) fun e3 =>
 .cond (decide ((T_api_Entry.No e1) ≤ (T_api_Entry.No e3))) (
 .ret (.inr (.inl ()))) <|
 .chk (in64 (v + 1)) <|
 .ret (.inl (v + 1))) <|
 .chk (in64 (v + 1)) <|
 .ret (.inl (v + 1))) <|
 .ret (.inr (.inr ((v, decide (v < s7_2)))))
def manifest_line_l2_n (N n : Nat) (f : manifest_line_l2_F) (v : manifest_line_l2_V) : Option manifest_line_l2_Y := loopG (manifest_line_l2_t N f.1 f.2.1 f.2.2) some n v
theorem manifest_line_l2_q (N : Nat) (f : manifest_line_l2_F) (n : Nat) (v : manifest_line_l2_V) (y : manifest_line_l2_Y) (h : manifest_line_l2_n N n f v = some y) : LG Tryz.prog manifest_line_H 44 (lookC Tryz_b44 2) (manifest_line_l2_h f v) (manifest_line_l2_o f y) :=
  loop_g Tryz_draw (E := manifest_line_E N) (L := lenv (manifest_line_l2_L N)) (st := manifest_line_l2_o f) (g := some) (R := manifest_line_l2_o f) (manifest_line_Eok N) (lenv_ok (by kernel_rfl) trivial) (rg0 (by kernel_rfl)) (fun v => by kernel_rfl) (good_self (st := manifest_line_l2_o f) fun y => by rcases y with _ | _ <;> rfl) n v y h
def manifest_line_l2 (N : Nat) (o_2 : T_api_Line) (s6_2 : List T_api_Entry) (s7_2 : Int) (s8_2 : Int) : Option manifest_line_l2_Y := manifest_line_l2_n N N (o_2, s6_2, s7_2) s8_2
def manifest_line_l2_s (N : Nat) : LEnt := smL manifest_line_l2_p [t_api_Line, (.sl 37 t_api_Entry), (.i .i64), (.i .i64)] manifest_line_l2_Y (fun x => manifest_line_l2 N x.1 x.2.1 x.2.2.1 x.2.2.2.1) (csS cs1) fun x => manifest_line_l2_o (x.1, x.2.1, x.2.2.1)
theorem manifest_line_l2_ok (N : Nat) : LsOK Tryz.prog manifest_line_H 44 (lookC Tryz_b44 2) (manifest_line_l2_s N) := smL_ok fun x z h => manifest_line_l2_q N (x.1, x.2.1, x.2.2.1) N x.2.2.2.1 z h
def manifest_line_o (z : Bool) : TV × THp := (xb z, [])
def manifest_line_t (N : Nat) (a0 : T_api_Line) : Tree (Bool) :=
 .bind (manifest_line_l2 N a0 (T_api_Line.F a0) (((T_api_Line.F a0).length : Nat) : Int) 0) fun z1 =>
 .sum z1 (fun z2 =>
 .ret false) fun z2 =>
 .bind (stamp_May (T_api_Line.Dead a0)) fun r3 =>
 .cond r3 (
 .cond (decide (((0 : Int)) < (((T_api_Line.F a0).length : Nat) : Int))) (
 .ret true) <|
 .ret (!(eqE t_api_Stamp (T_api_Line.Dead a0) (T_api_Stamp.mk 0 0)))) <|
 .ret false
def manifest_line (N : Nat) (a0 : T_api_Line) : Option (Bool) := (manifest_line_t N a0).run some
def manifest_line_L (N : Nat) : List (Nat × LEnt) := [(2, manifest_line_l2_s N)]
def manifest_line_s (N : Nat) : Ent := smF ⟨44, [], [.x t_api_Line], [], []⟩ [t_api_Line] (Bool) (fun x => manifest_line N x.1) cs1 fun _ => manifest_line_o
theorem manifest_line_ok (N : Nat) : SmOK Tryz.prog (manifest_line_s N) :=
  fn_ok (H := manifest_line_H) (L := lenv (manifest_line_L N)) (ts := [t_api_Line]) (T := fun x => manifest_line_t N x.1) 0 Tryz_F44 (manifest_line_Eok N) (lenv_ok (by kernel_rfl) ⟨manifest_line_l2_ok N, trivial⟩) (rg0 (by kernel_rfl)) fun x => by kernel_rfl
noncomputable def Tryz_b16 : Code := Tryz.f16.body.getD .skip
theorem Tryz_F16 : FnF Tryz.prog 16 Tryz.f16 Tryz_b16 := ⟨Tryz_draw, by kernel_rfl, by kernel_rfl, by kernel_rfl⟩
def manifest_May_H : TH := { live := [(0, [1]), (1, [1, 6, 7, 8]), (2, [1, 6, 7, 8, 9]), (3, [1, 3, 4, 6, 7, 8]), (4, [1, 6, 7, 8, 32]), (5, [2]), (6, [1, 6, 7, 8]), (7, [2])], dec := [16, 19] }
def manifest_May_E (N : Nat) : List Ent := [manifest_line_s N, book_Less_s]
theorem manifest_May_Eok (N : Nat) : SmAll Tryz.prog (manifest_May_E N) := ⟨manifest_line_ok N, book_Less_ok, trivial⟩
abbrev manifest_May_l2_F := T_api_Manifest × List T_api_Line × Int
abbrev manifest_May_l2_Y := Unit ⊕ (Int × Bool)
def manifest_May_l2_o (f : manifest_May_l2_F) : manifest_May_l2_Y → Ex × TSt
 | .inl y => (.ret, ⟨0, 38, [], [(2, .bc false)], [], false, []⟩)
 | .inr y => (.exit 0, ⟨0, 38, [], [(1, .p 10 [] 0), (6, .tv (.sl 19 t_api_Line) f.2.1), (7, xi f.2.2), (8, xi y.1), (9, xb y.2)], [(10, .cell false (.tv t_api_Manifest f.1))], false, []⟩)
def manifest_May_l2_L (N : Nat) : List (Nat × LEnt) := []
abbrev manifest_May_l2_V := Int
def manifest_May_l2_p : SP := ⟨0, 38, [], [(1, .k (.p 10 [] 0)), (6, .x (.sl 19 t_api_Line)), (7, .x (.i .i64)), (8, .x (.i .i64))], [(10, .cell false (.x t_api_Manifest))], false, []⟩
def manifest_May_l2_h (f : manifest_May_l2_F) (v : manifest_May_l2_V) : TSt := fillS manifest_May_l2_p [dv t_api_Manifest f.1, dv (.sl 19 t_api_Line) f.2.1, dv (.i .i64) f.2.2, dv (.i .i64) v]
def manifest_May_l2_t (N : Nat) (o_2 : T_api_Manifest) (s6_2 : List T_api_Line) (s7_2 : Int) (v : manifest_May_l2_V) : Tree (manifest_May_l2_V ⊕ manifest_May_l2_Y) :=
 .cond (decide (v < s7_2)) (
 .bind (getI s6_2 v) fun e1 =>
 .bind (manifest_line N e1) fun r2 =>
 .cond (!r2) (
 .ret (.inr (.inl ()))) <|
 .cond (decide (((0 : Int)) < v)) (
 .chk (in64 (v - 1)) <|
 .bind (getI (T_api_Manifest.L o_2) (v - 1)) fun e3 =>
 .bind (book_Less (T_api_Line.ID e3) (T_api_Line.ID e1)) fun r4 =>
 .cond (!r4) (
 .ret (.inr (.inl ()))) <|
 .chk (in64 (v + 1)) <|
 .ret (.inl (v + 1))) <|
 .chk (in64 (v + 1)) <|
 .ret (.inl (v + 1))) <|
 .ret (.inr (.inr ((v, decide (v < s7_2)))))
def manifest_May_l2_n (N n : Nat) (f : manifest_May_l2_F) (v : manifest_May_l2_V) : Option manifest_May_l2_Y := loopG (manifest_May_l2_t N f.1 f.2.1 f.2.2) some n v
theorem manifest_May_l2_q (N : Nat) (f : manifest_May_l2_F) (n : Nat) (v : manifest_May_l2_V) (y : manifest_May_l2_Y) (h : manifest_May_l2_n N n f v = some y) : LG Tryz.prog manifest_May_H 16 (lookC Tryz_b16 2) (manifest_May_l2_h f v) (manifest_May_l2_o f y) :=
  loop_g Tryz_draw (E := manifest_May_E N) (L := lenv (manifest_May_l2_L N)) (st := manifest_May_l2_o f) (g := some) (R := manifest_May_l2_o f) (manifest_May_Eok N) (lenv_ok (by kernel_rfl) trivial) (rg0 (by kernel_rfl)) (fun v => by kernel_rfl) (good_self (st := manifest_May_l2_o f) fun y => by rcases y with _ | _ <;> rfl) n v y h
def manifest_May_l2 (N : Nat) (o_2 : T_api_Manifest) (s6_2 : List T_api_Line) (s7_2 : Int) (s8_2 : Int) : Option manifest_May_l2_Y := manifest_May_l2_n N N (o_2, s6_2, s7_2) s8_2
def manifest_May_l2_s (N : Nat) : LEnt := smL manifest_May_l2_p [t_api_Manifest, (.sl 19 t_api_Line), (.i .i64), (.i .i64)] manifest_May_l2_Y (fun x => manifest_May_l2 N x.1 x.2.1 x.2.2.1 x.2.2.2.1) (csS cs1) fun x => manifest_May_l2_o (x.1, x.2.1, x.2.2.1)
theorem manifest_May_l2_ok (N : Nat) : LsOK Tryz.prog manifest_May_H 16 (lookC Tryz_b16 2) (manifest_May_l2_s N) := smL_ok fun x z h => manifest_May_l2_q N (x.1, x.2.1, x.2.2.1) N x.2.2.2.1 z h
def manifest_May_o (z : Bool) : TV × THp := (xb z, [])
def manifest_May_t (N : Nat) (a0 : T_api_Manifest) : Tree (Bool) :=
 .bind (manifest_May_l2 N a0 (T_api_Manifest.L a0) (((T_api_Manifest.L a0).length : Nat) : Int) 0) fun z1 =>
 .sum z1 (fun z2 =>
 .ret false) fun z2 =>
 .ret (decide ((((T_api_Manifest.L a0).length : Nat) : Int) ≤ ((10 : Int))))
def manifest_May (N : Nat) (a0 : T_api_Manifest) : Option (Bool) := (manifest_May_t N a0).run some
def manifest_May_L (N : Nat) : List (Nat × LEnt) := [(2, manifest_May_l2_s N)]
def manifest_May_s (N : Nat) : Ent := smF ⟨16, [], [.x t_api_Manifest], [], []⟩ [t_api_Manifest] (Bool) (fun x => manifest_May N x.1) cs1 fun _ => manifest_May_o
theorem manifest_May_ok (N : Nat) : SmOK Tryz.prog (manifest_May_s N) :=
  fn_ok (H := manifest_May_H) (L := lenv (manifest_May_L N)) (ts := [t_api_Manifest]) (T := fun x => manifest_May_t N x.1) 0 Tryz_F16 (manifest_May_Eok N) (lenv_ok (by kernel_rfl) ⟨manifest_May_l2_ok N, trivial⟩) (rg0 (by kernel_rfl)) fun x => by kernel_rfl
noncomputable def Tryz_b31 : Code := Tryz.f31.body.getD .skip
theorem Tryz_F31 : FnF Tryz.prog 31 Tryz.f31 Tryz_b31 := ⟨Tryz_draw, by kernel_rfl, by kernel_rfl, by kernel_rfl⟩
def rolodexref10_Same_H : TH := { live := [(0, [0, 1]), (1, [0, 1, 10]), (2, [4]), (3, [0, 1, 5]), (4, [0, 1, 5, 14]), (5, [0, 1, 5]), (6, [0, 1, 5, 25]), (7, [4]), (8, [4])] }
def rolodexref10_Same_E (N : Nat) : List Ent := []
theorem rolodexref10_Same_Eok (N : Nat) : SmAll Tryz.prog (rolodexref10_Same_E N) := trivial
abbrev rolodexref10_Same_l4_F := List T_api_Sig × List T_api_Sig
abbrev rolodexref10_Same_l4_Y := Unit ⊕ (Int × Bool)
def rolodexref10_Same_l4_o (f : rolodexref10_Same_l4_F) : rolodexref10_Same_l4_Y → Ex × TSt
 | .inl y => (.ret, ⟨0, 26, [], [(4, .bc false)], [], false, []⟩)
 | .inr y => (.exit 0, ⟨0, 26, [], [(0, .tv (.sl 33 t_api_Sig) f.1), (1, .tv (.sl 33 t_api_Sig) f.2), (5, xi y.1), (14, xb y.2)], [], false, []⟩)
def rolodexref10_Same_l4_L (N : Nat) : List (Nat × LEnt) := []
abbrev rolodexref10_Same_l4_V := Int
def rolodexref10_Same_l4_p : SP := ⟨0, 26, [], [(0, .x (.sl 33 t_api_Sig)), (1, .x (.sl 33 t_api_Sig)), (5, .x (.i .i64))], [], false, []⟩
def rolodexref10_Same_l4_h (f : rolodexref10_Same_l4_F) (v : rolodexref10_Same_l4_V) : TSt := fillS rolodexref10_Same_l4_p [dv (.sl 33 t_api_Sig) f.1, dv (.sl 33 t_api_Sig) f.2, dv (.i .i64) v]
def rolodexref10_Same_l4_t (N : Nat) (s0_4 : List T_api_Sig) (s1_4 : List T_api_Sig) (v : rolodexref10_Same_l4_V) : Tree (rolodexref10_Same_l4_V ⊕ rolodexref10_Same_l4_Y) :=
 .cond (decide (v < ((s0_4.length : Nat) : Int))) (
 .bind (getI s0_4 v) fun e1 =>
 .bind (getI s1_4 v) fun e2 =>
 .cond (!(eqE t_api_Sig e1 e2)) (
 .ret (.inr (.inl ()))) <|
 .chk (in64 (v + 1)) <|
 .ret (.inl (v + 1))) <|
 .ret (.inr (.inr ((v, decide (v < ((s0_4.length : Nat) : Int))))))
def rolodexref10_Same_l4_n (N n : Nat) (f : rolodexref10_Same_l4_F) (v : rolodexref10_Same_l4_V) : Option rolodexref10_Same_l4_Y := loopG (rolodexref10_Same_l4_t N f.1 f.2) some n v
theorem rolodexref10_Same_l4_q (N : Nat) (f : rolodexref10_Same_l4_F) (n : Nat) (v : rolodexref10_Same_l4_V) (y : rolodexref10_Same_l4_Y) (h : rolodexref10_Same_l4_n N n f v = some y) : LG Tryz.prog rolodexref10_Same_H 31 (lookC Tryz_b31 4) (rolodexref10_Same_l4_h f v) (rolodexref10_Same_l4_o f y) :=
  loop_g Tryz_draw (E := rolodexref10_Same_E N) (L := lenv (rolodexref10_Same_l4_L N)) (st := rolodexref10_Same_l4_o f) (g := some) (R := rolodexref10_Same_l4_o f) (rolodexref10_Same_Eok N) (lenv_ok (by kernel_rfl) trivial) (rg0 (by kernel_rfl)) (fun v => by kernel_rfl) (good_self (st := rolodexref10_Same_l4_o f) fun y => by rcases y with _ | _ <;> rfl) n v y h
def rolodexref10_Same_l4 (N : Nat) (s0_4 : List T_api_Sig) (s1_4 : List T_api_Sig) (s5_4 : Int) : Option rolodexref10_Same_l4_Y := rolodexref10_Same_l4_n N N (s0_4, s1_4) s5_4
def rolodexref10_Same_l4_s (N : Nat) : LEnt := smL rolodexref10_Same_l4_p [(.sl 33 t_api_Sig), (.sl 33 t_api_Sig), (.i .i64)] rolodexref10_Same_l4_Y (fun x => rolodexref10_Same_l4 N x.1 x.2.1 x.2.2.1) (csS cs1) fun x => rolodexref10_Same_l4_o (x.1, x.2.1)
theorem rolodexref10_Same_l4_ok (N : Nat) : LsOK Tryz.prog rolodexref10_Same_H 31 (lookC Tryz_b31 4) (rolodexref10_Same_l4_s N) := smL_ok fun x z h => rolodexref10_Same_l4_q N (x.1, x.2.1) N x.2.2.1 z h
def rolodexref10_Same_o (z : Bool) : TV × THp := (xb z, [])
def rolodexref10_Same_t (N : Nat) (a0 : List T_api_Sig) (a1 : List T_api_Sig) : Tree (Bool) :=
 .cond (!decide (((a0.length : Nat) : Int) = ((a1.length : Nat) : Int))) (
 .ret false) <|
 .bind (rolodexref10_Same_l4 N a0 a1 0) fun z1 =>
 .sum z1 (fun z2 =>
 .ret false) fun z2 =>
 .ret true
def rolodexref10_Same (N : Nat) (a0 : List T_api_Sig) (a1 : List T_api_Sig) : Option (Bool) := (rolodexref10_Same_t N a0 a1).run some
def rolodexref10_Same_L (N : Nat) : List (Nat × LEnt) := [(4, rolodexref10_Same_l4_s N)]
def rolodexref10_Same_s (N : Nat) : Ent := smF ⟨31, [], [.x (.sl 33 t_api_Sig), .x (.sl 33 t_api_Sig)], [], []⟩ [(.sl 33 t_api_Sig), (.sl 33 t_api_Sig)] (Bool) (fun x => rolodexref10_Same N x.1 x.2.1) cs1 fun _ => rolodexref10_Same_o
theorem rolodexref10_Same_ok (N : Nat) : SmOK Tryz.prog (rolodexref10_Same_s N) :=
  fn_ok (H := rolodexref10_Same_H) (L := lenv (rolodexref10_Same_L N)) (ts := [(.sl 33 t_api_Sig), (.sl 33 t_api_Sig)]) (T := fun x => rolodexref10_Same_t N x.1 x.2.1) 0 Tryz_F31 (rolodexref10_Same_Eok N) (lenv_ok (by kernel_rfl) ⟨rolodexref10_Same_l4_ok N, trivial⟩) (rg0 (by kernel_rfl)) fun x => by kernel_rfl
noncomputable def Tryz_b8 : Code := Tryz.f8.body.getD .skip
theorem Tryz_F8 : FnF Tryz.prog 8 Tryz.f8 Tryz_b8 := ⟨Tryz_draw, by kernel_rfl, by kernel_rfl, by kernel_rfl⟩
def rolodexlaw12_ManifestKnows_H : TH := { live := [(0, [2, 3, 4]), (1, [2, 3, 4, 7]), (2, [2, 3, 4, 7, 8]), (3, [2, 3, 4, 7, 8, 9, 10]), (4, [2, 3, 4, 7, 8, 9, 10, 37]), (5, [6]), (6, [2, 3, 4, 9, 11, 12]), (7, [2, 3, 4, 9, 11, 12, 13, 14]), (8, [2, 3, 4, 9, 11, 12, 13, 14, 15, 16]), (9, [3, 9, 11, 12, 13, 14, 15, 16, 17, 18]), (10, [13, 17, 18, 114]), (11, [6]), (12, [13, 17, 116]), (13, [6]), (14, [13, 17, 19]), (15, [6])], dec := [30, 34, 39, 42, 47, 79, 86, 91, 98, 107, 110, 120, 133, 140, 148] }
def rolodexlaw12_ManifestKnows_E (N : Nat) : List Ent := [auto9_s, rolodexlaw07_Few_s N, manifest_Of_s N, book_Find_s N, rec_Find_s N, manifest_Line_s N, manifest_Find_s N, manifest_May_s N, canon_Digest_s N, sign_Of_s N, rolodexref10_Same_s N, sha_Of_s N, book_May_s N]
theorem rolodexlaw12_ManifestKnows_Eok (N : Nat) : SmAll Tryz.prog (rolodexlaw12_ManifestKnows_E N) := ⟨auto9_ok, rolodexlaw07_Few_ok N, manifest_Of_ok N, book_Find_ok N, rec_Find_ok N, manifest_Line_ok N, manifest_Find_ok N, manifest_May_ok N, canon_Digest_ok N, sign_Of_ok N, rolodexref10_Same_ok N, sha_Of_ok N, book_May_ok N, trivial⟩
def rolodexlaw12_ManifestKnows_o (z : Bool) : TV × THp := (xb z, [])
def rolodexlaw12_ManifestKnows_t (N : Nat) (a0 : T_api_Book) (a1 : Vector UInt8 16) (a2 : Int) : Tree (Bool) :=
 .bind (auto9) fun r1 =>
 .bind (rolodexlaw07_Few N a0) fun r2 =>
 .bind (manifest_Of N a0) fun r3 =>
 .cond (!r1) (
 .cond r1 (
 .cond (!r2) (
 .ret true) <|
 .bind (book_May N a0) fun r4 =>
 .cond (!r4) (
 .ret true) <|
 .ret r3.2) <|
 .ret false) <|
 .cond (!r2) (
 .cond r1 (
 .cond (!r2) (
 .ret true) <|
 .bind (book_May N a0) fun r4 =>
 .cond (!r4) (
 .ret true) <|
 .ret r3.2) <|
 .ret false) <|
 .cond (!r3.2) (
 .cond r1 (
 .cond (!r2) (
 .ret true) <|
 .bind (book_May N a0) fun r4 =>
 .cond (!r4) (
 .ret true) <|
 .ret r3.2) <|
 .ret false) <|
 .bind (book_Find N a0 a1) fun r4 =>
 .bind (rec_Find N r4.1 a2) fun r5 =>
 .bind (manifest_Line N r3.1 a1) fun r6 =>
 .bind (manifest_Find N r3.1 a1 a2) fun r7 =>
 .bind (manifest_May N r3.1) fun r8 =>
 .cond (!r8) (
 .ret false) <|
 .bind (canon_Digest N a0) fun r9 =>
 .cond (!(eqE (.ba 32) (T_api_Manifest.Base r3.1) r9)) (
 .ret false) <|
 .cond (!(eqE .b r4.2 r6.2)) (
 .ret false) <|
 .cond (!(eqE t_api_Stamp (T_api_Line.Dead r6.1) (T_api_Rec.Dead r4.1))) (
 .ret false) <|
 .cond (!decide ((((T_api_Line.F r6.1).length : Nat) : Int) = (((T_api_Rec.F r4.1).length : Nat) : Int))) (
 .ret false) <|
 .cond r4.2 (
 .cond (!(eqE .b r7.2 r5.2)) (
 .ret false) <|
 .cond (!r7.2) (
 .cond (decide ((T_api_Entry.Len r7.1) = ((0 : Int)))) (
 .ret (decide ((((T_api_Entry.B r7.1).length : Nat) : Int) = ((0 : Int))))) <|
 .ret false) <|
 .bind (sign_Of N (T_api_Cell.V r5.1)) fun r10 =>
 .bind (rolodexref10_Same N (T_api_Entry.B r7.1) r10) fun r11 =>
 .cond r11 (
 .cond (eqE t_api_Stamp (T_api_Entry.S r7.1) (T_api_Cell.S r5.1)) (
 .cond (decide ((T_api_Entry.Len r7.1) = (((T_api_Cell.V r5.1).length : Nat) : Int))) (
 .bind (sha_Of N (T_api_Cell.V r5.1)) fun r12 =>
 .ret (eqE (.ba 32) (T_api_Entry.D r7.1) r12)) <|
 .ret false) <|
 .ret false) <|
 .ret false) <|
 .cond (!(eqE .b r7.2 false)) (
 .ret false) <|
 .cond (!r7.2) (
 .cond (decide ((T_api_Entry.Len r7.1) = ((0 : Int)))) (
 .ret (decide ((((T_api_Entry.B r7.1).length : Nat) : Int) = ((0 : Int))))) <|
 .ret false) <|
 .bind (sign_Of N (T_api_Cell.V r5.1)) fun r10 =>
 .bind (rolodexref10_Same N (T_api_Entry.B r7.1) r10) fun r11 =>
 .cond r11 (
 .cond (eqE t_api_Stamp (T_api_Entry.S r7.1) (T_api_Cell.S r5.1)) (
 .cond (decide ((T_api_Entry.Len r7.1) = (((T_api_Cell.V r5.1).length : Nat) : Int))) (
 .bind (sha_Of N (T_api_Cell.V r5.1)) fun r12 =>
 .ret (eqE (.ba 32) (T_api_Entry.D r7.1) r12)) <|
 .ret false) <|
 .ret false) <|
 .ret false
def rolodexlaw12_ManifestKnows (N : Nat) (a0 : T_api_Book) (a1 : Vector UInt8 16) (a2 : Int) : Option (Bool) := (rolodexlaw12_ManifestKnows_t N a0 a1 a2).run some
def rolodexlaw12_ManifestKnows_L (N : Nat) : List (Nat × LEnt) := []
def rolodexlaw12_ManifestKnows_s (N : Nat) : Ent := smF ⟨8, [], [.x t_api_Book, .x (.ba 16), .x (.i .i64)], [], []⟩ [t_api_Book, (.ba 16), (.i .i64)] (Bool) (fun x => rolodexlaw12_ManifestKnows N x.1 x.2.1 x.2.2.1) cs1 fun _ => rolodexlaw12_ManifestKnows_o
theorem rolodexlaw12_ManifestKnows_val (N : Nat) : FnVal Tryz.prog ⟨8, [], [.x t_api_Book, .x (.ba 16), .x (.i .i64)], [], []⟩ [t_api_Book, (.ba 16), (.i .i64)] (fun x => rolodexlaw12_ManifestKnows_t N x.1 x.2.1 x.2.2.1) (fun _ => rolodexlaw12_ManifestKnows_o) :=
  fn_val (H := rolodexlaw12_ManifestKnows_H) (L := lenv (rolodexlaw12_ManifestKnows_L N)) 0 Tryz_F8 (rolodexlaw12_ManifestKnows_Eok N) (lenv_ok (by kernel_rfl) trivial) (rg0 (by kernel_rfl)) fun x => by kernel_rfl
theorem rolodexlaw12_ManifestKnows_ok (N : Nat) : SmOK Tryz.prog (rolodexlaw12_ManifestKnows_s N) := smF_ok (rolodexlaw12_ManifestKnows_val N)
end Go.Rx
end
