/- A part of the proof of ManifestLike: the law returns true for every input, and its arguments read as before. No condition. -/
import Derived.Test.YthflaibfpmgkfaaGreatProg
import Derived.Test.YthflaibfpmgkfaaGreatComE
set_option linter.unusedSimpArgs false
set_option linter.unusedVariables false
set_option linter.unusedSectionVars false
noncomputable section
namespace Go.Rx
theorem run_via {α R : Type} (n : α → Option R) : ∀ t : Tree α, t.run n = (t.run some).bind n
  | .ret a => rfl
  | .no => rfl
  | .cond b s t => by
    simp only [Tree.run]
    cases b
    · exact run_via n t
    · exact run_via n s
  | @Tree.chk _ p d t => by
    simp only [Tree.run, chk]
    split
    · exact run_via n t
    · rfl
  | .bind o k => by
    simp only [Tree.run]
    cases o with
    | none => rfl
    | some x => exact run_via n (k x)
  | .opt o s k => by
    simp only [Tree.run]
    cases o with
    | none => exact run_via n s
    | some x => exact run_via n (k x)
  | .sum x f g => by
    cases x with
    | inl a => exact run_via n (f a)
    | inr b => exact run_via n (g b)
section r
variable {α R : Type} {n : α → Option R}
theorem run_ret {a : α} : (Tree.ret a).run n = n a := rfl
theorem run_cond {b : Bool} {s t : Tree α} : (Tree.cond b s t).run n = bif b then s.run n else t.run n := rfl
theorem run_chk {p : Prop} [Decidable p] {t : Tree α} : (Tree.chk p t).run n = chk p (t.run n) := rfl
theorem run_bind {β : Type} {o : Option β} {k : β → Tree α} : (Tree.bind o k).run n = o.bind fun x => (k x).run n := rfl
theorem run_suml {β γ : Type} {x : β} {f : β → Tree α} {g : γ → Tree α} : (Tree.sum (.inl x) f g).run n = (f x).run n := rfl
theorem run_sumr {β γ : Type} {x : γ} {f : β → Tree α} {g : γ → Tree α} : (Tree.sum (.inr x) f g).run n = (g x).run n := rfl
end r
theorem loop_next {V W Y : Type} {B : V → Tree (V ⊕ W)} {g : W → Option Y} {v v' : V} (h : (B v).run some = some (.inl v')) (N : Nat) : loopG B g (N + 1) v = loopG B g N v' := by
  simp only [loopG]
  rw [run_via, h]; rfl
theorem loop_stop {V W Y : Type} {B : V → Tree (V ⊕ W)} {g : W → Option Y} {v : V} {x : W} (h : (B v).run some = some (.inr x)) (N : Nat) : loopG B g (N + 1) v = g x := by
  simp only [loopG]
  rw [run_via, h]; rfl
theorem loop_inv {V W Y : Type} {B : V → Tree (V ⊕ W)} {g : W → Option Y} {I : V → Prop} {Q : Y → Prop} (m : V → Nat)
    (h : ∀ v, I v → (∃ v', (B v).run some = some (.inl v') ∧ I v' ∧ m v' < m v) ∨ ∃ x y, (B v).run some = some (.inr x) ∧ g x = some y ∧ Q y) :
    ∀ (N : Nat) (v : V), I v → m v < N → ∃ y, loopG B g N v = some y ∧ Q y
  | 0, v, _, hm => by omega
  | N + 1, v, hi, hm => by
    rcases h v hi with ⟨v', h1, h2, h3⟩ | ⟨x, y, h1, h2, h3⟩
    · rw [loop_next h1]
      exact loop_inv m h N v' h2 (by omega)
    · rw [loop_stop h1]
      exact ⟨y, h2, h3⟩
theorem loop_find {W Y : Type} {B : Int → Tree (Int ⊕ W)} {g : W → Option Y} {p : Nat → Bool} {n : Nat} {hit : Nat → W} {fin : W}
    (h1 : ∀ k, k < n → (B (k : Int)).run some = some (if p k then .inr (hit k) else .inl ((k + 1 : Nat) : Int))) (h2 : (B (n : Int)).run some = some (.inr fin)) :
    ∀ (N k : Nat), k ≤ n → n < N + k → loopG B g N (k : Int) = g (match firstF p (n - k) k with | some j => hit j | none => fin)
  | 0, k, hk, hN => by omega
  | N + 1, k, hk, hN => by
    by_cases e : k = n
    · subst e
      rw [loop_stop h2, Nat.sub_self]; rfl
    · obtain ⟨m, hm⟩ : ∃ m, n - k = m + 1 := ⟨n - k - 1, by omega⟩
      have h3 := h1 k (by omega)
      rw [hm]
      unfold firstF
      cases hp : p k with
      | true =>
        rw [hp, if_pos rfl] at h3
        rw [loop_stop h3, if_pos rfl]
      | false =>
        rw [hp, if_neg (by simp)] at h3
        rw [loop_next h3, loop_find h1 h2 N (k + 1) (by omega) (by omega), if_neg (by simp), show n - (k + 1) = m by omega]
def foldF {σ : Type} (f : Nat → σ → σ) : Nat → Nat → σ → σ
  | 0, _, s => s
  | m + 1, k, s => foldF f m (k + 1) (f k s)
theorem loop_fold {σ W Y : Type} {V : Type} {B : V → Tree (V ⊕ W)} {g : W → Option Y} {at_ : Nat → σ → V} {I : Nat → σ → Prop} {f : Nat → σ → σ} {n : Nat} {fin : σ → W}
    (h1 : ∀ k s, k < n → I k s → (B (at_ k s)).run some = some (.inl (at_ (k + 1) (f k s))) ∧ I (k + 1) (f k s)) (h2 : ∀ s, I n s → (B (at_ n s)).run some = some (.inr (fin s))) :
    ∀ (N k : Nat) (s : σ), I k s → k ≤ n → n < N + k → loopG B g N (at_ k s) = g (fin (foldF f (n - k) k s))
  | 0, k, s, _, hk, hN => by omega
  | N + 1, k, s, hi, hk, hN => by
    by_cases e : k = n
    · subst e
      rw [loop_stop (h2 s hi), Nat.sub_self]; rfl
    · obtain ⟨m, hm⟩ : ∃ m, n - k = m + 1 := ⟨n - k - 1, by omega⟩
      obtain ⟨h3, h4⟩ := h1 k s (by omega) hi
      rw [loop_next h3, loop_fold h1 h2 N (k + 1) _ h4 (by omega) (by omega), hm, show n - (k + 1) = m by omega]
      rfl
theorem getV_lt {α : Type} {l : List α} {k : Nat} (h : k < l.length) : getV l l.length k = some l[k] := by
  unfold getV; rw [if_pos rfl, List.getElem?_eq_getElem h]
theorem getV_D {α : Type} {l : List α} {k n : Nat} {d : α} (hn : l.length = n) (h : k < l.length) : getV l n k = some (l.getD k d) := by
  unfold getV; rw [if_pos hn, List.getElem?_eq_getElem h]; simp [List.getD, List.getElem?_eq_getElem h]
theorem chk_pos' {α : Type} {p : Prop} [Decidable p] {x : Option α} (h : p) : chk p x = x := if_pos h
theorem chkLs_nil {Z : Type} (o : Option Z) : chkLs [] o = o := rfl
theorem chkLs_pos {Z : Type} {a b : Nat} {ps : List (Nat × Nat)} {o : Option Z} (h : a = b) : chkLs ((a, b) :: ps) o = chkLs ps o := if_pos h
theorem in64_ok {n : Int} (h1 : -1000000000 ≤ n) (h2 : n ≤ 1000000000) : in64 n := by unfold in64; omega
theorem fndV_none {k : Int} {m : List (Int × Bool × Nat)} (h : valM k m = none) : fnd (β := Bool) (.i .i64) k m = none := by
  have : fnd (β := Bool) (.i .i64) k m = findM k m := by
    unfold fnd
    congr 1
  rw [this]; exact find_none h
theorem fndV_some {k : Int} {m : List (Int × Bool × Nat)} {x : Bool} (h : valM k m = some x) : ∃ c, fnd (β := Bool) (.i .i64) k m = some (x, c) := by
  have : fnd (β := Bool) (.i .i64) k m = findM k m := by
    unfold fnd
    congr 1
  rw [this]; exact find_some h
end Go.Rx
end
noncomputable section
namespace Go.Rx
def t_api_Stamp : Ty := .ag [.i .i64, .i .i64]
abbrev T_api_Stamp := Int × Int
def T_api_Stamp.N (x : T_api_Stamp) : Int := x.1
def T_api_Stamp.Rep (x : T_api_Stamp) : Int := x.2
def T_api_Stamp.mk (x0 : Int) (x1 : Int) : T_api_Stamp := (x0, x1)
instance T_api_Stamp.dec : DecidableEq T_api_Stamp := decE t_api_Stamp
def t_api_Sig : Ty := .ag [.i .u32, .ba 32]
abbrev T_api_Sig := Int × Vector UInt8 32
def T_api_Sig.Weak (x : T_api_Sig) : Int := x.1
def T_api_Sig.Strong (x : T_api_Sig) : Vector UInt8 32 := x.2
def T_api_Sig.mk (x0 : Int) (x1 : Vector UInt8 32) : T_api_Sig := (x0, x1)
instance T_api_Sig.dec : DecidableEq T_api_Sig := decE t_api_Sig
def t_api_Entry : Ty := .ag [.i .i64, t_api_Stamp, .i .i64, .ba 32, .sl 33 t_api_Sig]
abbrev T_api_Entry := Int × T_api_Stamp × Int × Vector UInt8 32 × List T_api_Sig
def T_api_Entry.No (x : T_api_Entry) : Int := x.1
def T_api_Entry.S (x : T_api_Entry) : T_api_Stamp := x.2.1
def T_api_Entry.Len (x : T_api_Entry) : Int := x.2.2.1
def T_api_Entry.D (x : T_api_Entry) : Vector UInt8 32 := x.2.2.2.1
def T_api_Entry.B (x : T_api_Entry) : List T_api_Sig := x.2.2.2.2
def T_api_Entry.mk (x0 : Int) (x1 : T_api_Stamp) (x2 : Int) (x3 : Vector UInt8 32) (x4 : List T_api_Sig) : T_api_Entry := (x0, x1, x2, x3, x4)
instance T_api_Entry.dec : DecidableEq T_api_Entry := decE t_api_Entry
def t_api_Line : Ty := .ag [.ba 16, t_api_Stamp, .sl 37 t_api_Entry]
abbrev T_api_Line := Vector UInt8 16 × T_api_Stamp × List T_api_Entry
def T_api_Line.ID (x : T_api_Line) : Vector UInt8 16 := x.1
def T_api_Line.Dead (x : T_api_Line) : T_api_Stamp := x.2.1
def T_api_Line.F (x : T_api_Line) : List T_api_Entry := x.2.2
def T_api_Line.mk (x0 : Vector UInt8 16) (x1 : T_api_Stamp) (x2 : List T_api_Entry) : T_api_Line := (x0, x1, x2)
instance T_api_Line.dec : DecidableEq T_api_Line := decE t_api_Line
def t_api_Manifest : Ty := .ag [.ba 32, .sl 19 t_api_Line]
abbrev T_api_Manifest := Vector UInt8 32 × List T_api_Line
def T_api_Manifest.Base (x : T_api_Manifest) : Vector UInt8 32 := x.1
def T_api_Manifest.L (x : T_api_Manifest) : List T_api_Line := x.2
def T_api_Manifest.mk (x0 : Vector UInt8 32) (x1 : List T_api_Line) : T_api_Manifest := (x0, x1)
instance T_api_Manifest.dec : DecidableEq T_api_Manifest := decE t_api_Manifest
def t_manifest_kind : Ty := .ag [.ba 32, .i .i64]
abbrev T_manifest_kind := Vector UInt8 32 × Int
def T_manifest_kind.d (x : T_manifest_kind) : Vector UInt8 32 := x.1
def T_manifest_kind.n (x : T_manifest_kind) : Int := x.2
def T_manifest_kind.mk (x0 : Vector UInt8 32) (x1 : Int) : T_manifest_kind := (x0, x1)
instance T_manifest_kind.dec : DecidableEq T_manifest_kind := decE t_manifest_kind
def t_manifest_place : Ty := .ag [.ba 16, .i .i64]
abbrev T_manifest_place := Vector UInt8 16 × Int
def T_manifest_place.id (x : T_manifest_place) : Vector UInt8 16 := x.1
def T_manifest_place.no (x : T_manifest_place) : Int := x.2
def T_manifest_place.mk (x0 : Vector UInt8 16) (x1 : Int) : T_manifest_place := (x0, x1)
instance T_manifest_place.dec : DecidableEq T_manifest_place := decE t_manifest_place
end Go.Rx
end
set_option maxRecDepth 100000
noncomputable section
namespace Go.Rx
open Go.Proofs
theorem Tryz_draw : Tryz.prog.follows .mixedOrders = true := by kernel_rfl
noncomputable instance Tryz_ct : CT := ⟨ctF Tryz.prog⟩
def bcmp_s : Ent := cmpS 107
theorem bcmp_ok : SmOK Tryz.prog bcmp_s := cmpS_ok (fn := Tryz.f107) (by kernel_rfl) (by kernel_rfl) (by kernel_rfl) (by kernel_rfl) (by kernel_rfl)
noncomputable def Tryz_b69 : Code := Tryz.f69.body.getD .skip
theorem Tryz_F69 : FnF Tryz.prog 69 Tryz.f69 Tryz_b69 := ⟨Tryz_draw, by kernel_rfl, by kernel_rfl, by kernel_rfl⟩
def bytes_Clone_H : TH := { live := [(0, [0]), (1, [0, 4]), (2, [2]), (3, [2])], vecs := [5], esc := true }
def bytes_Clone_E (N : Nat) : List Ent := []
theorem bytes_Clone_Eok (N : Nat) : SmAll Tryz.prog (bytes_Clone_E N) := trivial
def bytes_Clone_o (a0 : List UInt8) (z : Unit) : TV × THp := (.v 100050 (((([] : List UInt8)) ++ a0).length), [(100050, .vec false 1 .bl ((([] : List UInt8)) ++ a0 : List UInt8))])
def bytes_Clone_t (a0 : List UInt8) : Tree (Unit) :=
 .chk (List.isEmpty a0 = false) <|
 .chk (avOK ((([] : List UInt8)).length) 0 (((([] : List UInt8)) ++ a0).length) 1) <|
 .ret ()
def bytes_Clone (a0 : List UInt8) : Option (Unit) := (bytes_Clone_t a0).run some
def bytes_Clone_L : List (Nat × LEnt) := []
def bytes_Clone_s : Ent := smF ⟨69, [], [.x .bl], [], []⟩ [.bl] (Unit) (fun x => bytes_Clone x.1) cs1 fun x => bytes_Clone_o x.1
theorem bytes_Clone_val : FnVal Tryz.prog ⟨69, [], [.x .bl], [], []⟩ [.bl] (fun x => bytes_Clone_t x.1) (fun x => bytes_Clone_o x.1) :=
  fn_val (H := bytes_Clone_H) (L := lenv (bytes_Clone_L)) 0 Tryz_F69 (bytes_Clone_Eok 0) (lenv_ok (by kernel_rfl) trivial) (rg0 (by kernel_rfl)) fun x => by kernel_rfl
theorem bytes_Clone_ok : SmOK Tryz.prog (bytes_Clone_s) := smF_ok (bytes_Clone_val)
def bytes_Clone_2_H : TH := { live := [(0, [0]), (1, [0, 4]), (2, [2]), (3, [2])], vecs := [5], esc := true }
def bytes_Clone_2_E (N : Nat) : List Ent := []
theorem bytes_Clone_2_Eok (N : Nat) : SmAll Tryz.prog (bytes_Clone_2_E N) := trivial
def bytes_Clone_2_o (z : Unit) : TV × THp := (.v 100050 0, [(100050, .vec false 1 .bl ([] : List UInt8))])
def bytes_Clone_2_t : Tree (Unit) :=
 .chk (0 = 0) <|
 .ret ()
def bytes_Clone_2 : Option (Unit) := (bytes_Clone_2_t).run some
def bytes_Clone_2_L : List (Nat × LEnt) := []
def bytes_Clone_2_s : Ent := smF ⟨69, [], [.k (.es 0)], [], []⟩ [] (Unit) (fun x => bytes_Clone_2) cs1 fun _ => bytes_Clone_2_o
theorem bytes_Clone_2_val : FnVal Tryz.prog ⟨69, [], [.k (.es 0)], [], []⟩ [] (fun x => bytes_Clone_2_t) (fun _ => bytes_Clone_2_o) :=
  fn_val (H := bytes_Clone_2_H) (L := lenv (bytes_Clone_2_L)) 0 Tryz_F69 (bytes_Clone_2_Eok 0) (lenv_ok (by kernel_rfl) trivial) (rg0 (by kernel_rfl)) fun x => by kernel_rfl
theorem bytes_Clone_2_ok : SmOK Tryz.prog (bytes_Clone_2_s) := smF_ok (bytes_Clone_2_val)
def bytes_Clone_3_H : TH := { live := [(0, [0]), (1, [0, 4]), (2, [2]), (3, [2])], vecs := [5], esc := true }
def bytes_Clone_3_E (N : Nat) : List Ent := []
theorem bytes_Clone_3_Eok (N : Nat) : SmAll Tryz.prog (bytes_Clone_3_E N) := trivial
def bytes_Clone_3_o (z : Unit) : TV × THp := (.nils, [])
def bytes_Clone_3_t : Tree (Unit) :=
 .ret ()
def bytes_Clone_3 : Option (Unit) := (bytes_Clone_3_t).run some
def bytes_Clone_3_L : List (Nat × LEnt) := []
def bytes_Clone_3_s : Ent := smF ⟨69, [], [.k (.es 1)], [], []⟩ [] (Unit) (fun x => bytes_Clone_3) cs1 fun _ => bytes_Clone_3_o
theorem bytes_Clone_3_val : FnVal Tryz.prog ⟨69, [], [.k (.es 1)], [], []⟩ [] (fun x => bytes_Clone_3_t) (fun _ => bytes_Clone_3_o) :=
  fn_val (H := bytes_Clone_3_H) (L := lenv (bytes_Clone_3_L)) 0 Tryz_F69 (bytes_Clone_3_Eok 0) (lenv_ok (by kernel_rfl) trivial) (rg0 (by kernel_rfl)) fun x => by kernel_rfl
theorem bytes_Clone_3_ok : SmOK Tryz.prog (bytes_Clone_3_s) := smF_ok (bytes_Clone_3_val)
def bytes_CloneW_c0 (z : Unit) : Unit := ()
def bytes_CloneW_c1 (z : Unit) : Unit := ()
def bytes_CloneW (a0 : List UInt8) : Option (Unit) :=
 bif a0.isEmpty then
  (bytes_Clone_2).bind fun z0 => (bytes_Clone_3).bind fun z1 => chk (bytes_CloneW_c0 z0 = bytes_CloneW_c1 z1) (some (bytes_CloneW_c0 z0))
 else bytes_Clone a0
def bytes_CloneW_s : Ent := smF ⟨69, [], [.x .bl], [], []⟩ [.bl] (Unit) (fun x => bytes_CloneW x.1) cs1 fun x => bytes_Clone_o x.1
theorem bytes_CloneW_ok : SmOK Tryz.prog (bytes_CloneW_s) := smF_ok fun x z h l => by
  obtain ⟨a0, _⟩ := x
  replace h : bytes_CloneW a0 = some z := h
  unfold bytes_CloneW at h
  rcases cond_some h with ⟨e, h2⟩ | ⟨_, h2⟩ <;> clear h
  · have e := List.isEmpty_iff.1 e
    subst e
    obtain ⟨z0, c0, h2⟩ := bind_some h2
    obtain ⟨z1, c1, h2⟩ := bind_some h2
    obtain ⟨hE, h2⟩ := chk_some h2
    obtain rfl := Option.some.inj h2
    refine maybe_val (t := .bl) (x := []) rfl (TV.ers []) (TV.ers []) (by exact bytes_Clone_2_val (()) _ c0 l) ?_
    rw [hE]
    exact (nil_vec (n := 100050) (sz := 1) (x := toPV .bl ([] : List UInt8)) rfl (by kernel_rfl) (by kernel_rfl) (bytes_Clone_3_val (()) _ c1 l))
  · exact bytes_Clone_val (a0, ()) z h2 l
noncomputable def Tryz_b70 : Code := Tryz.f70.body.getD .skip
theorem Tryz_F70 : FnF Tryz.prog 70 Tryz.f70 Tryz_b70 := ⟨Tryz_draw, by kernel_rfl, by kernel_rfl, by kernel_rfl⟩
def sha_begun_H : TH := { live := [(0, [0]), (1, [0])] }
def sha_begun_E (N : Nat) : List Ent := []
theorem sha_begun_Eok (N : Nat) : SmAll Tryz.prog (sha_begun_E N) := trivial
def sha_begun_o (z : Unit) : TV × THp := (.tv (.wa 8) ((((((((((Vector.replicate 8 0)).setIfInBounds 0 ((UInt32.ofNat 1779033703))).setIfInBounds 1 ((UInt32.ofNat 3144134277))).setIfInBounds 2 ((UInt32.ofNat 1013904242))).setIfInBounds 3 ((UInt32.ofNat 2773480762))).setIfInBounds 4 ((UInt32.ofNat 1359893119))).setIfInBounds 5 ((UInt32.ofNat 2600822924))).setIfInBounds 6 ((UInt32.ofNat 528734635))).setIfInBounds 7 ((UInt32.ofNat 1541459225)) : Vector UInt32 8), [])
def sha_begun_t : Tree (Unit) :=
 .chk (0 < 8) <|
 .chk (1 < 8) <|
 .chk (2 < 8) <|
 .chk (3 < 8) <|
 .chk (4 < 8) <|
 .chk (5 < 8) <|
 .chk (6 < 8) <|
 .chk (7 < 8) <|
 .ret ()
def sha_begun : Option (Unit) := (sha_begun_t).run some
def sha_begun_L : List (Nat × LEnt) := []
def sha_begun_s : Ent := smF ⟨70, [], [], [], []⟩ [] (Unit) (fun x => sha_begun) cs1 fun _ => sha_begun_o
theorem sha_begun_ok : SmOK Tryz.prog (sha_begun_s) :=
  fn_ok (H := sha_begun_H) (L := lenv (sha_begun_L)) (ts := []) (T := fun x => sha_begun_t) 0 Tryz_F70 (sha_begun_Eok 0) (lenv_ok (by kernel_rfl) trivial) (rg0 (by kernel_rfl)) fun x => by kernel_rfl
noncomputable def Tryz_b71 : Code := Tryz.f71.body.getD .skip
theorem Tryz_F71 : FnF Tryz.prog 71 Tryz.f71 Tryz_b71 := ⟨Tryz_draw, by kernel_rfl, by kernel_rfl, by kernel_rfl⟩
def sha_roots_H : TH := { live := [(0, [0]), (1, [0])] }
def sha_roots_E (N : Nat) : List Ent := []
theorem sha_roots_Eok (N : Nat) : SmAll Tryz.prog (sha_roots_E N) := trivial
def sha_roots_o (z : Unit) : TV × THp := (.tv (.wa 64) ((((((((((((((((((((((((((((((((((((((((((((((((((((((((((((((((((Vector.replicate 64 0)).setIfInBounds 0 ((UInt32.ofNat 1116352408))).setIfInBounds 1 ((UInt32.ofNat 1899447441))).setIfInBounds 2 ((UInt32.ofNat 3049323471))).setIfInBounds 3 ((UInt32.ofNat 3921009573))).setIfInBounds 4 ((UInt32.ofNat 961987163))).setIfInBounds 5 ((UInt32.ofNat 1508970993))).setIfInBounds 6 ((UInt32.ofNat 2453635748))).setIfInBounds 7 ((UInt32.ofNat 2870763221))).setIfInBounds 8 ((UInt32.ofNat 3624381080))).setIfInBounds 9 ((UInt32.ofNat 310598401))).setIfInBounds 10 ((UInt32.ofNat 607225278))).setIfInBounds 11 ((UInt32.ofNat 1426881987))).setIfInBounds 12 ((UInt32.ofNat 1925078388))).setIfInBounds 13 ((UInt32.ofNat 2162078206))).setIfInBounds 14 ((UInt32.ofNat 2614888103))).setIfInBounds 15 ((UInt32.ofNat 3248222580))).setIfInBounds 16 ((UInt32.ofNat 3835390401))).setIfInBounds 17 ((UInt32.ofNat 4022224774))).setIfInBounds 18 ((UInt32.ofNat 264347078))).setIfInBounds 19 ((UInt32.ofNat 604807628))).setIfInBounds 20 ((UInt32.ofNat 770255983))).setIfInBounds 21 ((UInt32.ofNat 1249150122))).setIfInBounds 22 ((UInt32.ofNat 1555081692))).setIfInBounds 23 ((UInt32.ofNat 1996064986))).setIfInBounds 24 ((UInt32.ofNat 2554220882))).setIfInBounds 25 ((UInt32.ofNat 2821834349))).setIfInBounds 26 ((UInt32.ofNat 2952996808))).setIfInBounds 27 ((UInt32.ofNat 3210313671))).setIfInBounds 28 ((UInt32.ofNat 3336571891))).setIfInBounds 29 ((UInt32.ofNat 3584528711))).setIfInBounds 30 ((UInt32.ofNat 113926993))).setIfInBounds 31 ((UInt32.ofNat 338241895))).setIfInBounds 32 ((UInt32.ofNat 666307205))).setIfInBounds 33 ((UInt32.ofNat 773529912))).setIfInBounds 34 ((UInt32.ofNat 1294757372))).setIfInBounds 35 ((UInt32.ofNat 1396182291))).setIfInBounds 36 ((UInt32.ofNat 1695183700))).setIfInBounds 37 ((UInt32.ofNat 1986661051))).setIfInBounds 38 ((UInt32.ofNat 2177026350))).setIfInBounds 39 ((UInt32.ofNat 2456956037))).setIfInBounds 40 ((UInt32.ofNat 2730485921))).setIfInBounds 41 ((UInt32.ofNat 2820302411))).setIfInBounds 42 ((UInt32.ofNat 3259730800))).setIfInBounds 43 ((UInt32.ofNat 3345764771))).setIfInBounds 44 ((UInt32.ofNat 3516065817))).setIfInBounds 45 ((UInt32.ofNat 3600352804))).setIfInBounds 46 ((UInt32.ofNat 4094571909))).setIfInBounds 47 ((UInt32.ofNat 275423344))).setIfInBounds 48 ((UInt32.ofNat 430227734))).setIfInBounds 49 ((UInt32.ofNat 506948616))).setIfInBounds 50 ((UInt32.ofNat 659060556))).setIfInBounds 51 ((UInt32.ofNat 883997877))).setIfInBounds 52 ((UInt32.ofNat 958139571))).setIfInBounds 53 ((UInt32.ofNat 1322822218))).setIfInBounds 54 ((UInt32.ofNat 1537002063))).setIfInBounds 55 ((UInt32.ofNat 1747873779))).setIfInBounds 56 ((UInt32.ofNat 1955562222))).setIfInBounds 57 ((UInt32.ofNat 2024104815))).setIfInBounds 58 ((UInt32.ofNat 2227730452))).setIfInBounds 59 ((UInt32.ofNat 2361852424))).setIfInBounds 60 ((UInt32.ofNat 2428436474))).setIfInBounds 61 ((UInt32.ofNat 2756734187))).setIfInBounds 62 ((UInt32.ofNat 3204031479))).setIfInBounds 63 ((UInt32.ofNat 3329325298)) : Vector UInt32 64), [])
def sha_roots_t : Tree (Unit) :=
 .chk (0 < 64) <|
 .chk (1 < 64) <|
 .chk (2 < 64) <|
 .chk (3 < 64) <|
 .chk (4 < 64) <|
 .chk (5 < 64) <|
 .chk (6 < 64) <|
 .chk (7 < 64) <|
 .chk (8 < 64) <|
 .chk (9 < 64) <|
 .chk (10 < 64) <|
 .chk (11 < 64) <|
 .chk (12 < 64) <|
 .chk (13 < 64) <|
 .chk (14 < 64) <|
 .chk (15 < 64) <|
 .chk (16 < 64) <|
 .chk (17 < 64) <|
 .chk (18 < 64) <|
 .chk (19 < 64) <|
 .chk (20 < 64) <|
 .chk (21 < 64) <|
 .chk (22 < 64) <|
 .chk (23 < 64) <|
 .chk (24 < 64) <|
 .chk (25 < 64) <|
 .chk (26 < 64) <|
 .chk (27 < 64) <|
 .chk (28 < 64) <|
 .chk (29 < 64) <|
 .chk (30 < 64) <|
 .chk (31 < 64) <|
 .chk (32 < 64) <|
 .chk (33 < 64) <|
 .chk (34 < 64) <|
 .chk (35 < 64) <|
 .chk (36 < 64) <|
 .chk (37 < 64) <|
 .chk (38 < 64) <|
 .chk (39 < 64) <|
 .chk (40 < 64) <|
 .chk (41 < 64) <|
 .chk (42 < 64) <|
 .chk (43 < 64) <|
 .chk (44 < 64) <|
 .chk (45 < 64) <|
 .chk (46 < 64) <|
 .chk (47 < 64) <|
 .chk (48 < 64) <|
 .chk (49 < 64) <|
 .chk (50 < 64) <|
 .chk (51 < 64) <|
 .chk (52 < 64) <|
 .chk (53 < 64) <|
 .chk (54 < 64) <|
 .chk (55 < 64) <|
 .chk (56 < 64) <|
 .chk (57 < 64) <|
 .chk (58 < 64) <|
 .chk (59 < 64) <|
 .chk (60 < 64) <|
 .chk (61 < 64) <|
 .chk (62 < 64) <|
 .chk (63 < 64) <|
 .ret ()
def sha_roots : Option (Unit) := (sha_roots_t).run some
def sha_roots_L : List (Nat × LEnt) := []
def sha_roots_s : Ent := smF ⟨71, [], [], [], []⟩ [] (Unit) (fun x => sha_roots) cs1 fun _ => sha_roots_o
theorem sha_roots_ok : SmOK Tryz.prog (sha_roots_s) :=
  fn_ok (H := sha_roots_H) (L := lenv (sha_roots_L)) (ts := []) (T := fun x => sha_roots_t) 0 Tryz_F71 (sha_roots_Eok 0) (lenv_ok (by kernel_rfl) trivial) (rg0 (by kernel_rfl)) fun x => by kernel_rfl
noncomputable def Tryz_b118 : Code := Tryz.f118.body.getD .skip
theorem Tryz_F118 : FnF Tryz.prog 118 Tryz.f118 Tryz_b118 := ⟨Tryz_draw, by kernel_rfl, by kernel_rfl, by kernel_rfl⟩
def math_bits_RotateLeft32_H : TH := { live := [(0, [0, 1]), (1, [0, 5]), (2, [4])] }
def math_bits_RotateLeft32_E (N : Nat) : List Ent := []
theorem math_bits_RotateLeft32_Eok (N : Nat) : SmAll Tryz.prog (math_bits_RotateLeft32_E N) := trivial
def math_bits_RotateLeft32_o (z : Int) : TV × THp := (.tv (.i .u32) z, [])
def math_bits_RotateLeft32_t (a0 : Int) (a1 : Int) : Tree (Int) :=
 .chk (0 ≤ (uAnd .u64 (IntKind.u64.wrap a1) 31)) <|
 let w1 : Int := uShl .u32 a0 (min (uAnd .u64 (IntKind.u64.wrap a1) 31).toNat 32)
 let w2 : Int := uSub .u64 ((32 : Int)) (uAnd .u64 (IntKind.u64.wrap a1) 31)
 .chk (0 ≤ w2) <|
 .ret (uOr .u32 w1 (uShr a0 (min w2.toNat 32)))
def math_bits_RotateLeft32 (a0 : Int) (a1 : Int) : Option (Int) := (math_bits_RotateLeft32_t a0 a1).run some
def math_bits_RotateLeft32_L : List (Nat × LEnt) := []
def math_bits_RotateLeft32_s : Ent := smF ⟨118, [], [.x (.i .u32), .x (.i .i64)], [], []⟩ [(.i .u32), (.i .i64)] (Int) (fun x => math_bits_RotateLeft32 x.1 x.2.1) cs1 fun _ => math_bits_RotateLeft32_o
theorem math_bits_RotateLeft32_ok : SmOK Tryz.prog (math_bits_RotateLeft32_s) :=
  fn_ok (H := math_bits_RotateLeft32_H) (L := lenv (math_bits_RotateLeft32_L)) (ts := [(.i .u32), (.i .i64)]) (T := fun x => math_bits_RotateLeft32_t x.1 x.2.1) 0 Tryz_F118 (math_bits_RotateLeft32_Eok 0) (lenv_ok (by kernel_rfl) trivial) (rg0 (by kernel_rfl)) fun x => by kernel_rfl
noncomputable def Tryz_b96 : Code := Tryz.f96.body.getD .skip
theorem Tryz_F96 : FnF Tryz.prog 96 Tryz.f96 Tryz_b96 := ⟨Tryz_draw, by kernel_rfl, by kernel_rfl, by kernel_rfl⟩
def sha_right_H : TH := { live := [(0, [0, 1]), (1, [4])] }
def sha_right_E (N : Nat) : List Ent := [math_bits_RotateLeft32_s]
theorem sha_right_Eok (N : Nat) : SmAll Tryz.prog (sha_right_E N) := ⟨math_bits_RotateLeft32_ok, trivial⟩
def sha_right_o (z : Int) : TV × THp := (.tv (.i .u32) z, [])
def sha_right_t (a0 : Int) (a1 : Int) : Tree (Int) :=
 .chk (in64 (0 - a1)) <|
 .bind (math_bits_RotateLeft32 a0 (0 - a1)) fun r1 =>
 .ret r1
def sha_right (a0 : Int) (a1 : Int) : Option (Int) := (sha_right_t a0 a1).run some
def sha_right_L : List (Nat × LEnt) := []
def sha_right_s : Ent := smF ⟨96, [], [.x (.i .u32), .x (.i .i64)], [], []⟩ [(.i .u32), (.i .i64)] (Int) (fun x => sha_right x.1 x.2.1) cs1 fun _ => sha_right_o
theorem sha_right_ok : SmOK Tryz.prog (sha_right_s) :=
  fn_ok (H := sha_right_H) (L := lenv (sha_right_L)) (ts := [(.i .u32), (.i .i64)]) (T := fun x => sha_right_t x.1 x.2.1) 0 Tryz_F96 (sha_right_Eok 0) (lenv_ok (by kernel_rfl) trivial) (rg0 (by kernel_rfl)) fun x => by kernel_rfl
noncomputable def Tryz_b95 : Code := Tryz.f95.body.getD .skip
theorem Tryz_F95 : FnF Tryz.prog 95 Tryz.f95 Tryz_b95 := ⟨Tryz_draw, by kernel_rfl, by kernel_rfl, by kernel_rfl⟩
def sha_schedule_H : TH := { live := [(0, [0, 2]), (1, [0, 2, 3]), (2, [0, 2, 3, 7]), (3, [0, 2, 3, 7, 8]), (4, [0, 2, 3, 4, 7]), (5, [0, 2, 3, 4, 7, 11]), (6, [0, 2, 3, 7]), (7, [0, 2, 3, 4, 5, 6, 7]), (8, [0, 2, 3, 7]), (9, [0, 2, 3, 7]), (10, [2])] }
def sha_schedule_E (N : Nat) : List Ent := [sha_right_s]
theorem sha_schedule_Eok (N : Nat) : SmAll Tryz.prog (sha_schedule_E N) := ⟨sha_right_ok, trivial⟩
abbrev sha_schedule_l3_F := Vector UInt32 64 × List UInt8
abbrev sha_schedule_l3_Y := Vector UInt32 64 × Int × Bool
def sha_schedule_l3_o (f : sha_schedule_l3_F) (y : sha_schedule_l3_Y) : Ex × TSt := (.exit 0, ⟨0, 86, [], [(0, .tv .bl f.2), (2, .p 20 [] 0), (3, .p 30 [] 0), (7, xi y.2.1), (8, xb y.2.2)], [(20, .cell false (.tv (.wa 64) f.1)), (30, .cell false (.tv (.wa 64) (y.1 : Vector UInt32 64)))], false, []⟩)
def sha_schedule_l3_L (N : Nat) : List (Nat × LEnt) := []
abbrev sha_schedule_l3_V := Vector UInt32 64 × Int
def sha_schedule_l3_p : SP := ⟨0, 86, [], [(0, .x .bl), (2, .k (.p 20 [] 0)), (3, .k (.p 30 [] 0)), (7, .x (.i .i64))], [(20, .cell false (.x (.wa 64))), (30, .cell false (.x (.wa 64)))], false, []⟩
def sha_schedule_l3_h (f : sha_schedule_l3_F) (v : sha_schedule_l3_V) : TSt := fillS sha_schedule_l3_p [dv (.wa 64) f.1, dv (.wa 64) v.1, dv .bl f.2, dv (.i .i64) v.2]
def sha_schedule_l3_t (N : Nat) (o_3 : Vector UInt32 64) (s0_3 : List UInt8) (v : sha_schedule_l3_V) : Tree (sha_schedule_l3_V ⊕ sha_schedule_l3_Y) :=
 .cond (decide (v.2 < ((64 : Int)))) (
 .cond (decide (v.2 < ((16 : Int)))) (
 .chk (in64 (((4 : Int)) * v.2)) <|
 .bind (getI s0_3 (((4 : Int)) * v.2)) fun e1 =>
 let w2 : Int := IntKind.u32.wrap ((e1.toNat : Nat) : Int)
 .chk (0 ≤ (24 : Int)) <|
 .chk (in64 (((4 : Int)) * v.2)) <|
 .chk (in64 ((((4 : Int)) * v.2) + 1)) <|
 .bind (getI s0_3 ((((4 : Int)) * v.2) + 1)) fun e3 =>
 let w4 : Int := IntKind.u32.wrap ((e3.toNat : Nat) : Int)
 .chk (0 ≤ (16 : Int)) <|
 let w5 : Int := uOr .u32 (uShl .u32 w2 24) (uShl .u32 w4 16)
 .chk (in64 (((4 : Int)) * v.2)) <|
 .chk (in64 ((((4 : Int)) * v.2) + 2)) <|
 .bind (getI s0_3 ((((4 : Int)) * v.2) + 2)) fun e6 =>
 let w7 : Int := IntKind.u32.wrap ((e6.toNat : Nat) : Int)
 .chk (0 ≤ (8 : Int)) <|
 .chk (in64 (((4 : Int)) * v.2)) <|
 .chk (in64 ((((4 : Int)) * v.2) + 3)) <|
 .bind (getI s0_3 ((((4 : Int)) * v.2) + 3)) fun e8 =>
 let w9 : Int := IntKind.u32.wrap ((e8.toNat : Nat) : Int)
 let w10 : Int := uOr .u32 (uOr .u32 w5 (uShl .u32 w7 8)) w9
 .chk (0 ≤ v.2 ∧ v.2 < ((64 : Nat) : Int)) <|
 .chk (inW w10) <|
 .chk (v.2.toNat < 64) <|
 .chk (in64 (v.2 + 1)) <|
 .ret (.inl (v.1.setIfInBounds v.2.toNat (UInt32.ofNat w10.toNat), v.2 + 1))) <|
 .chk (in64 (v.2 - 15)) <|
 .chk (0 ≤ (v.2 - 15) ∧ (v.2 - 15) < ((64 : Nat) : Int)) <|
 .chk ((v.2 - 15).toNat < 64) <|
 .chk (in64 (v.2 - 2)) <|
 .chk (0 ≤ (v.2 - 2) ∧ (v.2 - 2) < ((64 : Nat) : Int)) <|
 .chk ((v.2 - 2).toNat < 64) <|
 .chk (in64 (v.2 - 16)) <|
 .chk (0 ≤ (v.2 - 16) ∧ (v.2 - 16) < ((64 : Nat) : Int)) <|
 .chk ((v.2 - 16).toNat < 64) <|
 .chk (in64 (v.2 - 7)) <|
 .chk (0 ≤ (v.2 - 7) ∧ (v.2 - 7) < ((64 : Nat) : Int)) <|
 .chk ((v.2 - 7).toNat < 64) <|
 let w1 : Int := uAdd .u32 (((v.1.toList.getD ((v.2 - 16).toNat) 0).toNat : Nat) : Int) (((v.1.toList.getD ((v.2 - 7).toNat) 0).toNat : Nat) : Int)
 .bind (sha_right (((v.1.toList.getD ((v.2 - 15).toNat) 0).toNat : Nat) : Int) 7) fun r2 =>
 .bind (sha_right (((v.1.toList.getD ((v.2 - 15).toNat) 0).toNat : Nat) : Int) 18) fun r3 =>
 .chk (0 ≤ (3 : Int)) <|
 let w4 : Int := uShr (((v.1.toList.getD ((v.2 - 15).toNat) 0).toNat : Nat) : Int) 3
 let w5 : Int := uAdd .u32 w1 (uXor .u32 (uXor .u32 r2 r3) w4)
 .bind (sha_right (((v.1.toList.getD ((v.2 - 2).toNat) 0).toNat : Nat) : Int) 17) fun r6 =>
 .bind (sha_right (((v.1.toList.getD ((v.2 - 2).toNat) 0).toNat : Nat) : Int) 19) fun r7 =>
 .chk (0 ≤ (10 : Int)) <|
 let w8 : Int := uShr (((v.1.toList.getD ((v.2 - 2).toNat) 0).toNat : Nat) : Int) 10
 let w9 : Int := uAdd .u32 w5 (uXor .u32 (uXor .u32 r6 r7) w8)
 .chk (0 ≤ v.2 ∧ v.2 < ((64 : Nat) : Int)) <|
 .chk (inW w9) <|
 .chk (v.2.toNat < 64) <|
 .chk (in64 (v.2 + 1)) <|
 .ret (.inl (v.1.setIfInBounds v.2.toNat (UInt32.ofNat w9.toNat), v.2 + 1))) <|
 .ret (.inr (v.1, v.2, decide (v.2 < ((64 : Int)))))
def sha_schedule_l3_n (N n : Nat) (f : sha_schedule_l3_F) (v : sha_schedule_l3_V) : Option sha_schedule_l3_Y := loopG (sha_schedule_l3_t N f.1 f.2) some n v
theorem sha_schedule_l3_q (N : Nat) (f : sha_schedule_l3_F) (n : Nat) (v : sha_schedule_l3_V) (y : sha_schedule_l3_Y) (h : sha_schedule_l3_n N n f v = some y) : LG Tryz.prog sha_schedule_H 95 (lookC Tryz_b95 3) (sha_schedule_l3_h f v) (sha_schedule_l3_o f y) :=
  loop_g Tryz_draw (E := sha_schedule_E N) (L := lenv (sha_schedule_l3_L N)) (st := sha_schedule_l3_o f) (g := some) (R := sha_schedule_l3_o f) (sha_schedule_Eok N) (lenv_ok (by kernel_rfl) trivial) (rg0 (by kernel_rfl)) (fun v => by kernel_rfl) (good_self (st := sha_schedule_l3_o f) fun y => by rfl) n v y h
def sha_schedule_l3 (N : Nat) (o_3 : Vector UInt32 64) (s0_3 : List UInt8) (o_3_2 : Vector UInt32 64) (s7_3 : Int) : Option sha_schedule_l3_Y := sha_schedule_l3_n N N (o_3, s0_3) (o_3_2, s7_3)
def sha_schedule_l3_s (N : Nat) : LEnt := smL sha_schedule_l3_p [(.wa 64), (.wa 64), .bl, (.i .i64)] sha_schedule_l3_Y (fun x => sha_schedule_l3 N x.1 x.2.2.1 x.2.1 x.2.2.2.1) cs1 fun x => sha_schedule_l3_o (x.1, x.2.2.1)
theorem sha_schedule_l3_ok (N : Nat) : LsOK Tryz.prog sha_schedule_H 95 (lookC Tryz_b95 3) (sha_schedule_l3_s N) := smL_ok fun x z h => sha_schedule_l3_q N (x.1, x.2.2.1) N (x.2.1, x.2.2.2.1) z h
def sha_schedule_o (z : Vector UInt32 64) : TV × THp := (.tv (.wa 64) z, [])
def sha_schedule_t (N : Nat) (a0 : List UInt8) : Tree (Vector UInt32 64) :=
 .bind (sha_schedule_l3 N ((Vector.replicate 64 0)) a0 ((Vector.replicate 64 0)) 0) fun z1 =>
 .ret z1.1
def sha_schedule (N : Nat) (a0 : List UInt8) : Option (Vector UInt32 64) := (sha_schedule_t N a0).run some
def sha_schedule_L (N : Nat) : List (Nat × LEnt) := [(3, sha_schedule_l3_s N)]
def sha_schedule_s (N : Nat) : Ent := smF ⟨95, [], [.x .bl], [], []⟩ [.bl] (Vector UInt32 64) (fun x => sha_schedule N x.1) cs1 fun _ => sha_schedule_o
theorem sha_schedule_ok (N : Nat) : SmOK Tryz.prog (sha_schedule_s N) :=
  fn_ok (H := sha_schedule_H) (L := lenv (sha_schedule_L N)) (ts := [.bl]) (T := fun x => sha_schedule_t N x.1) 0 Tryz_F95 (sha_schedule_Eok N) (lenv_ok (by kernel_rfl) ⟨sha_schedule_l3_ok N, trivial⟩) (rg0 (by kernel_rfl)) fun x => by kernel_rfl
noncomputable def Tryz_b72 : Code := Tryz.f72.body.getD .skip
theorem Tryz_F72 : FnF Tryz.prog 72 Tryz.f72 Tryz_b72 := ⟨Tryz_draw, by kernel_rfl, by kernel_rfl, by kernel_rfl⟩
def sha_state_take_H : TH := { live := [(0, [0, 2, 6]), (1, [0, 2, 6, 7]), (2, [0, 2, 6, 7, 19]), (3, [0, 2, 6, 7, 19, 20]), (4, [0, 2, 6, 7, 8, 19]), (5, [0, 2, 6, 7, 8, 9, 10, 19]), (6, [0, 2, 6, 7, 9, 11, 19]), (7, [0, 2, 6, 7, 11, 12, 19]), (8, [0, 2, 6, 7, 11, 12, 19]), (9, [0, 2, 6, 7, 11, 19]), (10, [0, 2, 6, 7, 19]), (11, [0, 2, 6, 7, 19]), (12, [0, 7, 95]), (13, [0, 7, 95, 96]), (14, [0, 7, 13, 95]), (15, [0, 7, 95]), (16, [0, 7, 95])] }
def sha_state_take_E (N : Nat) : List Ent := [sha_schedule_s N, sha_right_s]
theorem sha_state_take_Eok (N : Nat) : SmAll Tryz.prog (sha_state_take_E N) := ⟨sha_schedule_ok N, sha_right_ok, trivial⟩
abbrev sha_state_take_l3_F := Vector UInt32 8 × Vector UInt32 64 × Vector UInt32 64
abbrev sha_state_take_l3_Y := Vector UInt32 8 × Int × Bool
def sha_state_take_l3_o (f : sha_state_take_l3_F) (y : sha_state_take_l3_Y) : Ex × TSt := (.exit 0, ⟨1, 110, [50, 60], [(0, .p 50 [] 0), (2, .p 60 [] 0), (6, .p 100060 [] 0), (7, .p 100070 [] 0), (19, xi y.2.1), (20, xb y.2.2)], [(50, .cell false (.tv (.wa 8) f.1)), (60, .cell false (.tv (.wa 64) f.2.1)), (100060, .cell false (.tv (.wa 64) f.2.2)), (100070, .cell false (.tv (.wa 8) (y.1 : Vector UInt32 8)))], false, []⟩)
def sha_state_take_l3_L (N : Nat) : List (Nat × LEnt) := []
abbrev sha_state_take_l3_V := Vector UInt32 8 × Int
def sha_state_take_l3_p : SP := ⟨1, 110, [50, 60], [(0, .k (.p 50 [] 0)), (2, .k (.p 60 [] 0)), (6, .k (.p 100060 [] 0)), (7, .k (.p 100070 [] 0)), (19, .x (.i .i64))], [(50, .cell false (.x (.wa 8))), (60, .cell false (.x (.wa 64))), (100060, .cell false (.x (.wa 64))), (100070, .cell false (.x (.wa 8)))], false, []⟩
def sha_state_take_l3_h (f : sha_state_take_l3_F) (v : sha_state_take_l3_V) : TSt := fillS sha_state_take_l3_p [dv (.wa 8) f.1, dv (.wa 64) f.2.1, dv (.wa 64) f.2.2, dv (.wa 8) v.1, dv (.i .i64) v.2]
def sha_state_take_l3_t (N : Nat) (o_3 : Vector UInt32 8) (o_3_2 : Vector UInt32 64) (o_3_3 : Vector UInt32 64) (v : sha_state_take_l3_V) : Tree (sha_state_take_l3_V ⊕ sha_state_take_l3_Y) :=
 .cond (decide (v.2 < ((64 : Int)))) (
 .chk (0 ≤ (0 : Int) ∧ (0 : Int) < ((8 : Nat) : Int)) <|
 .chk (0 < 8) <|
 .chk (0 ≤ (4 : Int) ∧ (4 : Int) < ((8 : Nat) : Int)) <|
 .chk (4 < 8) <|
 .chk (0 ≤ (7 : Int) ∧ (7 : Int) < ((8 : Nat) : Int)) <|
 .chk (7 < 8) <|
 .bind (sha_right (((v.1.toList.getD 4 0).toNat : Nat) : Int) 6) fun r1 =>
 .bind (sha_right (((v.1.toList.getD 4 0).toNat : Nat) : Int) 11) fun r2 =>
 .bind (sha_right (((v.1.toList.getD 4 0).toNat : Nat) : Int) 25) fun r3 =>
 let w4 : Int := uAdd .u32 (((v.1.toList.getD 7 0).toNat : Nat) : Int) (uXor .u32 (uXor .u32 r1 r2) r3)
 .chk (0 ≤ (5 : Int) ∧ (5 : Int) < ((8 : Nat) : Int)) <|
 .chk (5 < 8) <|
 let w5 : Int := uAnd .u32 (((v.1.toList.getD 4 0).toNat : Nat) : Int) (((v.1.toList.getD 5 0).toNat : Nat) : Int)
 let w6 : Int := uXor .u32 (4294967295) (((v.1.toList.getD 4 0).toNat : Nat) : Int)
 .chk (0 ≤ (6 : Int) ∧ (6 : Int) < ((8 : Nat) : Int)) <|
 .chk (6 < 8) <|
 let w7 : Int := uAnd .u32 w6 (((v.1.toList.getD 6 0).toNat : Nat) : Int)
 .chk (0 ≤ v.2 ∧ v.2 < ((64 : Nat) : Int)) <|
 .chk (v.2.toNat < 64) <|
 let w8 : Int := uAdd .u32 (uAdd .u32 w4 (uXor .u32 w5 w7)) (((o_3_2.toList.getD v.2.toNat 0).toNat : Nat) : Int)
 .chk (0 ≤ v.2 ∧ v.2 < ((64 : Nat) : Int)) <|
 .chk (v.2.toNat < 64) <|
 let w9 : Int := uAdd .u32 w8 (((o_3_3.toList.getD v.2.toNat 0).toNat : Nat) : Int)
 .bind (sha_right (((v.1.toList.getD 0 0).toNat : Nat) : Int) 2) fun r10 =>
 .bind (sha_right (((v.1.toList.getD 0 0).toNat : Nat) : Int) 13) fun r11 =>
 .bind (sha_right (((v.1.toList.getD 0 0).toNat : Nat) : Int) 22) fun r12 =>
 .chk (0 ≤ (1 : Int) ∧ (1 : Int) < ((8 : Nat) : Int)) <|
 .chk (1 < 8) <|
 let w13 : Int := uAnd .u32 (((v.1.toList.getD 0 0).toNat : Nat) : Int) (((v.1.toList.getD 1 0).toNat : Nat) : Int)
 .chk (0 ≤ (2 : Int) ∧ (2 : Int) < ((8 : Nat) : Int)) <|
 .chk (2 < 8) <|
 let w14 : Int := uAnd .u32 (((v.1.toList.getD 0 0).toNat : Nat) : Int) (((v.1.toList.getD 2 0).toNat : Nat) : Int)
 .chk (0 ≤ (1 : Int) ∧ (1 : Int) < ((8 : Nat) : Int)) <|
 .chk (1 < 8) <|
 .chk (0 ≤ (2 : Int) ∧ (2 : Int) < ((8 : Nat) : Int)) <|
 .chk (2 < 8) <|
 let w15 : Int := uAnd .u32 (((v.1.toList.getD 1 0).toNat : Nat) : Int) (((v.1.toList.getD 2 0).toNat : Nat) : Int)
 let w16 : Int := uAdd .u32 (uXor .u32 (uXor .u32 r10 r11) r12) (uXor .u32 (uXor .u32 w13 w14) w15)
 .chk (0 ≤ (0 : Int) ∧ (0 : Int) < ((8 : Nat) : Int)) <|
 .chk (inW (uAdd .u32 w9 w16)) <|
 .chk (0 < 8) <|
 .chk (0 ≤ (4 : Int) ∧ (4 : Int) < ((8 : Nat) : Int)) <|
 .chk (4 < 8) <|
 let w17 : Int := uAdd .u32 (((((shiftV v.1 1 7).setIfInBounds 0 (UInt32.ofNat (uAdd .u32 w9 w16).toNat)).toList.getD 4 0).toNat : Nat) : Int) w9
 .chk (0 ≤ (4 : Int) ∧ (4 : Int) < ((8 : Nat) : Int)) <|
 .chk (inW w17) <|
 .chk (4 < 8) <|
 .chk (in64 (v.2 + 1)) <|
 .ret (.inl (((shiftV v.1 1 7).setIfInBounds 0 (UInt32.ofNat (uAdd .u32 w9 w16).toNat)).setIfInBounds 4 (UInt32.ofNat w17.toNat), v.2 + 1))) <|
 .ret (.inr (v.1, v.2, decide (v.2 < ((64 : Int)))))
def sha_state_take_l3_n (N n : Nat) (f : sha_state_take_l3_F) (v : sha_state_take_l3_V) : Option sha_state_take_l3_Y := loopG (sha_state_take_l3_t N f.1 f.2.1 f.2.2) some n v
theorem sha_state_take_l3_q (N : Nat) (f : sha_state_take_l3_F) (n : Nat) (v : sha_state_take_l3_V) (y : sha_state_take_l3_Y) (h : sha_state_take_l3_n N n f v = some y) : LG Tryz.prog sha_state_take_H 72 (lookC Tryz_b72 3) (sha_state_take_l3_h f v) (sha_state_take_l3_o f y) :=
  loop_g Tryz_draw (E := sha_state_take_E N) (L := lenv (sha_state_take_l3_L N)) (st := sha_state_take_l3_o f) (g := some) (R := sha_state_take_l3_o f) (sha_state_take_Eok N) (lenv_ok (by kernel_rfl) trivial) (rg0 (by kernel_rfl)) (fun v => by kernel_rfl) (good_self (st := sha_state_take_l3_o f) fun y => by rfl) n v y h
def sha_state_take_l3 (N : Nat) (o_3 : Vector UInt32 8) (o_3_2 : Vector UInt32 64) (o_3_3 : Vector UInt32 64) (o_3_4 : Vector UInt32 8) (s19_3 : Int) : Option sha_state_take_l3_Y := sha_state_take_l3_n N N (o_3, o_3_2, o_3_3) (o_3_4, s19_3)
def sha_state_take_l3_s (N : Nat) : LEnt := smL sha_state_take_l3_p [(.wa 8), (.wa 64), (.wa 64), (.wa 8), (.i .i64)] sha_state_take_l3_Y (fun x => sha_state_take_l3 N x.1 x.2.1 x.2.2.1 x.2.2.2.1 x.2.2.2.2.1) cs1 fun x => sha_state_take_l3_o (x.1, x.2.1, x.2.2.1)
theorem sha_state_take_l3_ok (N : Nat) : LsOK Tryz.prog sha_state_take_H 72 (lookC Tryz_b72 3) (sha_state_take_l3_s N) := smL_ok fun x z h => sha_state_take_l3_q N (x.1, x.2.1, x.2.2.1) N (x.2.2.2.1, x.2.2.2.2.1) z h
abbrev sha_state_take_l13_F := Vector UInt32 64 × Vector UInt32 8
abbrev sha_state_take_l13_Y := Vector UInt32 8 × Int × Bool
def sha_state_take_l13_o (f : sha_state_take_l13_F) (y : sha_state_take_l13_Y) : Ex × TSt := (.exit 2, ⟨1, 110, [50, 60], [(0, .p 50 [] 0), (7, .p 100070 [] 0), (95, xi y.2.1), (96, xb y.2.2)], [(50, .cell false (.tv (.wa 8) (y.1 : Vector UInt32 8))), (60, .cell false (.tv (.wa 64) f.1)), (100070, .cell false (.tv (.wa 8) f.2))], false, []⟩)
def sha_state_take_l13_L (N : Nat) : List (Nat × LEnt) := []
abbrev sha_state_take_l13_V := Vector UInt32 8 × Int
def sha_state_take_l13_p : SP := ⟨1, 110, [50, 60], [(0, .k (.p 50 [] 0)), (7, .k (.p 100070 [] 0)), (95, .x (.i .i64))], [(50, .cell false (.x (.wa 8))), (60, .cell false (.x (.wa 64))), (100070, .cell false (.x (.wa 8)))], false, []⟩
def sha_state_take_l13_h (f : sha_state_take_l13_F) (v : sha_state_take_l13_V) : TSt := fillS sha_state_take_l13_p [dv (.wa 8) v.1, dv (.wa 64) f.1, dv (.wa 8) f.2, dv (.i .i64) v.2]
def sha_state_take_l13_t (N : Nat) (o_13_2 : Vector UInt32 64) (o_13_3 : Vector UInt32 8) (v : sha_state_take_l13_V) : Tree (sha_state_take_l13_V ⊕ sha_state_take_l13_Y) :=
 .cond (decide (v.2 < ((8 : Int)))) (
 .chk (0 ≤ v.2 ∧ v.2 < ((8 : Nat) : Int)) <|
 .chk (v.2.toNat < 8) <|
 .chk (0 ≤ v.2 ∧ v.2 < ((8 : Nat) : Int)) <|
 .chk (v.2.toNat < 8) <|
 let w1 : Int := uAdd .u32 (((v.1.toList.getD v.2.toNat 0).toNat : Nat) : Int) (((o_13_3.toList.getD v.2.toNat 0).toNat : Nat) : Int)
 .chk (0 ≤ v.2 ∧ v.2 < ((8 : Nat) : Int)) <|
 .chk (inW w1) <|
 .chk (v.2.toNat < 8) <|
 .chk (in64 (v.2 + 1)) <|
 .ret (.inl (v.1.setIfInBounds v.2.toNat (UInt32.ofNat w1.toNat), v.2 + 1))) <|
 .ret (.inr (v.1, v.2, decide (v.2 < ((8 : Int)))))
def sha_state_take_l13_n (N n : Nat) (f : sha_state_take_l13_F) (v : sha_state_take_l13_V) : Option sha_state_take_l13_Y := loopG (sha_state_take_l13_t N f.1 f.2) some n v
theorem sha_state_take_l13_q (N : Nat) (f : sha_state_take_l13_F) (n : Nat) (v : sha_state_take_l13_V) (y : sha_state_take_l13_Y) (h : sha_state_take_l13_n N n f v = some y) : LG Tryz.prog sha_state_take_H 72 (lookC Tryz_b72 13) (sha_state_take_l13_h f v) (sha_state_take_l13_o f y) :=
  loop_g Tryz_draw (E := sha_state_take_E N) (L := lenv (sha_state_take_l13_L N)) (st := sha_state_take_l13_o f) (g := some) (R := sha_state_take_l13_o f) (sha_state_take_Eok N) (lenv_ok (by kernel_rfl) trivial) (rg0 (by kernel_rfl)) (fun v => by kernel_rfl) (good_self (st := sha_state_take_l13_o f) fun y => by rfl) n v y h
def sha_state_take_l13 (N : Nat) (o_13_2 : Vector UInt32 64) (o_13_3 : Vector UInt32 8) (o_13 : Vector UInt32 8) (s95_13 : Int) : Option sha_state_take_l13_Y := sha_state_take_l13_n N N (o_13_2, o_13_3) (o_13, s95_13)
def sha_state_take_l13_s (N : Nat) : LEnt := smL sha_state_take_l13_p [(.wa 8), (.wa 64), (.wa 8), (.i .i64)] sha_state_take_l13_Y (fun x => sha_state_take_l13 N x.2.1 x.2.2.1 x.1 x.2.2.2.1) cs1 fun x => sha_state_take_l13_o (x.2.1, x.2.2.1)
theorem sha_state_take_l13_ok (N : Nat) : LsOK Tryz.prog sha_state_take_H 72 (lookC Tryz_b72 13) (sha_state_take_l13_s N) := smL_ok fun x z h => sha_state_take_l13_q N (x.2.1, x.2.2.1) N (x.1, x.2.2.2.1) z h
def sha_state_take_o (a1 : Vector UInt32 64) (z : Vector UInt32 8) : TV × THp := (.tup [], [(50, .cell false (.tv (.wa 8) z)), (60, .cell false (.tv (.wa 64) a1))])
def sha_state_take_t (N : Nat) (a0 : Vector UInt32 8) (a1 : Vector UInt32 64) (a2 : List UInt8) : Tree (Vector UInt32 8) :=
 .bind (sha_schedule N a2) fun r1 =>
 .bind (sha_state_take_l3 N a0 a1 r1 a0 0) fun z2 =>
 .bind (sha_state_take_l13 N a1 z2.1 a0 0) fun z3 =>
 .ret z3.1
def sha_state_take (N : Nat) (a0 : Vector UInt32 8) (a1 : Vector UInt32 64) (a2 : List UInt8) : Option (Vector UInt32 8) := (sha_state_take_t N a0 a1 a2).run some
def sha_state_take_L (N : Nat) : List (Nat × LEnt) := [(3, sha_state_take_l3_s N), (13, sha_state_take_l13_s N)]
def sha_state_take_s (N : Nat) : Ent := smF ⟨72, [], [.k (.p 50 [] 0), .x .bl, .k (.p 60 [] 0)], [], [(50, .cell false (.x (.wa 8))), (60, .cell false (.x (.wa 64)))]⟩ [(.wa 8), (.wa 64), .bl] (Vector UInt32 8) (fun x => sha_state_take N x.1 x.2.1 x.2.2.1) cs1 fun x => sha_state_take_o x.2.1
theorem sha_state_take_ok (N : Nat) : SmOK Tryz.prog (sha_state_take_s N) :=
  fn_ok (H := sha_state_take_H) (L := lenv (sha_state_take_L N)) (ts := [(.wa 8), (.wa 64), .bl]) (T := fun x => sha_state_take_t N x.1 x.2.1 x.2.2.1) 0 Tryz_F72 (sha_state_take_Eok N) (lenv_ok (by kernel_rfl) ⟨sha_state_take_l3_ok N, sha_state_take_l13_ok N, trivial⟩) (rg0 (by kernel_rfl)) fun x => by kernel_rfl
noncomputable def Tryz_b35 : Code := Tryz.f35.body.getD .skip
theorem Tryz_F35 : FnF Tryz.prog 35 Tryz.f35 Tryz_b35 := ⟨Tryz_draw, by kernel_rfl, by kernel_rfl, by kernel_rfl⟩
def sha_Sum_H : TH := { live := [(0, [0, 2]), (1, [0, 2, 3]), (2, [0, 2, 3, 16]), (3, [0, 2, 3]), (4, [0, 2, 3, 20]), (5, [0, 2, 3, 20, 21]), (6, [0, 2, 3, 4, 20]), (7, [0, 2, 3, 20]), (8, [0, 2, 3, 20]), (9, [2, 3, 5, 6]), (10, [2, 3, 5, 6, 40]), (11, [2, 3, 5, 6]), (12, [2, 3, 5, 6]), (13, [2, 5, 7]), (14, [2, 5, 7, 46]), (15, [2, 5, 7, 46, 47]), (16, [2, 5, 7, 8, 46]), (17, [2, 5, 7, 46]), (18, [2, 5, 7, 46]), (19, [2])], fresh := [10] }
def sha_Sum_E (N : Nat) : List Ent := [bytes_CloneW_s, sha_begun_s, sha_roots_s, sha_state_take_s N]
theorem sha_Sum_Eok (N : Nat) : SmAll Tryz.prog (sha_Sum_E N) := ⟨bytes_CloneW_ok, sha_begun_ok, sha_roots_ok, sha_state_take_ok N, trivial⟩
abbrev sha_Sum_l2_F := Vector UInt8 32 × List UInt8
abbrev sha_Sum_l2_Y := List UInt8 × Bool
def sha_Sum_l2_o (f : sha_Sum_l2_F) (y : sha_Sum_l2_Y) : Ex × TSt := (.exit 0, ⟨0, 63, [], [(0, .tv .bl f.2), (2, .p 20 [] 0), (3, .v 100050 y.1.length), (16, xb y.2)], [(20, .cell false (.tv (.ba 32) f.1)), (100050, .vec false 1 .bl (y.1 : List UInt8))], false, []⟩)
def sha_Sum_l2_L (N : Nat) : List (Nat × LEnt) := []
abbrev sha_Sum_l2_V := List UInt8
def sha_Sum_l2_p : SP := ⟨0, 63, [], [(0, .x .bl), (2, .k (.p 20 [] 0)), (3, .vs 100050)], [(20, .cell false (.x (.ba 32))), (100050, .vec false 1)], false, []⟩
def sha_Sum_l2_h (f : sha_Sum_l2_F) (v : sha_Sum_l2_V) : TSt := fillS sha_Sum_l2_p [dv .bl v, dv (.ba 32) f.1, dv .bl f.2]
def sha_Sum_l2_t (N : Nat) (o_2_2 : Vector UInt8 32) (s0_2 : List UInt8) (v : sha_Sum_l2_V) : Tree (sha_Sum_l2_V ⊕ sha_Sum_l2_Y) :=
 .chk ((64 : Int) ≠ 0) <|
 .cond (!decide ((((v.length : Nat) : Int).tmod 64) = 56)) (
 .chk (avOK v.length v.length ((v ++ [(UInt8.ofNat 0)]).length) 1) <|
 .ret (.inl (v ++ [(UInt8.ofNat 0)]))) <|
 .ret (.inr (v, !decide ((((v.length : Nat) : Int).tmod 64) = 56)))
def sha_Sum_l2_n (N n : Nat) (f : sha_Sum_l2_F) (v : sha_Sum_l2_V) : Option sha_Sum_l2_Y := loopG (sha_Sum_l2_t N f.1 f.2) some n v
theorem sha_Sum_l2_q (N : Nat) (f : sha_Sum_l2_F) (n : Nat) (v : sha_Sum_l2_V) (y : sha_Sum_l2_Y) (h : sha_Sum_l2_n N n f v = some y) : LG Tryz.prog sha_Sum_H 35 (lookC Tryz_b35 2) (sha_Sum_l2_h f v) (sha_Sum_l2_o f y) :=
  loop_g Tryz_draw (E := sha_Sum_E N) (L := lenv (sha_Sum_l2_L N)) (st := sha_Sum_l2_o f) (g := some) (R := sha_Sum_l2_o f) (sha_Sum_Eok N) (lenv_ok (by kernel_rfl) trivial) (rg0 (by kernel_rfl)) (fun v => by kernel_rfl) (good_self (st := sha_Sum_l2_o f) fun y => by rfl) n v y h
def sha_Sum_l2 (N : Nat) (o_2_2 : Vector UInt8 32) (s0_2 : List UInt8) (o_2 : List UInt8) : Option sha_Sum_l2_Y := sha_Sum_l2_n N N (o_2_2, s0_2) o_2
def sha_Sum_l2_s (N : Nat) : LEnt := smL sha_Sum_l2_p [.bl, (.ba 32), .bl] sha_Sum_l2_Y (fun x => sha_Sum_l2 N x.2.1 x.2.2.1 x.1) cs1 fun x => sha_Sum_l2_o (x.2.1, x.2.2.1)
theorem sha_Sum_l2_ok (N : Nat) : LsOK Tryz.prog sha_Sum_H 35 (lookC Tryz_b35 2) (sha_Sum_l2_s N) := smL_ok fun x z h => sha_Sum_l2_q N (x.2.1, x.2.2.1) N x.1 z h
abbrev sha_Sum_l5_F := Vector UInt8 32 × List UInt8
abbrev sha_Sum_l5_Y := List UInt8 × Int × Bool
def sha_Sum_l5_o (f : sha_Sum_l5_F) (y : sha_Sum_l5_Y) : Ex × TSt := (.exit 2, ⟨0, 63, [], [(0, .tv .bl f.2), (2, .p 20 [] 0), (3, .v 100050 y.1.length), (20, xi y.2.1), (21, xb y.2.2)], [(20, .cell false (.tv (.ba 32) f.1)), (100050, .vec false 1 .bl (y.1 : List UInt8))], false, []⟩)
def sha_Sum_l5_L (N : Nat) : List (Nat × LEnt) := []
abbrev sha_Sum_l5_V := List UInt8 × Int
def sha_Sum_l5_p : SP := ⟨0, 63, [], [(0, .x .bl), (2, .k (.p 20 [] 0)), (3, .vs 100050), (20, .x (.i .i64))], [(20, .cell false (.x (.ba 32))), (100050, .vec false 1)], false, []⟩
def sha_Sum_l5_h (f : sha_Sum_l5_F) (v : sha_Sum_l5_V) : TSt := fillS sha_Sum_l5_p [dv .bl v.1, dv (.ba 32) f.1, dv .bl f.2, dv (.i .i64) v.2]
def sha_Sum_l5_t (N : Nat) (o_5_2 : Vector UInt8 32) (s0_5 : List UInt8) (v : sha_Sum_l5_V) : Tree (sha_Sum_l5_V ⊕ sha_Sum_l5_Y) :=
 .cond (decide (v.2 < ((8 : Int)))) (
 let w1 : Int := IntKind.u64.wrap ((s0_5.length : Nat) : Int)
 .chk (in64 (((7 : Int)) - v.2)) <|
 .chk (in64 (((8 : Int)) * (((7 : Int)) - v.2))) <|
 .chk (0 ≤ (((8 : Int)) * (((7 : Int)) - v.2))) <|
 let w2 : Int := uShr (uMul .u64 w1 8) (min (((8 : Int)) * (((7 : Int)) - v.2)).toNat 64)
 .chk (inB (IntKind.u8.wrap w2)) <|
 .chk (avOK v.1.length v.1.length ((v.1 ++ [UInt8.ofNat (IntKind.u8.wrap w2).toNat]).length) 1) <|
 .chk (in64 (v.2 + 1)) <|
 .ret (.inl (v.1 ++ [UInt8.ofNat (IntKind.u8.wrap w2).toNat], v.2 + 1))) <|
 .ret (.inr (v.1, v.2, decide (v.2 < ((8 : Int)))))
def sha_Sum_l5_n (N n : Nat) (f : sha_Sum_l5_F) (v : sha_Sum_l5_V) : Option sha_Sum_l5_Y := loopG (sha_Sum_l5_t N f.1 f.2) some n v
theorem sha_Sum_l5_q (N : Nat) (f : sha_Sum_l5_F) (n : Nat) (v : sha_Sum_l5_V) (y : sha_Sum_l5_Y) (h : sha_Sum_l5_n N n f v = some y) : LG Tryz.prog sha_Sum_H 35 (lookC Tryz_b35 5) (sha_Sum_l5_h f v) (sha_Sum_l5_o f y) :=
  loop_g Tryz_draw (E := sha_Sum_E N) (L := lenv (sha_Sum_l5_L N)) (st := sha_Sum_l5_o f) (g := some) (R := sha_Sum_l5_o f) (sha_Sum_Eok N) (lenv_ok (by kernel_rfl) trivial) (rg0 (by kernel_rfl)) (fun v => by kernel_rfl) (good_self (st := sha_Sum_l5_o f) fun y => by rfl) n v y h
def sha_Sum_l5 (N : Nat) (o_5_2 : Vector UInt8 32) (s0_5 : List UInt8) (o_5 : List UInt8) (s20_5 : Int) : Option sha_Sum_l5_Y := sha_Sum_l5_n N N (o_5_2, s0_5) (o_5, s20_5)
def sha_Sum_l5_s (N : Nat) : LEnt := smL sha_Sum_l5_p [.bl, (.ba 32), .bl, (.i .i64)] sha_Sum_l5_Y (fun x => sha_Sum_l5 N x.2.1 x.2.2.1 x.1 x.2.2.2.1) cs1 fun x => sha_Sum_l5_o (x.2.1, x.2.2.1)
theorem sha_Sum_l5_ok (N : Nat) : LsOK Tryz.prog sha_Sum_H 35 (lookC Tryz_b35 5) (sha_Sum_l5_s N) := smL_ok fun x z h => sha_Sum_l5_q N (x.2.1, x.2.2.1) N (x.1, x.2.2.2.1) z h
abbrev sha_Sum_l10_F := List UInt8 × Vector UInt8 32 × Vector UInt32 8 × Vector UInt32 64
abbrev sha_Sum_l10_Y := Unit ⊕ (Vector UInt32 8 × List UInt8 × Bool)
def sha_Sum_l10_o (f : sha_Sum_l10_F) : sha_Sum_l10_Y → Ex × TSt
 | .inl y => (.exit 4, ⟨0, 63, [], [(2, .p 20 [] 0), (3, .v 100050 f.1.length), (5, .p 50 [] 0), (6, .p 60 [] 0), (40, xb (decide (((0 : Int)) < ((f.1.length : Nat) : Int))))], [(20, .cell false (.tv (.ba 32) f.2.1)), (50, .cell false (.tv (.wa 8) f.2.2.1)), (60, .cell false (.tv (.wa 64) f.2.2.2)), (100050, .vec false 1 .bl f.1)], false, []⟩)
 | .inr y => (.exit 4, ⟨0, 63, [], [(2, .p 20 [] 0), (3, .tv .bl (y.2.1 : List UInt8)), (5, .p 50 [] 0), (6, .p 60 [] 0), (40, xb y.2.2)], [(20, .cell false (.tv (.ba 32) f.2.1)), (50, .cell false (.tv (.wa 8) (y.1 : Vector UInt32 8))), (60, .cell false (.tv (.wa 64) f.2.2.2))], false, []⟩)
def sha_Sum_l10_L (N : Nat) : List (Nat × LEnt) := []
abbrev sha_Sum_l10_s1_V := Vector UInt32 8 × List UInt8
def sha_Sum_l10_s1_p : SP := ⟨0, 63, [], [(2, .k (.p 20 [] 0)), (3, .x .bl), (5, .k (.p 50 [] 0)), (6, .k (.p 60 [] 0))], [(20, .cell false (.x (.ba 32))), (50, .cell false (.x (.wa 8))), (60, .cell false (.x (.wa 64)))], false, []⟩
def sha_Sum_l10_s1_h (f : sha_Sum_l10_F) (v : sha_Sum_l10_s1_V) : TSt := fillS sha_Sum_l10_s1_p [dv (.ba 32) f.2.1, dv (.wa 8) v.1, dv (.wa 64) f.2.2.2, dv .bl v.2]
def sha_Sum_l10_s1_t (N : Nat) (o_10 : List UInt8) (o_10_2 : Vector UInt8 32) (o_10_3 : Vector UInt32 8) (o_10_4 : Vector UInt32 64) (v : sha_Sum_l10_s1_V) : Tree (sha_Sum_l10_s1_V ⊕ sha_Sum_l10_Y) :=
 .cond (decide (((0 : Int)) < ((v.2.length : Nat) : Int))) (
 .chk (0 ≤ (0 : Int) ∧ (0 : Int) ≤ (64 : Int) ∧ (64 : Int) ≤ ((v.2.length : Nat) : Int)) <|
 .bind (sha_state_take N v.1 o_10_4 ((v.2.take 64).drop 0)) fun r1 =>
 .chk (0 ≤ (64 : Int) ∧ (64 : Int) ≤ ((v.2.length : Nat) : Int)) <|
 .ret (.inl (r1, v.2.drop 64))) <|
 .ret (.inr (.inr ((v.1, v.2, decide (((0 : Int)) < ((v.2.length : Nat) : Int))))))
def sha_Sum_l10_s1_n (N n : Nat) (f : sha_Sum_l10_F) (v : sha_Sum_l10_s1_V) : Option sha_Sum_l10_Y := loopG (sha_Sum_l10_s1_t N f.1 f.2.1 f.2.2.1 f.2.2.2) some n v
theorem sha_Sum_l10_s1_q (N : Nat) (f : sha_Sum_l10_F) (n : Nat) (v : sha_Sum_l10_s1_V) (y : sha_Sum_l10_Y) (h : sha_Sum_l10_s1_n N n f v = some y) : LG Tryz.prog sha_Sum_H 35 (lookC Tryz_b35 10) (sha_Sum_l10_s1_h f v) (sha_Sum_l10_o f y) :=
  loop_g Tryz_draw (E := sha_Sum_E N) (L := lenv (sha_Sum_l10_L N)) (st := sha_Sum_l10_o f) (g := some) (R := sha_Sum_l10_o f) (sha_Sum_Eok N) (lenv_ok (by kernel_rfl) trivial) (rg0 (by kernel_rfl)) (fun v => by kernel_rfl) (good_self (st := sha_Sum_l10_o f) fun y => by rcases y with _ | _ <;> rfl) n v y h
abbrev sha_Sum_l10_V := Unit
def sha_Sum_l10_p : SP := ⟨0, 63, [], [(2, .k (.p 20 [] 0)), (3, .vs 100050), (5, .k (.p 50 [] 0)), (6, .k (.p 60 [] 0))], [(20, .cell false (.x (.ba 32))), (50, .cell false (.x (.wa 8))), (60, .cell false (.x (.wa 64))), (100050, .vec false 1)], false, []⟩
def sha_Sum_l10_h (f : sha_Sum_l10_F) (v : sha_Sum_l10_V) : TSt := fillS sha_Sum_l10_p [dv .bl f.1, dv (.ba 32) f.2.1, dv (.wa 8) f.2.2.1, dv (.wa 64) f.2.2.2]
abbrev sha_Sum_l10_W := sha_Sum_l10_s1_V ⊕ sha_Sum_l10_Y
def sha_Sum_l10_t (N : Nat) (o_10 : List UInt8) (o_10_2 : Vector UInt8 32) (o_10_3 : Vector UInt32 8) (o_10_4 : Vector UInt32 64) (v : sha_Sum_l10_V) : Tree (sha_Sum_l10_V ⊕ sha_Sum_l10_W) :=
 .cond (decide (((0 : Int)) < ((o_10.length : Nat) : Int))) (
 .chk (0 ≤ (0 : Int) ∧ (0 : Int) ≤ (64 : Int) ∧ (64 : Int) ≤ ((o_10.length : Nat) : Int)) <|
 .chk (o_10.length = o_10.length) <|
 .bind (sha_state_take N o_10_3 o_10_4 ((o_10.take 64).drop 0)) fun r1 =>
 .chk (0 ≤ (64 : Int) ∧ (64 : Int) ≤ ((o_10.length : Nat) : Int)) <|
 .chk (o_10.length = o_10.length) <|
 .ret (.inr (.inl (r1, o_10.drop 64)))) <|
 .ret (.inr (.inr ((.inl ()))))
def sha_Sum_l10_g (N n : Nat) (f : sha_Sum_l10_F) : sha_Sum_l10_W → Option sha_Sum_l10_Y
 | .inl w => sha_Sum_l10_s1_n N n f w
 | .inr w => some w
def sha_Sum_l10_w (f : sha_Sum_l10_F) : sha_Sum_l10_W → Ex × TSt
 | .inl w => (.normal, sha_Sum_l10_s1_h f w)
 | .inr w => sha_Sum_l10_o f w
def sha_Sum_l10_n (N n : Nat) (f : sha_Sum_l10_F) (v : sha_Sum_l10_V) : Option sha_Sum_l10_Y := loopG (sha_Sum_l10_t N f.1 f.2.1 f.2.2.1 f.2.2.2) (sha_Sum_l10_g N n f) n v
theorem sha_Sum_l10_q (N : Nat) (f : sha_Sum_l10_F) (n : Nat) (v : sha_Sum_l10_V) (y : sha_Sum_l10_Y) (h : sha_Sum_l10_n N n f v = some y) : LG Tryz.prog sha_Sum_H 35 (lookC Tryz_b35 10) (sha_Sum_l10_h f v) (sha_Sum_l10_o f y) :=
  loop_g Tryz_draw (E := sha_Sum_E N) (L := lenv (sha_Sum_l10_L N)) (st := sha_Sum_l10_w f) (g := (sha_Sum_l10_g N n f)) (R := sha_Sum_l10_o f) (sha_Sum_Eok N) (lenv_ok (by kernel_rfl) trivial) (rg0 (by kernel_rfl)) (fun v => by kernel_rfl) (fun w y h => by
  rcases w with w | w
  · exact sha_Sum_l10_s1_q N f n w y h
  · exact good_self (st := sha_Sum_l10_o f) (fun y => by rcases y with _ | _ <;> rfl) w y h
) n v y h
def sha_Sum_l10 (N : Nat) (o_10 : List UInt8) (o_10_2 : Vector UInt8 32) (o_10_3 : Vector UInt32 8) (o_10_4 : Vector UInt32 64) : Option sha_Sum_l10_Y := sha_Sum_l10_n N N (o_10, o_10_2, o_10_3, o_10_4) ()
def sha_Sum_l10_s (N : Nat) : LEnt := smL sha_Sum_l10_p [.bl, (.ba 32), (.wa 8), (.wa 64)] sha_Sum_l10_Y (fun x => sha_Sum_l10 N x.1 x.2.1 x.2.2.1 x.2.2.2.1) (csS cs1) fun x => sha_Sum_l10_o (x.1, x.2.1, x.2.2.1, x.2.2.2.1)
theorem sha_Sum_l10_ok (N : Nat) : LsOK Tryz.prog sha_Sum_H 35 (lookC Tryz_b35 10) (sha_Sum_l10_s N) := smL_ok fun x z h => sha_Sum_l10_q N (x.1, x.2.1, x.2.2.1, x.2.2.2.1) N () z h
abbrev sha_Sum_l15_F := Vector UInt8 32 × Vector UInt32 8
abbrev sha_Sum_l15_Y := Vector UInt8 32 × Int × Bool
def sha_Sum_l15_o (f : sha_Sum_l15_F) (y : sha_Sum_l15_Y) : Ex × TSt := (.exit 6, ⟨0, 63, [], [(2, .p 20 [] 0), (5, .p 50 [] 0), (7, .p 70 [] 0), (46, xi y.2.1), (47, xb y.2.2)], [(20, .cell false (.tv (.ba 32) f.1)), (50, .cell false (.tv (.wa 8) f.2)), (70, .cell false (.tv (.ba 32) (y.1 : Vector UInt8 32)))], false, []⟩)
def sha_Sum_l15_L (N : Nat) : List (Nat × LEnt) := []
abbrev sha_Sum_l15_V := Vector UInt8 32 × Int
def sha_Sum_l15_p : SP := ⟨0, 63, [], [(2, .k (.p 20 [] 0)), (5, .k (.p 50 [] 0)), (7, .k (.p 70 [] 0)), (46, .x (.i .i64))], [(20, .cell false (.x (.ba 32))), (50, .cell false (.x (.wa 8))), (70, .cell false (.x (.ba 32)))], false, []⟩
def sha_Sum_l15_h (f : sha_Sum_l15_F) (v : sha_Sum_l15_V) : TSt := fillS sha_Sum_l15_p [dv (.ba 32) f.1, dv (.wa 8) f.2, dv (.ba 32) v.1, dv (.i .i64) v.2]
def sha_Sum_l15_t (N : Nat) (o_15 : Vector UInt8 32) (o_15_2 : Vector UInt32 8) (v : sha_Sum_l15_V) : Tree (sha_Sum_l15_V ⊕ sha_Sum_l15_Y) :=
 .cond (decide (v.2 < ((32 : Int)))) (
 .chk ((4 : Int) ≠ 0) <|
 .chk (in64 (v.2.tdiv 4)) <|
 .chk (0 ≤ (v.2.tdiv 4) ∧ (v.2.tdiv 4) < ((8 : Nat) : Int)) <|
 .chk ((v.2.tdiv 4).toNat < 8) <|
 .chk ((4 : Int) ≠ 0) <|
 .chk (in64 (((8 : Int)) * (v.2.tmod 4))) <|
 .chk (in64 (((24 : Int)) - (((8 : Int)) * (v.2.tmod 4)))) <|
 .chk (0 ≤ (((24 : Int)) - (((8 : Int)) * (v.2.tmod 4)))) <|
 let w1 : Int := uShr (((o_15_2.toList.getD ((v.2.tdiv 4).toNat) 0).toNat : Nat) : Int) (min (((24 : Int)) - (((8 : Int)) * (v.2.tmod 4))).toNat 32)
 .chk (0 ≤ v.2 ∧ v.2 < ((32 : Nat) : Int)) <|
 .chk (inB (IntKind.u8.wrap w1)) <|
 .chk (v.2.toNat < 32) <|
 .chk (in64 (v.2 + 1)) <|
 .ret (.inl (v.1.setIfInBounds v.2.toNat (UInt8.ofNat (IntKind.u8.wrap w1).toNat), v.2 + 1))) <|
 .ret (.inr (v.1, v.2, decide (v.2 < ((32 : Int)))))
def sha_Sum_l15_n (N n : Nat) (f : sha_Sum_l15_F) (v : sha_Sum_l15_V) : Option sha_Sum_l15_Y := loopG (sha_Sum_l15_t N f.1 f.2) some n v
theorem sha_Sum_l15_q (N : Nat) (f : sha_Sum_l15_F) (n : Nat) (v : sha_Sum_l15_V) (y : sha_Sum_l15_Y) (h : sha_Sum_l15_n N n f v = some y) : LG Tryz.prog sha_Sum_H 35 (lookC Tryz_b35 15) (sha_Sum_l15_h f v) (sha_Sum_l15_o f y) :=
  loop_g Tryz_draw (E := sha_Sum_E N) (L := lenv (sha_Sum_l15_L N)) (st := sha_Sum_l15_o f) (g := some) (R := sha_Sum_l15_o f) (sha_Sum_Eok N) (lenv_ok (by kernel_rfl) trivial) (rg0 (by kernel_rfl)) (fun v => by kernel_rfl) (good_self (st := sha_Sum_l15_o f) fun y => by rfl) n v y h
def sha_Sum_l15 (N : Nat) (o_15 : Vector UInt8 32) (o_15_2 : Vector UInt32 8) (o_15_3 : Vector UInt8 32) (s46_15 : Int) : Option sha_Sum_l15_Y := sha_Sum_l15_n N N (o_15, o_15_2) (o_15_3, s46_15)
def sha_Sum_l15_s (N : Nat) : LEnt := smL sha_Sum_l15_p [(.ba 32), (.wa 8), (.ba 32), (.i .i64)] sha_Sum_l15_Y (fun x => sha_Sum_l15 N x.1 x.2.1 x.2.2.1 x.2.2.2.1) cs1 fun x => sha_Sum_l15_o (x.1, x.2.1)
theorem sha_Sum_l15_ok (N : Nat) : LsOK Tryz.prog sha_Sum_H 35 (lookC Tryz_b35 15) (sha_Sum_l15_s N) := smL_ok fun x z h => sha_Sum_l15_q N (x.1, x.2.1) N (x.2.2.1, x.2.2.2.1) z h
def sha_Sum_o (z : Vector UInt8 32) : TV × THp := (.tv (.ba 32) z, [])
def sha_Sum_t (N : Nat) (a0 : List UInt8) : Tree (Vector UInt8 32) :=
 .bind (bytes_CloneW a0) fun r1 =>
 .chk (avOK (((([] : List UInt8)) ++ a0).length) (((([] : List UInt8)) ++ a0).length) ((((([] : List UInt8)) ++ a0) ++ [(UInt8.ofNat 128)]).length) 1) <|
 .bind (chkLs [((((([] : List UInt8)) ++ a0) ++ [(UInt8.ofNat 128)]).length, (((([] : List UInt8)) ++ a0) ++ [(UInt8.ofNat 128)]).length)] (sha_Sum_l2 N ((Vector.replicate 32 0)) a0 (((([] : List UInt8)) ++ a0) ++ [(UInt8.ofNat 128)]))) fun z2 =>
 .bind (chkLs [(z2.1.length, z2.1.length)] (sha_Sum_l5 N ((Vector.replicate 32 0)) a0 z2.1 0)) fun z3 =>
 .bind (sha_begun) fun r4 =>
 .bind (sha_roots) fun r5 =>
 .bind (chkLs [(z3.1.length, z3.1.length)] (sha_Sum_l10 N z3.1 ((Vector.replicate 32 0)) ((((((((((Vector.replicate 8 0)).setIfInBounds 0 ((UInt32.ofNat 1779033703))).setIfInBounds 1 ((UInt32.ofNat 3144134277))).setIfInBounds 2 ((UInt32.ofNat 1013904242))).setIfInBounds 3 ((UInt32.ofNat 2773480762))).setIfInBounds 4 ((UInt32.ofNat 1359893119))).setIfInBounds 5 ((UInt32.ofNat 2600822924))).setIfInBounds 6 ((UInt32.ofNat 528734635))).setIfInBounds 7 ((UInt32.ofNat 1541459225))) ((((((((((((((((((((((((((((((((((((((((((((((((((((((((((((((((((Vector.replicate 64 0)).setIfInBounds 0 ((UInt32.ofNat 1116352408))).setIfInBounds 1 ((UInt32.ofNat 1899447441))).setIfInBounds 2 ((UInt32.ofNat 3049323471))).setIfInBounds 3 ((UInt32.ofNat 3921009573))).setIfInBounds 4 ((UInt32.ofNat 961987163))).setIfInBounds 5 ((UInt32.ofNat 1508970993))).setIfInBounds 6 ((UInt32.ofNat 2453635748))).setIfInBounds 7 ((UInt32.ofNat 2870763221))).setIfInBounds 8 ((UInt32.ofNat 3624381080))).setIfInBounds 9 ((UInt32.ofNat 310598401))).setIfInBounds 10 ((UInt32.ofNat 607225278))).setIfInBounds 11 ((UInt32.ofNat 1426881987))).setIfInBounds 12 ((UInt32.ofNat 1925078388))).setIfInBounds 13 ((UInt32.ofNat 2162078206))).setIfInBounds 14 ((UInt32.ofNat 2614888103))).setIfInBounds 15 ((UInt32.ofNat 3248222580))).setIfInBounds 16 ((UInt32.ofNat 3835390401))).setIfInBounds 17 ((UInt32.ofNat 4022224774))).setIfInBounds 18 ((UInt32.ofNat 264347078))).setIfInBounds 19 ((UInt32.ofNat 604807628))).setIfInBounds 20 ((UInt32.ofNat 770255983))).setIfInBounds 21 ((UInt32.ofNat 1249150122))).setIfInBounds 22 ((UInt32.ofNat 1555081692))).setIfInBounds 23 ((UInt32.ofNat 1996064986))).setIfInBounds 24 ((UInt32.ofNat 2554220882))).setIfInBounds 25 ((UInt32.ofNat 2821834349))).setIfInBounds 26 ((UInt32.ofNat 2952996808))).setIfInBounds 27 ((UInt32.ofNat 3210313671))).setIfInBounds 28 ((UInt32.ofNat 3336571891))).setIfInBounds 29 ((UInt32.ofNat 3584528711))).setIfInBounds 30 ((UInt32.ofNat 113926993))).setIfInBounds 31 ((UInt32.ofNat 338241895))).setIfInBounds 32 ((UInt32.ofNat 666307205))).setIfInBounds 33 ((UInt32.ofNat 773529912))).setIfInBounds 34 ((UInt32.ofNat 1294757372))).setIfInBounds 35 ((UInt32.ofNat 1396182291))).setIfInBounds 36 ((UInt32.ofNat 1695183700))).setIfInBounds 37 ((UInt32.ofNat 1986661051))).setIfInBounds 38 ((UInt32.ofNat 2177026350))).setIfInBounds 39 ((UInt32.ofNat 2456956037))).setIfInBounds 40 ((UInt32.ofNat 2730485921))).setIfInBounds 41 ((UInt32.ofNat 2820302411))).setIfInBounds 42 ((UInt32.ofNat 3259730800))).setIfInBounds 43 ((UInt32.ofNat 3345764771))).setIfInBounds 44 ((UInt32.ofNat 3516065817))).setIfInBounds 45 ((UInt32.ofNat 3600352804))).setIfInBounds 46 ((UInt32.ofNat 4094571909))).setIfInBounds 47 ((UInt32.ofNat 275423344))).setIfInBounds 48 ((UInt32.ofNat 430227734))).setIfInBounds 49 ((UInt32.ofNat 506948616))).setIfInBounds 50 ((UInt32.ofNat 659060556))).setIfInBounds 51 ((UInt32.ofNat 883997877))).setIfInBounds 52 ((UInt32.ofNat 958139571))).setIfInBounds 53 ((UInt32.ofNat 1322822218))).setIfInBounds 54 ((UInt32.ofNat 1537002063))).setIfInBounds 55 ((UInt32.ofNat 1747873779))).setIfInBounds 56 ((UInt32.ofNat 1955562222))).setIfInBounds 57 ((UInt32.ofNat 2024104815))).setIfInBounds 58 ((UInt32.ofNat 2227730452))).setIfInBounds 59 ((UInt32.ofNat 2361852424))).setIfInBounds 60 ((UInt32.ofNat 2428436474))).setIfInBounds 61 ((UInt32.ofNat 2756734187))).setIfInBounds 62 ((UInt32.ofNat 3204031479))).setIfInBounds 63 ((UInt32.ofNat 3329325298))))) fun z6 =>
 .sum z6 (fun z7 =>
 .bind (sha_Sum_l15 N ((Vector.replicate 32 0)) ((((((((((Vector.replicate 8 0)).setIfInBounds 0 ((UInt32.ofNat 1779033703))).setIfInBounds 1 ((UInt32.ofNat 3144134277))).setIfInBounds 2 ((UInt32.ofNat 1013904242))).setIfInBounds 3 ((UInt32.ofNat 2773480762))).setIfInBounds 4 ((UInt32.ofNat 1359893119))).setIfInBounds 5 ((UInt32.ofNat 2600822924))).setIfInBounds 6 ((UInt32.ofNat 528734635))).setIfInBounds 7 ((UInt32.ofNat 1541459225))) ((Vector.replicate 32 0)) 0) fun z8 =>
 .ret z8.1) fun z7 =>
 .bind (sha_Sum_l15 N ((Vector.replicate 32 0)) z7.1 ((Vector.replicate 32 0)) 0) fun z8 =>
 .ret z8.1
def sha_Sum (N : Nat) (a0 : List UInt8) : Option (Vector UInt8 32) := (sha_Sum_t N a0).run some
def sha_Sum_L (N : Nat) : List (Nat × LEnt) := [(2, sha_Sum_l2_s N), (5, sha_Sum_l5_s N), (10, sha_Sum_l10_s N), (15, sha_Sum_l15_s N)]
def sha_Sum_s (N : Nat) : Ent := smF ⟨35, [], [.x .bl], [], []⟩ [.bl] (Vector UInt8 32) (fun x => sha_Sum N x.1) cs1 fun _ => sha_Sum_o
theorem sha_Sum_val (N : Nat) : FnVal Tryz.prog ⟨35, [], [.x .bl], [], []⟩ [.bl] (fun x => sha_Sum_t N x.1) (fun _ => sha_Sum_o) :=
  fn_val (H := sha_Sum_H) (L := lenv (sha_Sum_L N)) 0 Tryz_F35 (sha_Sum_Eok N) (lenv_ok (by kernel_rfl) ⟨sha_Sum_l2_ok N, sha_Sum_l5_ok N, sha_Sum_l10_ok N, sha_Sum_l15_ok N, trivial⟩) (rg0 (by kernel_rfl)) fun x => by kernel_rfl
theorem sha_Sum_ok (N : Nat) : SmOK Tryz.prog (sha_Sum_s N) := smF_ok (sha_Sum_val N)
end Go.Rx
end
set_option maxRecDepth 100000
noncomputable section
namespace Go.Rx
open Go.Proofs
def dg0 : Vector UInt8 32 := #v[110, 52, 11, 156, 255, 179, 122, 152, 156, 165, 68, 230, 187, 120, 10, 44, 120, 144, 29, 63, 179, 55, 56, 118, 133, 17, 163, 6, 23, 175, 160, 29]
theorem sum_0 : sha_Sum 300 [0] = some dg0 := by kernel_rfl
def dg1 : Vector UInt8 32 := #v[45, 113, 22, 66, 183, 38, 176, 68, 1, 98, 124, 169, 251, 172, 50, 245, 200, 83, 15, 177, 144, 60, 196, 219, 2, 37, 135, 23, 146, 26, 72, 129]
theorem sum_1 : sha_Sum 300 [120] = some dg1 := by kernel_rfl
def dg2 : Vector UInt8 32 := #v[217, 234, 19, 0, 182, 245, 117, 92, 168, 138, 178, 15, 28, 158, 218, 100, 105, 227, 235, 245, 218, 173, 131, 66, 21, 81, 99, 85, 79, 134, 92, 199]
theorem sum_2 : sha_Sum 300 [1, 7, 0, 0, 0, 0, 0, 0, 0, 0, 0, 0, 0, 0, 0, 0, 0, 0, 1, 2, 9, 1, 120] = some dg2 := by kernel_rfl
def shaT : List (List UInt8 × Vector UInt8 32) := [([0], dg0), ([120], dg1), ([1, 7, 0, 0, 0, 0, 0, 0, 0, 0, 0, 0, 0, 0, 0, 0, 0, 0, 1, 2, 9, 1, 120], dg2)]
theorem shaT_ok : TabOK (sha_Sum 300) shaT := ⟨sum_0, sum_1, sum_2, trivial⟩
def shaK_s : Ent := smF ⟨35, [], [.x .bl], [], []⟩ [.bl] (Vector UInt8 32) (fun x => tabS shaT x.1) cs1 fun _ => sha_Sum_o
theorem shaK_ok : SmOK Tryz.prog shaK_s := smF_le (sha_Sum_ok 300) fun x z h => tabS_ok shaT_ok x.1 z h
end Go.Rx
end
set_option maxRecDepth 100000
noncomputable section
namespace Go.Rx
open Go.Proofs
def Tryz_HL : List (Nat × TH) := [(9, { live := [(1, [1, 2]), (2, [1, 2, 3]), (3, [1, 2, 5, 6]), (4, [1, 2, 5, 6, 7, 8]), (5, [1, 2, 5, 6, 7, 8, 9, 10, 11]), (6, [0])], dec := [42, 48, 55, 58, 61, 66, 72, 75, 80, 84, 88], rd := [(1, [1]), (2, [3]), (3, [5]), (4, [7]), (5, [9])] }),
 (12, { live := [(0, [1, 2]), (1, [1, 2, 13]), (2, [2, 3]), (3, [1, 2, 4]), (4, [2, 4, 19, 20, 21]), (5, [2, 4, 19, 20, 21, 22]), (6, [2, 4, 6, 19, 20, 21]), (7, [2, 4, 6, 7, 19, 20, 21]), (8, [2, 4, 7, 19, 20, 21, 31, 32, 33]), (9, [2, 4, 7, 19, 20, 21, 31, 32, 33, 34]), (10, [2, 4, 7, 9, 19, 20, 21, 31, 32, 33]), (11, [2, 4, 7, 9, 10, 19, 20, 21, 31, 32, 33]), (12, [2, 4, 7, 19, 20, 21, 31, 32, 33]), (13, [2, 4, 7, 19, 20, 21, 31, 32, 33]), (14, [2, 4, 19, 20, 21]), (15, [2, 4, 19, 20, 21]), (16, [2, 3])], rd := [(6, [6]), (10, [9])] }),
 (16, { live := [(0, [1]), (1, [1, 6, 7, 8]), (2, [1, 6, 7, 8, 9]), (3, [1, 3, 4, 6, 7, 8]), (4, [1, 6, 7, 8, 32]), (5, [2]), (6, [1, 6, 7, 8]), (7, [2])], dec := [16, 19], rd := [(3, [4])] }),
 (17, { live := [(0, [2, 3]), (1, [2, 3, 5]), (2, [2, 3, 6]), (3, [4])], dec := [13] }),
 (18, { live := [(0, [2, 3, 4]), (1, [2, 4, 6]), (2, [2, 4, 6, 12]), (3, [4, 5]), (4, [4, 5])] }),
 (20, { live := [(0, [3, 4, 5, 6]), (1, [5, 6, 8]), (2, [6, 8, 10]), (3, [6, 8, 10, 22]), (4, [6, 7]), (5, [6, 7])], rd := [(1, [8])] }),
 (22, { live := [(0, [2, 3, 4, 6]), (1, [2, 3, 4, 6, 9]), (2, [2, 4, 6, 9, 18]), (3, [9, 10, 20]), (4, [9, 10, 11]), (5, [9, 10, 11, 13]), (6, [9, 10, 11, 28]), (8, [6, 14, 15]), (9, [6, 7, 8])], fresh := [18], rd := [(1, [9]), (3, [10]), (4, [11]), (5, [12]), (8, [14])] }),
 (27, { live := [(0, [1]), (1, [1, 6, 7, 8]), (2, [1, 6, 7, 8, 9]), (3, [1, 3, 4, 6, 7, 8]), (4, [1, 6, 7, 8, 32]), (5, [2]), (6, [1, 6, 7, 8]), (7, [2])], dec := [16, 19], rd := [(3, [4])] }),
 (30, { live := [(0, [1, 2]), (1, [2, 3]), (2, [2])] }),
 (32, { live := [(0, [0]), (1, [0, 6]), (2, [2]), (3, [0, 3]), (4, [0, 3, 9]), (5, [0, 3]), (6, [0, 3]), (7, [2])] }),
 (33, { live := [(0, [0, 2]), (1, [2])] }),
 (34, { live := [(0, [3, 5, 6, 7, 9, 10]), (1, [3, 5, 6, 7, 9, 10, 27]), (2, [10, 11]), (3, [10, 11])], dec := [15, 19, 23] }),
 (35, { live := [(0, [0, 2]), (1, [0, 2, 3]), (2, [0, 2, 3, 16]), (3, [0, 2, 3]), (4, [0, 2, 3, 20]), (5, [0, 2, 3, 20, 21]), (6, [0, 2, 3, 4, 20]), (7, [0, 2, 3, 20]), (8, [0, 2, 3, 20]), (9, [2, 3, 5, 6]), (10, [2, 3, 5, 6, 40]), (11, [2, 3, 5, 6]), (12, [2, 3, 5, 6]), (13, [2, 5, 7]), (14, [2, 5, 7, 46]), (15, [2, 5, 7, 46, 47]), (16, [2, 5, 7, 8, 46]), (17, [2, 5, 7, 46]), (18, [2, 5, 7, 46]), (19, [2])], fresh := [10] }),
 (44, { live := [(0, [1]), (1, [1, 6, 7, 8]), (2, [1, 6, 7, 8, 9]), (3, [1, 3, 4, 6, 7, 8]), (4, [1, 6, 7, 8, 33]), (5, [2]), (6, [1, 6, 7, 8]), (7, [2])], dec := [18, 21, 38, 43], rd := [(3, [4])] }),
 (45, { live := [(0, [2, 3]), (1, [4])], dec := [8] }),
 (46, { live := [(0, [2, 3]), (1, [4])], dec := [10, 17, 24, 31] }),
 (47, { live := [(0, [0, 1]), (1, [0, 1, 10]), (2, [4]), (3, [0, 1, 12, 13]), (4, [0, 1, 12, 13, 14]), (5, [0, 1, 5, 12, 13]), (6, [0, 1, 12, 13, 24]), (7, [4]), (8, [0, 1, 12, 13]), (9, [4])] }),
 (48, { live := [(0, [2, 3, 4]), (1, [5])], dec := [11, 18] }),
 (49, { live := [(0, [0, 1, 2]), (1, [0, 1, 2, 14]), (2, [6]), (3, [1, 2, 15, 16, 17]), (4, [1, 2, 15, 16, 17, 18]), (5, [1, 2, 7, 8, 15, 16, 17]), (6, [1, 2, 8, 9, 15, 16, 17]), (7, [1, 2, 15, 16, 17, 30]), (8, [6]), (9, [1, 2, 15, 16, 17]), (10, [6])], rd := [(5, [8]), (6, [9])] }),
 (50, { live := [(0, [0, 1, 2]), (1, [0, 1, 2, 14]), (2, [6]), (3, [1, 2, 15, 16, 17]), (4, [1, 2, 15, 16, 17, 18]), (5, [1, 2, 7, 8, 15, 16, 17]), (6, [1, 2, 8, 9, 15, 16, 17]), (7, [1, 2, 15, 16, 17, 30]), (8, [6]), (9, [1, 2, 15, 16, 17]), (10, [6])], rd := [(5, [8]), (6, [9])] }),
 (51, { live := [(0, [0, 1]), (1, [0, 1, 7, 8]), (2, [0, 1, 7, 8, 9]), (3, [0, 1, 5, 7, 8]), (4, [0, 1, 5, 7, 8, 16]), (5, [4]), (6, [0, 1, 7, 8]), (7, [4])] }),
 (52, { live := [(0, [1, 2]), (1, [3])] }),
 (53, { live := [(0, [1, 2]), (1, [1, 2]), (2, [1, 2, 10, 11]), (3, [1, 2, 10, 11, 12]), (4, [1, 2, 3, 10, 11]), (5, [1, 2, 10, 11]), (6, [1, 2, 10, 11]), (7, [2])], fresh := [6] }),
 (54, { live := [(0, [0, 1]), (1, [0, 1, 7, 8]), (2, [0, 1, 7, 8, 9]), (3, [0, 1, 5, 7, 8]), (4, [0, 1, 5, 7, 8, 16]), (5, [4]), (6, [0, 1, 7, 8]), (7, [4])] }),
 (55, { live := [(0, [1, 2]), (1, [3])] }),
 (56, { live := [(0, [1]), (1, [2])], esc := true }),
 (59, { live := [(0, [1]), (1, [1, 21]), (2, [2]), (3, [1, 23, 24, 25]), (4, [1, 23, 24, 25, 26]), (5, [1, 3, 4, 23, 24, 25]), (6, [1, 4, 5, 23, 24, 25]), (7, [1, 23, 24, 25, 74]), (8, [2]), (9, [1, 23, 24, 25]), (10, [2])], dec := [10, 15, 32, 37, 40, 55, 60, 66], rd := [(5, [4])] }),
 (62, { live := [(0, [1, 2]), (1, [1, 2]), (2, [2])] }),
 (65, { live := [(0, [1]), (1, [1, 15]), (2, [2, 3]), (3, [1, 4]), (4, [4, 22, 23, 24]), (5, [4, 22, 23, 24, 25]), (6, [4, 6, 22, 23, 24]), (7, [4, 6, 7, 22, 23, 24]), (8, [4, 6, 22, 23, 24]), (9, [4, 22, 23, 24, 47, 48, 49]), (10, [4, 22, 23, 24, 47, 48, 49, 50]), (11, [4, 10, 22, 23, 24, 47, 48, 49]), (12, [4, 10, 11, 22, 23, 24, 47, 48, 49]), (13, [4, 22, 23, 24, 47, 48, 49]), (14, [4, 22, 23, 24, 47, 48, 49]), (15, [4, 22, 23, 24]), (16, [2, 3])], fresh := [20], esc := true, rd := [(6, [6]), (11, [10])] }),
 (66, { live := [(0, [0, 2]), (1, [2])] }),
 (67, { live := [(0, [1, 2, 3, 6]), (1, [2, 3, 6, 8, 9]), (2, [2, 3, 6, 8, 9, 18]), (3, [6, 7]), (4, [6, 7])], rd := [(1, [8])] }),
 (68, { live := [(0, [1, 2, 3, 4, 5]), (1, [5])] }),
 (69, { live := [(0, [0]), (1, [0, 4]), (2, [2]), (3, [2])], vecs := [5], esc := true }),
 (70, { live := [(0, [0]), (1, [0])] }),
 (71, { live := [(0, [0]), (1, [0])] }),
 (72, { live := [(0, [0, 2, 6]), (1, [0, 2, 6, 7]), (2, [0, 2, 6, 7, 19]), (3, [0, 2, 6, 7, 19, 20]), (4, [0, 2, 6, 7, 8, 19]), (5, [0, 2, 6, 7, 8, 9, 10, 19]), (6, [0, 2, 6, 7, 9, 11, 19]), (7, [0, 2, 6, 7, 11, 12, 19]), (8, [0, 2, 6, 7, 11, 12, 19]), (9, [0, 2, 6, 7, 11, 19]), (10, [0, 2, 6, 7, 19]), (11, [0, 2, 6, 7, 19]), (12, [0, 7, 95]), (13, [0, 7, 95, 96]), (14, [0, 7, 13, 95]), (15, [0, 7, 95]), (16, [0, 7, 95])], rd := [(0, [6])] }),
 (78, { live := [(0, [2, 3]), (1, [4])], dec := [8, 13, 18, 23, 32, 37] }),
 (79, { live := [(0, [1]), (1, [2])], dec := [6, 10, 15, 20] }),
 (80, { live := [(0, [0, 1]), (1, [4])] }),
 (81, { live := [(0, [0]), (1, [0, 4]), (2, [2]), (3, [2])], vecs := [5], esc := true }),
 (82, { live := [(0, [0]), (1, [0, 4]), (2, [2]), (3, [2])], vecs := [5], esc := true }),
 (83, { live := [(0, [0, 8, 9, 10]), (1, [0, 8, 9, 10, 11]), (2, [0, 4, 8, 9, 10]), (3, [0, 4, 8, 9, 10, 15, 16, 17]), (4, [0, 4, 8, 9, 10, 15, 16, 17, 18]), (5, [0, 4, 6, 8, 9, 10, 15, 16, 17]), (6, [0, 4, 8, 9, 10, 15, 16, 17, 33]), (7, [0, 4, 8, 9, 10, 15, 16, 17]), (8, [0, 8, 9, 10])], rd := [(2, [4]), (5, [6])] }),
 (85, { live := [(0, [1]), (1, [2])], dec := [7, 12] }),
 (86, { live := [(0, [2, 3]), (1, [4])], dec := [8] }),
 (87, { live := [(0, [0]), (1, [0, 4]), (2, [2]), (3, [2])], vecs := [5], esc := true }),
 (88, { live := [(0, [0]), (1, [0, 3]), (2, [0, 3, 4]), (3, [0, 3, 4, 10, 11]), (4, [0, 3, 4, 10, 11, 12]), (5, [0, 3, 4, 5, 10, 11]), (6, [0, 3, 4, 10, 11]), (7, [0, 3, 4, 10, 11]), (8, [4]), (9, [2])], esc := true }),
 (89, { live := [(0, [1]), (1, [1, 6]), (2, [2, 3]), (3, [2, 3])], fresh := [15], esc := true }),
 (90, { live := [(0, [1]), (1, [1, 8]), (2, [2, 3]), (3, [1, 4]), (4, [2, 3])], fresh := [12], esc := true }),
 (91, { live := [(0, [0]), (1, [0, 3, 4]), (2, [0, 3, 4, 7, 8]), (3, [0, 3, 4, 7, 8, 9]), (4, [0, 3, 4, 5, 7, 8]), (5, [0, 3, 4, 7, 8]), (6, [0, 3, 4, 7, 8]), (7, [0, 3, 4, 7, 8]), (8, [2])] }),
 (92, { live := [(0, [1, 2, 4]), (1, [1, 2, 4, 6]), (2, [1, 4, 6, 12]), (3, [1, 4, 6, 12]), (4, [4, 6, 12]), (5, [4, 5]), (6, [4, 6, 21]), (7, [4, 5]), (8, [4, 5])], rd := [(1, [6])] }),
 (93, { live := [(0, [1, 2]), (1, [1, 2, 3]), (2, [2, 3, 9, 10, 11]), (3, [2, 3, 9, 10, 11, 12]), (4, [2, 3, 5, 9, 10, 11]), (5, [2, 3, 5, 9, 10, 11]), (6, [2, 3, 9, 10, 11, 20, 21, 22]), (7, [2, 3, 9, 10, 11, 20, 21, 22, 23]), (8, [2, 3, 7, 9, 10, 11, 20, 21, 22]), (9, [2, 3, 9, 10, 11, 20, 21, 22]), (10, [2, 3, 9, 10, 11, 20, 21, 22]), (11, [2, 3, 9, 10, 11]), (12, [2])], rd := [(4, [5]), (8, [7])] }),
 (94, { live := [(0, [2, 3, 4]), (1, [2, 3, 4, 22]), (2, [4, 5]), (3, [2, 3, 4, 6]), (4, [2, 3, 4, 6, 7]), (5, [4, 6, 7, 30, 31, 32]), (6, [4, 6, 7, 30, 31, 32, 33]), (7, [4, 6, 7, 9, 30, 31, 32]), (8, [4, 6, 7, 9, 10, 11, 30, 31, 32]), (9, [4, 6, 7, 9, 10, 30, 31, 32, 44]), (10, [4, 6, 7, 9, 30, 31, 32]), (11, [4, 6, 7, 30, 31, 32]), (12, [4, 6, 7, 30, 31, 32]), (13, [4, 6, 7, 30, 31, 32]), (14, [4, 6, 7, 67]), (15, [4, 5]), (16, [4, 6, 7]), (17, [4, 6, 7, 12]), (18, [4, 6, 12, 71, 72, 73]), (19, [4, 6, 12, 71, 72, 73, 74]), (20, [4, 6, 12, 14, 71, 72, 73]), (21, [4, 6, 12, 71, 72, 73]), (22, [4, 6, 12, 71, 72, 73]), (23, [4, 5])], dec := [18], rd := [(7, [9]), (8, [10]), (20, [14])] }),
 (95, { live := [(0, [0, 2]), (1, [0, 2, 3]), (2, [0, 2, 3, 7]), (3, [0, 2, 3, 7, 8]), (4, [0, 2, 3, 4, 7]), (5, [0, 2, 3, 4, 7, 11]), (6, [0, 2, 3, 7]), (7, [0, 2, 3, 4, 5, 6, 7]), (8, [0, 2, 3, 7]), (9, [0, 2, 3, 7]), (10, [2])] }),
 (96, { live := [(0, [0, 1]), (1, [4])] }),
 (106, { live := [(0, [0]), (1, [0, 4]), (2, [2]), (3, [2])] }),
 (108, { live := [(0, [0]), (1, [0, 3]), (2, [3, 6, 7, 8]), (3, [3, 6, 7, 8, 9]), (4, [3, 5, 6, 7, 8]), (5, [3, 5, 6, 7, 8, 14]), (6, [2]), (7, [3, 6, 7, 8]), (8, [2])] }),
 (109, { live := [(0, [0, 1]), (1, [0, 1, 5]), (2, [0, 1, 5, 6]), (3, [0, 1, 6, 11]), (4, [12]), (5, [4]), (6, [4]), (7, [0, 1, 13]), (8, [4]), (9, [0, 1, 16]), (10, [4]), (11, [19]), (12, [4]), (13, [4])] }),
 (110, { live := [(0, [0]), (1, [0, 3]), (2, [0, 3]), (3, [0, 3, 7]), (4, [0, 3]), (5, [0, 3]), (6, [2])] }),
 (111, { live := [(0, [0]), (1, [2])], fresh := [6], esc := true }),
 (112, { live := [(0, [0, 1]), (1, [4])] }),
 (113, { live := [(0, [2, 3, 4]), (1, [2, 3, 4, 7]), (2, [4]), (3, [4])] }),
 (114, { live := [(0, [0]), (1, [0, 3]), (2, [0, 3, 9, 10, 11]), (3, [0, 3, 9, 10, 11, 12]), (4, [0, 3, 5, 9, 10, 11]), (5, [0, 3, 9, 10, 11]), (6, [0, 3, 9, 10, 11, 20]), (7, [0, 3, 9, 10, 11]), (8, [0, 3, 9, 10, 11]), (9, [0, 6]), (10, [6, 25, 26, 27]), (11, [6, 25, 26, 27, 28]), (12, [6, 8, 25, 26, 27]), (13, [6, 25, 26, 27]), (14, [6, 25, 26, 27]), (15, [2])], raw := [121], fresh := [24] }),
 (115, { live := [(0, [2, 3, 4]), (1, [2, 3, 4, 23]), (2, [4, 5]), (3, [2, 3, 4, 6]), (4, [2, 3, 4, 6]), (5, [2, 3, 4, 6]), (6, [4, 6, 7]), (7, [4, 7, 43]), (8, [7, 8]), (10, [4, 5])], dec := [12, 17], fresh := [43], rd := [(8, [8])] }),
 (116, { live := [(0, [0, 1, 4])] }),
 (117, { live := [(0, [2, 3]), (1, [4])] }),
 (118, { live := [(0, [0, 1]), (1, [0, 5]), (2, [4])] }),
 (120, { live := [(0, [0]), (1, [2])] }),
 (121, { live := [(0, [0, 1]), (1, [0, 1, 6]), (2, [0, 1]), (3, [0, 1]), (4, [0, 1, 16]), (5, [0]), (6, [4])], esc := true, nil := [(5, [⟨.sl 0, 900001210, (.sl 19 (.ag [(.ba 16), (.ag [(.i .i64), (.i .i64)]), (.sl 4 (.ag [(.i .i64), (.ag [(.ag [(.i .i64), (.i .i64)]), .s])]))]))⟩])] }),
 (122, { live := [(0, [0, 3]), (1, [0, 9, 10, 11]), (2, [0, 9, 10, 11, 12]), (3, [0, 5, 9, 10, 11]), (4, [0, 5, 6, 7, 9, 10, 11]), (5, [0, 5, 6, 9, 10, 11, 22]), (6, [0, 9, 10, 11]), (7, [0, 9, 10, 11]), (8, [0, 9, 10, 11])], rd := [(3, [5]), (4, [6])] }),
 (123, { live := [(0, [2, 3]), (1, [4])], esc := true }),
 (124, { live := [(0, [0, 1, 2, 3, 4, 10]), (1, [0, 1, 2, 3, 4, 10, 11]), (2, [0, 1, 2, 3, 4, 10, 11, 12]), (3, [0, 1, 2, 3, 4, 10, 11, 12, 25]), (5, [0, 1, 2, 3, 4, 10, 11, 12, 32]), (7, [0, 1, 2, 3, 4, 10, 11, 12, 39]), (8, [0, 1, 2, 3, 4, 10, 11, 12]), (9, [0, 1, 2, 3, 4, 10, 11, 12]), (10, [0, 1, 2, 3, 4, 10, 11, 12, 13, 14]), (11, [0, 1, 2, 3, 4, 10, 11, 12, 13, 14, 56]), (12, [0, 1, 2, 3, 4, 10, 11, 12, 13]), (13, [0, 1, 2, 3, 4, 10, 11, 12, 13]), (14, [0, 1, 2, 3, 4, 10, 11, 12, 13, 14]), (15, [0, 1, 2, 3, 4, 10, 11, 12, 13, 75]), (16, [0, 1, 2, 3, 4, 10, 11, 12, 13, 80]), (17, [0, 1, 2, 3, 4, 10, 11, 12, 13, 97]), (18, [0, 2, 3, 4, 10, 11, 15]), (19, [0, 1, 2, 3, 4, 10, 11]), (20, [0, 1, 2, 3, 4, 12, 16, 17]), (21, [0, 1, 2, 3, 4, 11, 12, 16]), (22, [0, 1, 2, 3, 4, 11, 12, 16, 18, 19]), (23, [0, 1, 2, 3, 4, 11, 16, 18, 19, 20]), (24, [0, 1, 2, 3, 4, 11, 16, 18, 19, 20, 125]), (25, [0, 1, 2, 3, 4, 10, 11, 16]), (26, [0, 2, 3, 4, 10, 11, 16]), (27, [0, 1, 2, 3, 4, 10, 11]), (28, [0, 1, 2, 3, 4, 10, 11, 16]), (29, [0, 1, 3, 4, 10, 11, 16]), (30, [0, 1, 2, 3, 4, 10, 11])], dec := [69, 72, 83] }),
 (125, { live := [(0, [0]), (1, [2]), (2, [2])] }),
 (126, { live := [(0, [2, 3, 4]), (1, [2, 3, 4, 7]), (2, [4]), (3, [4])] }),
 (127, { live := [(0, [0, 1, 2, 7]), (1, [0, 1, 2, 7, 8]), (2, [0, 1, 2, 4, 7]), (3, [0, 1, 2, 4, 5, 6, 7]), (4, [0, 1, 2, 7, 30]), (5, [0, 1, 2, 7])], dec := [17, 23], rd := [(3, [5])] }),
 (128, { live := [(0, [0, 1, 2, 3, 8]), (1, [0, 1, 2, 3, 8, 14]), (2, [0, 1, 2, 3, 8]), (3, [0, 1, 2, 3, 8, 9]), (4, [0, 1, 2, 3, 8, 9, 34]), (5, [0, 1, 2, 3, 8, 9]), (6, [0, 1, 2, 3, 8, 9])], dec := [21] }),
 (129, { live := [(0, [0, 1, 2, 3, 8]), (1, [0, 1, 2, 3, 8, 9]), (2, [0, 3, 8, 9, 10]), (3, [0, 3, 8, 9, 10, 11]), (4, [0, 3, 8, 9, 10, 11, 21]), (5, [0, 3, 8, 9, 10, 11]), (6, [0, 3, 8, 9, 10, 11]), (7, [0, 3, 8, 9, 12]), (8, [0, 3, 8, 9, 12, 33]), (9, [0, 3, 8, 9, 12]), (10, [0, 3, 8, 9, 12]), (11, [0, 3, 8, 9, 12])] }),
 (130, { live := [(0, [0, 1, 8]), (1, [0, 1, 8, 17]), (2, [0, 1, 8, 9]), (3, [0, 1, 8, 9, 10]), (4, [0, 1, 8, 9, 10, 11]), (5, [0, 1, 8, 9, 10, 11, 35]), (6, [0, 1, 8, 9, 10, 11]), (7, [0, 1, 8, 9, 10, 11, 12]), (8, [0, 1, 8, 9, 10, 11, 12, 45]), (9, [0, 1, 8, 9, 10, 11, 12]), (10, [0, 1, 8, 9, 10, 11])] }),
 (131, { live := [(0, [0, 1, 2, 3]), (1, [0, 1, 3, 10]), (2, [0, 1, 3, 10, 11]), (3, [0, 1, 3, 10, 11, 12]), (4, [0, 1, 3, 10, 11, 12, 13]), (5, [0, 3, 10, 11, 12, 13, 14]), (6, [0, 3, 10, 11, 12, 13, 14, 34]), (7, [0, 3, 11, 12, 13, 14, 36]), (8, [0, 3, 11, 12, 13, 14]), (9, [0, 3, 11, 12, 13, 14]), (10, [0, 3, 11, 12, 13, 14]), (11, [11, 13]), (12, [13, 55]), (13, [8, 9]), (14, [13, 55, 57]), (15, [8, 9]), (16, [13, 60]), (17, [8, 9])] }),
 (132, { live := [(0, [0, 2, 8]), (1, [0, 8, 9]), (2, [0, 8, 9, 15]), (3, [0, 8, 9]), (4, [0, 8, 9]), (5, [0, 8, 9])] }),
 (133, { live := [(0, [0, 1, 2, 3]), (1, [0, 1, 2, 3, 9]), (2, [0, 1, 2, 3, 9, 10]), (3, [0, 1, 2, 3, 9, 10, 16]), (4, [0, 1, 2, 3, 9, 10]), (5, [0, 1, 2, 3, 9, 10, 36]), (6, [0, 1, 2, 3, 9, 10]), (7, [0, 1, 2, 3, 9, 10, 41]), (8, [8]), (9, [0, 1, 2, 3, 9, 10, 45]), (10, [8]), (11, [0, 1, 2, 3, 9, 10]), (12, [0, 1, 2, 3, 9, 10, 65]), (13, [0, 1, 2, 3, 9, 10, 11]), (14, [0, 1, 2, 3, 9, 10, 11, 69]), (15, [0, 1, 2, 3, 9, 10, 11]), (16, [0, 1, 2, 3, 9, 10, 11, 84]), (17, [0, 1, 2, 3, 9, 10, 11]), (18, [0, 1, 2, 3, 9, 10, 104]), (19, [0, 1, 2, 3, 9, 10, 12]), (20, [0, 1, 2, 3, 9, 10, 12, 109]), (21, [0, 1, 2, 3, 9, 10, 12]), (22, [0, 1, 2, 3, 9, 10, 12, 124]), (23, [0, 1, 2, 3, 9, 10, 12]), (24, [8])], dec := [22] }),
 (134, { live := [(0, [0, 1, 2, 3, 4]), (1, [0, 1, 2, 4]), (2, [0, 1, 4, 11, 12]), (3, [0, 1, 4, 11, 12, 47]), (4, [0, 1, 4, 11, 12]), (5, [0, 1, 4, 11, 12, 65]), (6, [0, 1, 4, 11, 12]), (7, [0, 1, 4, 11, 12, 70]), (8, [0, 1, 4, 11, 12]), (9, [0, 1, 4, 11, 12]), (10, [0, 1, 4, 11, 12]), (11, [10])], dec := [34, 53] }),
 (135, { live := [(0, [0, 1, 2, 3, 4]), (1, [0, 1, 2, 4]), (2, [0, 1, 4, 12, 13]), (3, [0, 1, 4, 12, 13, 47]), (4, [0, 1, 4, 12, 13]), (5, [0, 1, 4, 12, 13, 66]), (6, [0, 1, 4, 12, 13]), (7, [0, 1, 4, 12, 13, 71]), (8, [13]), (9, [10, 11]), (10, [0, 1, 4, 12, 13]), (11, [0, 1, 4, 12, 13]), (12, [0, 1, 4, 12, 13]), (13, [0, 1, 4, 12, 13, 120]), (14, [0, 1, 4, 12, 13]), (15, [0, 1, 4, 12, 13, 139]), (16, [0, 1, 4, 12, 13]), (17, [0, 1, 4, 12, 13, 144]), (18, [0, 1, 4, 12, 13]), (19, [0, 1, 4, 12, 13]), (20, [0, 1, 4, 12, 13]), (21, [13]), (22, [10, 11])], dec := [35, 53, 108, 126] }),
 (136, { live := [(0, [0, 2]), (1, [0, 2, 4]), (2, [0]), (3, [0, 2]), (4, [0, 2, 8]), (5, [0, 2]), (6, [0, 2]), (7, [2])] }),
 (137, { live := [(0, [0, 2]), (1, [0, 2, 4]), (2, [0]), (3, [0, 2]), (4, [0, 2, 8]), (5, [0, 2]), (6, [0, 2]), (7, [0, 2, 14]), (8, [0, 2]), (9, [0, 2]), (10, [2])] }),
 (138, { live := [(0, [2, 3]), (1, [5]), (2, [13, 14]), (3, [13, 14, 15]), (4, [7, 13, 14]), (5, [8, 13, 14]), (6, [8, 13, 14, 20]), (7, [4]), (8, [13, 14]), (9, [4])], rd := [(1, [5])] }),
 (139, { live := [(0, [0, 2, 3, 4, 10]), (1, [0, 2, 3, 4, 10, 11]), (2, [0, 2, 3, 4, 10, 11, 18]), (3, [0, 2, 3, 4, 10, 11, 40]), (4, [0, 2, 3, 4, 10, 11]), (5, [0, 2, 3, 4, 10, 11, 58]), (6, [0, 2, 3, 4, 11]), (7, [0, 2, 3, 4, 10])], dec := [23] }),
 (140, { live := [(0, [0]), (1, [2])] }),
 (141, { live := [(0, [0]), (1, [0]), (2, [0]), (3, [0]), (4, [2])] }),
 (142, { live := [(0, [0, 1, 2, 3]), (1, [8])] }),
 (143, { live := [(0, [0, 1, 2, 3, 4, 5]), (1, [0, 1, 2, 3, 4, 5]), (2, [0, 1, 2, 4, 5]), (3, [2]), (4, [12])] }),
 (144, { live := [(0, [0, 1]), (1, [2])] }),
 (145, { live := [(0, [2, 3, 4]), (1, [2, 3, 4, 7]), (2, [6]), (3, [12]), (4, [6]), (5, [6])] }),
 (146, { live := [(0, [0, 1]), (1, [2])] }),
 (147, { live := [(0, [2, 3, 4]), (1, [2, 3, 4, 7]), (2, [6]), (3, [12]), (4, [6]), (5, [6])] }),
 (148, { live := [(0, [2, 3]), (1, [4])], dec := [8] }),
 (149, { live := [(0, [0, 1]), (1, [2])] }),
 (150, { live := [(0, [0, 1]), (1, [0, 1, 5]), (2, [0, 1, 5, 6]), (3, [0, 1, 6, 11]), (4, [12]), (5, [4]), (6, [4]), (7, [0, 1, 13]), (8, [4]), (9, [0, 1, 16]), (10, [4]), (11, [19]), (12, [4]), (13, [4])] }),
 (151, { live := [(0, [0, 1, 2, 3, 4]), (1, [1, 2, 3, 22]), (2, [1, 2]), (3, [10, 11]), (4, [10, 11])] }),
 (152, { live := [(0, [0]), (1, [2])] })]
def Tryz_HH (k : FuncId) : TH := (get Tryz_HL k).getD {}
theorem Tryz_ks : KsOK Tryz.prog [22, 115] := ⟨ksOK_one (fn := Tryz.f22) (c := Tryz.f22.body.getD .skip) (by kernel_rfl) (by kernel_rfl) (by kernel_rfl), ksOK_one (fn := Tryz.f115) (c := Tryz.f115.body.getD .skip) (by kernel_rfl) (by kernel_rfl) (by kernel_rfl), trivial⟩
def auto9 : Option Bool := some true
theorem auto9_run : autoR Tryz.prog Tryz_HH [22, 115] [shaK_s] 400 30 9 = some (.pv (.b true), []) := by kernel_rfl
def auto9_s : Ent := smF ⟨9, [], [], [], []⟩ [] Bool (fun _ => auto9) cs1 fun _ z => (xb z, [])
theorem auto9_ok : SmOK Tryz.prog auto9_s := auto_ok Tryz.prog (fun _ => rfl) Tryz_draw (base := [shaK_s]) ⟨shaK_ok, trivial⟩ Tryz_ks auto9_run
end Go.Rx
end
set_option maxRecDepth 100000
noncomputable section
namespace Go.Rx
open Go.Proofs
noncomputable def Tryz_b11 : Code := Tryz.f11.body.getD .skip
theorem Tryz_F11 : FnF Tryz.prog 11 Tryz.f11 Tryz_b11 := ⟨Tryz_draw, by kernel_rfl, by kernel_rfl, by kernel_rfl⟩
def rolodexref12_Few_H : TH := { live := [(0, [1]), (1, [1, 8]), (2, [2]), (3, [1, 3]), (4, [1, 3, 13]), (5, [1, 3]), (6, [1, 3, 23]), (7, [2]), (8, [1, 3, 4]), (9, [1, 3, 4, 32]), (10, [1, 3, 4]), (11, [1, 3, 4, 46]), (12, [2]), (13, [2])] }
def rolodexref12_Few_E (N : Nat) : List Ent := []
theorem rolodexref12_Few_Eok (N : Nat) : SmAll Tryz.prog (rolodexref12_Few_E N) := trivial
abbrev rolodexref12_Few_l9_F := T_api_Manifest × Int
abbrev rolodexref12_Few_l9_Y := Unit ⊕ (Int × Bool)
def rolodexref12_Few_l9_o (f : rolodexref12_Few_l9_F) : rolodexref12_Few_l9_Y → Ex × TSt
 | .inl y => (.ret, ⟨0, 47, [], [(2, .bc false)], [], false, []⟩)
 | .inr y => (.exit 2, ⟨0, 47, [], [(1, .p 10 [] 0), (3, xi f.2), (4, xi y.1), (32, xb y.2)], [(10, .cell false (.tv t_api_Manifest f.1))], false, []⟩)
def rolodexref12_Few_l9_L (N : Nat) : List (Nat × LEnt) := []
abbrev rolodexref12_Few_l9_V := Int
def rolodexref12_Few_l9_p : SP := ⟨0, 47, [], [(1, .k (.p 10 [] 0)), (3, .x (.i .i64)), (4, .x (.i .i64))], [(10, .cell false (.x t_api_Manifest))], false, []⟩
def rolodexref12_Few_l9_h (f : rolodexref12_Few_l9_F) (v : rolodexref12_Few_l9_V) : TSt := fillS rolodexref12_Few_l9_p [dv t_api_Manifest f.1, dv (.i .i64) f.2, dv (.i .i64) v]
def rolodexref12_Few_l9_t (N : Nat) (o_9 : T_api_Manifest) (s3_9 : Int) (v : rolodexref12_Few_l9_V) : Tree (rolodexref12_Few_l9_V ⊕ rolodexref12_Few_l9_Y) :=
 .bind (getI (T_api_Manifest.L o_9) s3_9) fun e1 =>
 .cond (decide (v < (((T_api_Line.F e1).length : Nat) : Int))) (
 .bind (getI (T_api_Manifest.L o_9) s3_9) fun e2 =>
 .bind (getI (T_api_Line.F e2) v) fun e3 =>
 .cond (decide (((40 : Int)) < (((T_api_Entry.B e3).length : Nat) : Int))) (
 .ret (.inr (.inl ()))) <|
 .chk (in64 (v + 1)) <|
 .ret (.inl (v + 1))) <|
 .ret (.inr (.inr ((v, decide (v < (((T_api_Line.F e1).length : Nat) : Int))))))
def rolodexref12_Few_l9_n (N n : Nat) (f : rolodexref12_Few_l9_F) (v : rolodexref12_Few_l9_V) : Option rolodexref12_Few_l9_Y := loopG (rolodexref12_Few_l9_t N f.1 f.2) some n v
theorem rolodexref12_Few_l9_q (N : Nat) (f : rolodexref12_Few_l9_F) (n : Nat) (v : rolodexref12_Few_l9_V) (y : rolodexref12_Few_l9_Y) (h : rolodexref12_Few_l9_n N n f v = some y) : LG Tryz.prog rolodexref12_Few_H 11 (lookC (lookC Tryz_b11 4) 9) (rolodexref12_Few_l9_h f v) (rolodexref12_Few_l9_o f y) :=
  loop_g Tryz_draw (E := rolodexref12_Few_E N) (L := lenv (rolodexref12_Few_l9_L N)) (st := rolodexref12_Few_l9_o f) (g := some) (R := rolodexref12_Few_l9_o f) (rolodexref12_Few_Eok N) (lenv_ok (by kernel_rfl) trivial) (rg0 (by kernel_rfl)) (fun v => by kernel_rfl) (good_self (st := rolodexref12_Few_l9_o f) fun y => by rcases y with _ | _ <;> rfl) n v y h
def rolodexref12_Few_l9 (N : Nat) (o_9 : T_api_Manifest) (s3_9 : Int) (s4_9 : Int) : Option rolodexref12_Few_l9_Y := rolodexref12_Few_l9_n N N (o_9, s3_9) s4_9
def rolodexref12_Few_l9_s (N : Nat) : LEnt := smL rolodexref12_Few_l9_p [t_api_Manifest, (.i .i64), (.i .i64)] rolodexref12_Few_l9_Y (fun x => rolodexref12_Few_l9 N x.1 x.2.1 x.2.2.1) (csS cs1) fun x => rolodexref12_Few_l9_o (x.1, x.2.1)
theorem rolodexref12_Few_l9_ok (N : Nat) : LsOK Tryz.prog rolodexref12_Few_H 11 (lookC (lookC Tryz_b11 4) 9) (rolodexref12_Few_l9_s N) := smL_ok fun x z h => rolodexref12_Few_l9_q N (x.1, x.2.1) N x.2.2.1 z h
abbrev rolodexref12_Few_l4_F := T_api_Manifest
abbrev rolodexref12_Few_l4_Y := Unit ⊕ (Int × Bool)
def rolodexref12_Few_l4_o (f : rolodexref12_Few_l4_F) : rolodexref12_Few_l4_Y → Ex × TSt
 | .inl y => (.ret, ⟨0, 47, [], [(2, .bc false)], [], false, []⟩)
 | .inr y => (.exit 0, ⟨0, 47, [], [(1, .p 10 [] 0), (3, xi y.1), (13, xb y.2)], [(10, .cell false (.tv t_api_Manifest f))], false, []⟩)
def rolodexref12_Few_l4_L (N : Nat) : List (Nat × LEnt) := [(9, rolodexref12_Few_l9_s N)]
abbrev rolodexref12_Few_l4_V := Int
def rolodexref12_Few_l4_p : SP := ⟨0, 47, [], [(1, .k (.p 10 [] 0)), (3, .x (.i .i64))], [(10, .cell false (.x t_api_Manifest))], false, []⟩
def rolodexref12_Few_l4_h (f : rolodexref12_Few_l4_F) (v : rolodexref12_Few_l4_V) : TSt := fillS rolodexref12_Few_l4_p [dv t_api_Manifest f, dv (.i .i64) v]
def rolodexref12_Few_l4_t (N : Nat) (o_4 : T_api_Manifest) (v : rolodexref12_Few_l4_V) : Tree (rolodexref12_Few_l4_V ⊕ rolodexref12_Few_l4_Y) :=
 .cond (decide (v < (((T_api_Manifest.L o_4).length : Nat) : Int))) (
 .bind (getI (T_api_Manifest.L o_4) v) fun e1 =>
 .cond (decide (((12 : Int)) < (((T_api_Line.F e1).length : Nat) : Int))) (
 .ret (.inr (.inl ()))) <|
 .bind (rolodexref12_Few_l9 N o_4 v 0) fun z2 =>
 .sum z2 (fun z3 =>
 .ret (.inr (.inl ()))) fun z3 =>
 .chk (in64 (v + 1)) <|
 .ret (.inl (v + 1))) <|
 .ret (.inr (.inr ((v, decide (v < (((T_api_Manifest.L o_4).length : Nat) : Int))))))
def rolodexref12_Few_l4_n (N n : Nat) (f : rolodexref12_Few_l4_F) (v : rolodexref12_Few_l4_V) : Option rolodexref12_Few_l4_Y := loopG (rolodexref12_Few_l4_t N f) some n v
theorem rolodexref12_Few_l4_q (N : Nat) (f : rolodexref12_Few_l4_F) (n : Nat) (v : rolodexref12_Few_l4_V) (y : rolodexref12_Few_l4_Y) (h : rolodexref12_Few_l4_n N n f v = some y) : LG Tryz.prog rolodexref12_Few_H 11 (lookC Tryz_b11 4) (rolodexref12_Few_l4_h f v) (rolodexref12_Few_l4_o f y) :=
  loop_g Tryz_draw (E := rolodexref12_Few_E N) (L := lenv (rolodexref12_Few_l4_L N)) (st := rolodexref12_Few_l4_o f) (g := some) (R := rolodexref12_Few_l4_o f) (rolodexref12_Few_Eok N) (lenv_ok (by kernel_rfl) ⟨rolodexref12_Few_l9_ok N, trivial⟩) (rg0 (by kernel_rfl)) (fun v => by kernel_rfl) (good_self (st := rolodexref12_Few_l4_o f) fun y => by rcases y with _ | _ <;> rfl) n v y h
def rolodexref12_Few_l4 (N : Nat) (o_4 : T_api_Manifest) (s3_4 : Int) : Option rolodexref12_Few_l4_Y := rolodexref12_Few_l4_n N N o_4 s3_4
def rolodexref12_Few_l4_s (N : Nat) : LEnt := smL rolodexref12_Few_l4_p [t_api_Manifest, (.i .i64)] rolodexref12_Few_l4_Y (fun x => rolodexref12_Few_l4 N x.1 x.2.1) (csS cs1) fun x => rolodexref12_Few_l4_o x.1
theorem rolodexref12_Few_l4_ok (N : Nat) : LsOK Tryz.prog rolodexref12_Few_H 11 (lookC Tryz_b11 4) (rolodexref12_Few_l4_s N) := smL_ok fun x z h => rolodexref12_Few_l4_q N x.1 N x.2.1 z h
def rolodexref12_Few_o (z : Bool) : TV × THp := (xb z, [])
def rolodexref12_Few_t (N : Nat) (a0 : T_api_Manifest) : Tree (Bool) :=
 .cond (decide (((14 : Int)) < (((T_api_Manifest.L a0).length : Nat) : Int))) (
 .ret false) <|
 .bind (rolodexref12_Few_l4 N a0 0) fun z1 =>
 .sum z1 (fun z2 =>
 .ret false) fun z2 =>
 .ret true
def rolodexref12_Few (N : Nat) (a0 : T_api_Manifest) : Option (Bool) := (rolodexref12_Few_t N a0).run some
def rolodexref12_Few_L (N : Nat) : List (Nat × LEnt) := [(4, rolodexref12_Few_l4_s N)]
def rolodexref12_Few_s (N : Nat) : Ent := smF ⟨11, [], [.x t_api_Manifest], [], []⟩ [t_api_Manifest] (Bool) (fun x => rolodexref12_Few N x.1) cs1 fun _ => rolodexref12_Few_o
theorem rolodexref12_Few_ok (N : Nat) : SmOK Tryz.prog (rolodexref12_Few_s N) :=
  fn_ok (H := rolodexref12_Few_H) (L := lenv (rolodexref12_Few_L N)) (ts := [t_api_Manifest]) (T := fun x => rolodexref12_Few_t N x.1) 0 Tryz_F11 (rolodexref12_Few_Eok N) (lenv_ok (by kernel_rfl) ⟨rolodexref12_Few_l4_ok N, trivial⟩) (rg0 (by kernel_rfl)) fun x => by kernel_rfl
noncomputable def Tryz_b106 : Code := Tryz.f106.body.getD .skip
theorem Tryz_F106 : FnF Tryz.prog 106 Tryz.f106 Tryz_b106 := ⟨Tryz_draw, by kernel_rfl, by kernel_rfl, by kernel_rfl⟩
def manifest_blocks_H : TH := { live := [(0, [0]), (1, [0, 4]), (2, [2]), (3, [2])] }
def manifest_blocks_E (N : Nat) : List Ent := []
theorem manifest_blocks_Eok (N : Nat) : SmAll Tryz.prog (manifest_blocks_E N) := trivial
def manifest_blocks_o (z : Int) : TV × THp := (xi z, [])
def manifest_blocks_t (a0 : Int) : Tree (Int) :=
 .cond (decide (a0 < ((24 : Int)))) (
 .ret 0) <|
 .chk ((8 : Int) ≠ 0) <|
 .chk (in64 (a0.tdiv 8)) <|
 .ret (a0.tdiv 8)
def manifest_blocks (a0 : Int) : Option (Int) := (manifest_blocks_t a0).run some
def manifest_blocks_L : List (Nat × LEnt) := []
def manifest_blocks_s : Ent := smF ⟨106, [], [.x (.i .i64)], [], []⟩ [(.i .i64)] (Int) (fun x => manifest_blocks x.1) cs1 fun _ => manifest_blocks_o
theorem manifest_blocks_ok : SmOK Tryz.prog (manifest_blocks_s) :=
  fn_ok (H := manifest_blocks_H) (L := lenv (manifest_blocks_L)) (ts := [(.i .i64)]) (T := fun x => manifest_blocks_t x.1) 0 Tryz_F106 (manifest_blocks_Eok 0) (lenv_ok (by kernel_rfl) trivial) (rg0 (by kernel_rfl)) fun x => by kernel_rfl
noncomputable def Tryz_b79 : Code := Tryz.f79.body.getD .skip
theorem Tryz_F79 : FnF Tryz.prog 79 Tryz.f79 Tryz_b79 := ⟨Tryz_draw, by kernel_rfl, by kernel_rfl, by kernel_rfl⟩
def stamp_May_H : TH := { live := [(0, [1]), (1, [2])], dec := [6, 10, 15, 20] }
def stamp_May_E (N : Nat) : List Ent := []
theorem stamp_May_Eok (N : Nat) : SmAll Tryz.prog (stamp_May_E N) := trivial
def stamp_May_o (z : Bool) : TV × THp := (xb z, [])
def stamp_May_t (a0 : T_api_Stamp) : Tree (Bool) :=
 .cond (eqE t_api_Stamp a0 (T_api_Stamp.mk 0 0)) (
 .ret true) <|
 .cond (decide (((0 : Int)) < (T_api_Stamp.N a0))) (
 .cond (decide ((T_api_Stamp.N a0) ≤ ((1099511627776 : Int)))) (
 .cond (decide (((0 : Int)) ≤ (T_api_Stamp.Rep a0))) (
 .ret (decide ((T_api_Stamp.Rep a0) < ((8 : Int))))) <|
 .ret false) <|
 .ret false) <|
 .ret false
def stamp_May (a0 : T_api_Stamp) : Option (Bool) := (stamp_May_t a0).run some
def stamp_May_L : List (Nat × LEnt) := []
def stamp_May_s : Ent := smF ⟨79, [], [.x t_api_Stamp], [], []⟩ [t_api_Stamp] (Bool) (fun x => stamp_May x.1) cs1 fun _ => stamp_May_o
theorem stamp_May_ok : SmOK Tryz.prog (stamp_May_s) :=
  fn_ok (H := stamp_May_H) (L := lenv (stamp_May_L)) (ts := [t_api_Stamp]) (T := fun x => stamp_May_t x.1) 0 Tryz_F79 (stamp_May_Eok 0) (lenv_ok (by kernel_rfl) trivial) (rg0 (by kernel_rfl)) fun x => by kernel_rfl
noncomputable def Tryz_b120 : Code := Tryz.f120.body.getD .skip
theorem Tryz_F120 : FnF Tryz.prog 120 Tryz.f120 Tryz_b120 := ⟨Tryz_draw, by kernel_rfl, by kernel_rfl, by kernel_rfl⟩
def cmp_isNaN_int_H : TH := { live := [(0, [0]), (1, [2])] }
def cmp_isNaN_int_E (N : Nat) : List Ent := []
theorem cmp_isNaN_int_Eok (N : Nat) : SmAll Tryz.prog (cmp_isNaN_int_E N) := trivial
def cmp_isNaN_int_o (a0 : Int) (z : Unit) : TV × THp := (xb (!decide (a0 = a0)), [])
def cmp_isNaN_int_t (a0 : Int) : Tree (Unit) :=
 .ret ()
def cmp_isNaN_int (a0 : Int) : Option (Unit) := (cmp_isNaN_int_t a0).run some
def cmp_isNaN_int_L : List (Nat × LEnt) := []
def cmp_isNaN_int_s : Ent := smF ⟨120, [], [.x (.i .i64)], [], []⟩ [(.i .i64)] (Unit) (fun x => cmp_isNaN_int x.1) cs1 fun x => cmp_isNaN_int_o x.1
theorem cmp_isNaN_int_ok : SmOK Tryz.prog (cmp_isNaN_int_s) :=
  fn_ok (H := cmp_isNaN_int_H) (L := lenv (cmp_isNaN_int_L)) (ts := [(.i .i64)]) (T := fun x => cmp_isNaN_int_t x.1) 0 Tryz_F120 (cmp_isNaN_int_Eok 0) (lenv_ok (by kernel_rfl) trivial) (rg0 (by kernel_rfl)) fun x => by kernel_rfl
noncomputable def Tryz_b109 : Code := Tryz.f109.body.getD .skip
theorem Tryz_F109 : FnF Tryz.prog 109 Tryz.f109 Tryz_b109 := ⟨Tryz_draw, by kernel_rfl, by kernel_rfl, by kernel_rfl⟩
def cmp_Compare_int_H : TH := { live := [(0, [0, 1]), (1, [0, 1, 5]), (2, [0, 1, 5, 6]), (3, [0, 1, 6, 11]), (4, [12]), (5, [4]), (6, [4]), (7, [0, 1, 13]), (8, [4]), (9, [0, 1, 16]), (10, [4]), (11, [19]), (12, [4]), (13, [4])] }
def cmp_Compare_int_E (N : Nat) : List Ent := [cmp_isNaN_int_s]
theorem cmp_Compare_int_Eok (N : Nat) : SmAll Tryz.prog (cmp_Compare_int_E N) := ⟨cmp_isNaN_int_ok, trivial⟩
def cmp_Compare_int_o (z : Int) : TV × THp := (xi z, [])
def cmp_Compare_int_t (a0 : Int) (a1 : Int) : Tree (Int) :=
 .bind (cmp_isNaN_int a0) fun r1 =>
 .bind (cmp_isNaN_int a1) fun r2 =>
 .cond (!decide (a0 = a0)) (
 .cond (!decide (a1 = a1)) (
 .ret 0) <|
 .ret (-1)) <|
 .cond (!decide (a1 = a1)) (
 .ret 1) <|
 .cond (decide (a0 < a1)) (
 .ret (-1)) <|
 .cond (decide (a1 < a0)) (
 .ret 1) <|
 .ret 0
def cmp_Compare_int (a0 : Int) (a1 : Int) : Option (Int) := (cmp_Compare_int_t a0 a1).run some
def cmp_Compare_int_L : List (Nat × LEnt) := []
def cmp_Compare_int_s : Ent := smF ⟨109, [], [.x (.i .i64), .x (.i .i64)], [], []⟩ [(.i .i64), (.i .i64)] (Int) (fun x => cmp_Compare_int x.1 x.2.1) cs1 fun _ => cmp_Compare_int_o
theorem cmp_Compare_int_ok : SmOK Tryz.prog (cmp_Compare_int_s) :=
  fn_ok (H := cmp_Compare_int_H) (L := lenv (cmp_Compare_int_L)) (ts := [(.i .i64), (.i .i64)]) (T := fun x => cmp_Compare_int_t x.1 x.2.1) 0 Tryz_F109 (cmp_Compare_int_Eok 0) (lenv_ok (by kernel_rfl) trivial) (rg0 (by kernel_rfl)) fun x => by kernel_rfl
noncomputable def Tryz_b108 : Code := Tryz.f108.body.getD .skip
theorem Tryz_F108 : FnF Tryz.prog 108 Tryz.f108 Tryz_b108 := ⟨Tryz_draw, by kernel_rfl, by kernel_rfl, by kernel_rfl⟩
def cmp_Or_int_H : TH := { live := [(0, [0]), (1, [0, 3]), (2, [3, 6, 7, 8]), (3, [3, 6, 7, 8, 9]), (4, [3, 5, 6, 7, 8]), (5, [3, 5, 6, 7, 8, 14]), (6, [2]), (7, [3, 6, 7, 8]), (8, [2])] }
def cmp_Or_int_E (N : Nat) : List Ent := []
theorem cmp_Or_int_Eok (N : Nat) : SmAll Tryz.prog (cmp_Or_int_E N) := trivial
abbrev cmp_Or_int_l3_F := List Int × Int
abbrev cmp_Or_int_l3_Y := Int ⊕ (Int × Bool)
def cmp_Or_int_l3_o (f : cmp_Or_int_l3_F) : cmp_Or_int_l3_Y → Ex × TSt
 | .inl y => (.ret, ⟨0, 18, [], [(2, xi y)], [], false, []⟩)
 | .inr y => (.exit 0, ⟨0, 18, [], [(3, .ic .i64 0), (6, .tv (.sl 1 (.i .i64)) f.1), (7, xi f.2), (8, xi y.1), (9, xb y.2)], [], false, []⟩)
def cmp_Or_int_l3_L (N : Nat) : List (Nat × LEnt) := []
abbrev cmp_Or_int_l3_V := Int
def cmp_Or_int_l3_p : SP := ⟨0, 18, [], [(3, .k (.ic .i64 0)), (6, .x (.sl 1 (.i .i64))), (7, .x (.i .i64)), (8, .x (.i .i64))], [], false, []⟩
def cmp_Or_int_l3_h (f : cmp_Or_int_l3_F) (v : cmp_Or_int_l3_V) : TSt := fillS cmp_Or_int_l3_p [dv (.sl 1 (.i .i64)) f.1, dv (.i .i64) f.2, dv (.i .i64) v]
def cmp_Or_int_l3_t (N : Nat) (s6_3 : List Int) (s7_3 : Int) (v : cmp_Or_int_l3_V) : Tree (cmp_Or_int_l3_V ⊕ cmp_Or_int_l3_Y) :=
 .cond (decide (v < s7_3)) (
 .bind (getI s6_3 v) fun e1 =>
 .cond (!decide (e1 = ((0 : Int)))) (
 .ret (.inr (.inl e1))) <|
 .chk (in64 (v + 1)) <|
 .ret (.inl (v + 1))) <|
 .ret (.inr (.inr ((v, decide (v < s7_3)))))
def cmp_Or_int_l3_n (N n : Nat) (f : cmp_Or_int_l3_F) (v : cmp_Or_int_l3_V) : Option cmp_Or_int_l3_Y := loopG (cmp_Or_int_l3_t N f.1 f.2) some n v
theorem cmp_Or_int_l3_q (N : Nat) (f : cmp_Or_int_l3_F) (n : Nat) (v : cmp_Or_int_l3_V) (y : cmp_Or_int_l3_Y) (h : cmp_Or_int_l3_n N n f v = some y) : LG Tryz.prog cmp_Or_int_H 108 (lookC Tryz_b108 3) (cmp_Or_int_l3_h f v) (cmp_Or_int_l3_o f y) :=
  loop_g Tryz_draw (E := cmp_Or_int_E N) (L := lenv (cmp_Or_int_l3_L N)) (st := cmp_Or_int_l3_o f) (g := some) (R := cmp_Or_int_l3_o f) (cmp_Or_int_Eok N) (lenv_ok (by kernel_rfl) trivial) (rg0 (by kernel_rfl)) (fun v => by kernel_rfl) (good_self (st := cmp_Or_int_l3_o f) fun y => by rcases y with _ | _ <;> rfl) n v y h
def cmp_Or_int_l3 (N : Nat) (s6_3 : List Int) (s7_3 : Int) (s8_3 : Int) : Option cmp_Or_int_l3_Y := cmp_Or_int_l3_n N N (s6_3, s7_3) s8_3
def cmp_Or_int_l3_s (N : Nat) : LEnt := smL cmp_Or_int_l3_p [(.sl 1 (.i .i64)), (.i .i64), (.i .i64)] cmp_Or_int_l3_Y (fun x => cmp_Or_int_l3 N x.1 x.2.1 x.2.2.1) (csS cs1) fun x => cmp_Or_int_l3_o (x.1, x.2.1)
theorem cmp_Or_int_l3_ok (N : Nat) : LsOK Tryz.prog cmp_Or_int_H 108 (lookC Tryz_b108 3) (cmp_Or_int_l3_s N) := smL_ok fun x z h => cmp_Or_int_l3_q N (x.1, x.2.1) N x.2.2.1 z h
def cmp_Or_int_o (z : Int) : TV × THp := (xi z, [])
def cmp_Or_int_t (N : Nat) (a0 : List Int) : Tree (Int) :=
 .bind (cmp_Or_int_l3 N a0 ((a0.length : Nat) : Int) 0) fun z1 =>
 .sum z1 (fun z2 =>
 .ret z2) fun z2 =>
 .ret 0
def cmp_Or_int (N : Nat) (a0 : List Int) : Option (Int) := (cmp_Or_int_t N a0).run some
def cmp_Or_int_L (N : Nat) : List (Nat × LEnt) := [(3, cmp_Or_int_l3_s N)]
def cmp_Or_int_s (N : Nat) : Ent := smF ⟨108, [], [.x (.sl 1 (.i .i64))], [], []⟩ [(.sl 1 (.i .i64))] (Int) (fun x => cmp_Or_int N x.1) cs1 fun _ => cmp_Or_int_o
theorem cmp_Or_int_ok (N : Nat) : SmOK Tryz.prog (cmp_Or_int_s N) :=
  fn_ok (H := cmp_Or_int_H) (L := lenv (cmp_Or_int_L N)) (ts := [(.sl 1 (.i .i64))]) (T := fun x => cmp_Or_int_t N x.1) 0 Tryz_F108 (cmp_Or_int_Eok N) (lenv_ok (by kernel_rfl) ⟨cmp_Or_int_l3_ok N, trivial⟩) (rg0 (by kernel_rfl)) fun x => by kernel_rfl
noncomputable def Tryz_b86 : Code := Tryz.f86.body.getD .skip
theorem Tryz_F86 : FnF Tryz.prog 86 Tryz.f86 Tryz_b86 := ⟨Tryz_draw, by kernel_rfl, by kernel_rfl, by kernel_rfl⟩
def stamp_Less_H : TH := { live := [(0, [2, 3]), (1, [4])], dec := [8] }
def stamp_Less_E (N : Nat) : List Ent := [cmp_Compare_int_s, cmp_Or_int_s N]
theorem stamp_Less_Eok (N : Nat) : SmAll Tryz.prog (stamp_Less_E N) := ⟨cmp_Compare_int_ok, cmp_Or_int_ok N, trivial⟩
def stamp_Less_o (z : Bool) : TV × THp := (xb z, [])
def stamp_Less_t (N : Nat) (a0 : T_api_Stamp) (a1 : T_api_Stamp) : Tree (Bool) :=
 .cond (!(eqE t_api_Stamp a0 a1)) (
 .bind (cmp_Compare_int (T_api_Stamp.N a0) (T_api_Stamp.N a1)) fun r1 =>
 .bind (cmp_Compare_int (T_api_Stamp.Rep a0) (T_api_Stamp.Rep a1)) fun r2 =>
 .bind (cmp_Or_int N [r1, r2]) fun r3 =>
 .ret (decide (r3 < ((0 : Int))))) <|
 .ret false
def stamp_Less (N : Nat) (a0 : T_api_Stamp) (a1 : T_api_Stamp) : Option (Bool) := (stamp_Less_t N a0 a1).run some
def stamp_Less_L (N : Nat) : List (Nat × LEnt) := []
def stamp_Less_s (N : Nat) : Ent := smF ⟨86, [], [.x t_api_Stamp, .x t_api_Stamp], [], []⟩ [t_api_Stamp, t_api_Stamp] (Bool) (fun x => stamp_Less N x.1 x.2.1) cs1 fun _ => stamp_Less_o
theorem stamp_Less_ok (N : Nat) : SmOK Tryz.prog (stamp_Less_s N) :=
  fn_ok (H := stamp_Less_H) (L := lenv (stamp_Less_L N)) (ts := [t_api_Stamp, t_api_Stamp]) (T := fun x => stamp_Less_t N x.1 x.2.1) 0 Tryz_F86 (stamp_Less_Eok N) (lenv_ok (by kernel_rfl) trivial) (rg0 (by kernel_rfl)) fun x => by kernel_rfl
noncomputable def Tryz_b78 : Code := Tryz.f78.body.getD .skip
theorem Tryz_F78 : FnF Tryz.prog 78 Tryz.f78 Tryz_b78 := ⟨Tryz_draw, by kernel_rfl, by kernel_rfl, by kernel_rfl⟩
def manifest_entry_H : TH := { live := [(0, [2, 3]), (1, [4])], dec := [8, 13, 18, 23, 32, 37] }
def manifest_entry_E (N : Nat) : List Ent := [manifest_blocks_s, stamp_May_s, stamp_Less_s N]
theorem manifest_entry_Eok (N : Nat) : SmAll Tryz.prog (manifest_entry_E N) := ⟨manifest_blocks_ok, stamp_May_ok, stamp_Less_ok N, trivial⟩
def manifest_entry_o (z : Bool) : TV × THp := (xb z, [])
def manifest_entry_t (N : Nat) (a0 : T_api_Entry) (a1 : T_api_Stamp) : Tree (Bool) :=
 .cond (decide (((0 : Int)) ≤ (T_api_Entry.No a0))) (
 .cond (decide ((T_api_Entry.No a0) < ((8 : Int)))) (
 .cond (decide (((0 : Int)) ≤ (T_api_Entry.Len a0))) (
 .cond (decide ((T_api_Entry.Len a0) ≤ ((200 : Int)))) (
 .bind (manifest_blocks (T_api_Entry.Len a0)) fun r1 =>
 .cond (decide ((((T_api_Entry.B a0).length : Nat) : Int) = r1)) (
 .bind (stamp_May (T_api_Entry.S a0)) fun r2 =>
 .cond r2 (
 .bind (stamp_Less N a1 (T_api_Entry.S a0)) fun r3 =>
 .ret r3) <|
 .ret false) <|
 .ret false) <|
 .ret false) <|
 .ret false) <|
 .ret false) <|
 .ret false
def manifest_entry (N : Nat) (a0 : T_api_Entry) (a1 : T_api_Stamp) : Option (Bool) := (manifest_entry_t N a0 a1).run some
def manifest_entry_L (N : Nat) : List (Nat × LEnt) := []
def manifest_entry_s (N : Nat) : Ent := smF ⟨78, [], [.x t_api_Entry, .x t_api_Stamp], [], []⟩ [t_api_Entry, t_api_Stamp] (Bool) (fun x => manifest_entry N x.1 x.2.1) cs1 fun _ => manifest_entry_o
theorem manifest_entry_ok (N : Nat) : SmOK Tryz.prog (manifest_entry_s N) :=
  fn_ok (H := manifest_entry_H) (L := lenv (manifest_entry_L N)) (ts := [t_api_Entry, t_api_Stamp]) (T := fun x => manifest_entry_t N x.1 x.2.1) 0 Tryz_F78 (manifest_entry_Eok N) (lenv_ok (by kernel_rfl) trivial) (rg0 (by kernel_rfl)) fun x => by kernel_rfl
noncomputable def Tryz_b44 : Code := Tryz.f44.body.getD .skip
theorem Tryz_F44 : FnF Tryz.prog 44 Tryz.f44 Tryz_b44 := ⟨Tryz_draw, by kernel_rfl, by kernel_rfl, by kernel_rfl⟩
def manifest_line_H : TH := { live := [(0, [1]), (1, [1, 6, 7, 8]), (2, [1, 6, 7, 8, 9]), (3, [1, 3, 4, 6, 7, 8]), (4, [1, 6, 7, 8, 33]), (5, [2]), (6, [1, 6, 7, 8]), (7, [2])], dec := [18, 21, 38, 43] }
def manifest_line_E (N : Nat) : List Ent := [manifest_entry_s N, stamp_May_s]
theorem manifest_line_Eok (N : Nat) : SmAll Tryz.prog (manifest_line_E N) := ⟨manifest_entry_ok N, stamp_May_ok, trivial⟩
abbrev manifest_line_l2_F := T_api_Line × List T_api_Entry × Int
abbrev manifest_line_l2_Y := Unit ⊕ (Int × Bool)
def manifest_line_l2_o (f : manifest_line_l2_F) : manifest_line_l2_Y → Ex × TSt
 | .inl y => (.ret, ⟨0, 50, [], [(2, .bc false)], [], false, []⟩)
 | .inr y => (.exit 0, ⟨0, 50, [], [(1, .p 10 [] 0), (6, .tv (.sl 37 t_api_Entry) f.2.1), (7, xi f.2.2), (8, xi y.1), (9, xb y.2)], [(10, .cell false (.tv t_api_Line f.1))], false, []⟩)
def manifest_line_l2_L (N : Nat) : List (Nat × LEnt) := []
abbrev manifest_line_l2_V := Int
def manifest_line_l2_p : SP := ⟨0, 50, [], [(1, .k (.p 10 [] 0)), (6, .x (.sl 37 t_api_Entry)), (7, .x (.i .i64)), (8, .x (.i .i64))], [(10, .cell false (.x t_api_Line))], false, []⟩
def manifest_line_l2_h (f : manifest_line_l2_F) (v : manifest_line_l2_V) : TSt := fillS manifest_line_l2_p [dv t_api_Line f.1, dv (.sl 37 t_api_Entry) f.2.1, dv (.i .i64) f.2.2, dv (.i .i64) v]
def manifest_line_l2_t (N : Nat) (o_2 : T_api_Line) (s6_2 : List T_api_Entry) (s7_2 : Int) (v : manifest_line_l2_V) : Tree (manifest_line_l2_V ⊕ manifest_line_l2_Y) :=
 .cond (decide (v < s7_2)) (
 .bind (getI s6_2 v) fun e1 =>
 .bind (manifest_entry N e1 (T_api_Line.Dead o_2)) fun r2 =>
 .cond (!r2) (
 .ret (.inr (.inl ()))) <|
 .cond (decide (((0 : Int)) < v)) (
 .chk (in64 (v - 1)) <|
 .bind (getI (T_api_Line.F o_2) (v - 1)) fun e3 =>
 .cond (decide ((T_api_Entry.No e1) ≤ (T_api_Entry.No e3))) (
 .ret (.inr (.inl ()))) <|
 .chk (in64 (v + 1)) <|
 .ret (.inl (v + 1))) <|
 .chk (in64 (v + 1)) <|
 .ret (.inl (v + 1))) <|
 .ret (.inr (.inr ((v, decide (v < s7_2)))))
def manifest_line_l2_n (N n : Nat) (f : manifest_line_l2_F) (v : manifest_line_l2_V) : Option manifest_line_l2_Y := loopG (manifest_line_l2_t N f.1 f.2.1 f.2.2) some n v
theorem manifest_line_l2_q (N : Nat) (f : manifest_line_l2_F) (n : Nat) (v : manifest_line_l2_V) (y : manifest_line_l2_Y) (h : manifest_line_l2_n N n f v = some y) : LG Tryz.prog manifest_line_H 44 (lookC Tryz_b44 2) (manifest_line_l2_h f v) (manifest_line_l2_o f y) :=
  loop_g Tryz_draw (E := manifest_line_E N) (L := lenv (manifest_line_l2_L N)) (st := manifest_line_l2_o f) (g := some) (R := manifest_line_l2_o f) (manifest_line_Eok N) (lenv_ok (by kernel_rfl) trivial) (rg0 (by kernel_rfl)) (fun v => by kernel_rfl) (good_self (st := manifest_line_l2_o f) fun y => by rcases y with _ | _ <;> rfl) n v y h
def manifest_line_l2 (N : Nat) (o_2 : T_api_Line) (s6_2 : List T_api_Entry) (s7_2 : Int) (s8_2 : Int) : Option manifest_line_l2_Y := manifest_line_l2_n N N (o_2, s6_2, s7_2) s8_2
def manifest_line_l2_s (N : Nat) : LEnt := smL manifest_line_l2_p [t_api_Line, (.sl 37 t_api_Entry), (.i .i64), (.i .i64)] manifest_line_l2_Y (fun x => manifest_line_l2 N x.1 x.2.1 x.2.2.1 x.2.2.2.1) (csS cs1) fun x => manifest_line_l2_o (x.1, x.2.1, x.2.2.1)
theorem manifest_line_l2_ok (N : Nat) : LsOK Tryz.prog manifest_line_H 44 (lookC Tryz_b44 2) (manifest_line_l2_s N) := smL_ok fun x z h => manifest_line_l2_q N (x.1, x.2.1, x.2.2.1) N x.2.2.2.1 z h
def manifest_line_o (z : Bool) : TV × THp := (xb z, [])
def manifest_line_t (N : Nat) (a0 : T_api_Line) : Tree (Bool) :=
 .bind (manifest_line_l2 N a0 (T_api_Line.F a0) (((T_api_Line.F a0).length : Nat) : Int) 0) fun z1 =>
 .sum z1 (fun z2 =>
 .ret false) fun z2 =>
 .bind (stamp_May (T_api_Line.Dead a0)) fun r3 =>
 .cond r3 (
 .cond (decide (((0 : Int)) < (((T_api_Line.F a0).length : Nat) : Int))) (
 .ret true) <|
 .ret (!(eqE t_api_Stamp (T_api_Line.Dead a0) (T_api_Stamp.mk 0 0)))) <|
 .ret false
def manifest_line (N : Nat) (a0 : T_api_Line) : Option (Bool) := (manifest_line_t N a0).run some
def manifest_line_L (N : Nat) : List (Nat × LEnt) := [(2, manifest_line_l2_s N)]
def manifest_line_s (N : Nat) : Ent := smF ⟨44, [], [.x t_api_Line], [], []⟩ [t_api_Line] (Bool) (fun x => manifest_line N x.1) cs1 fun _ => manifest_line_o
theorem manifest_line_ok (N : Nat) : SmOK Tryz.prog (manifest_line_s N) :=
  fn_ok (H := manifest_line_H) (L := lenv (manifest_line_L N)) (ts := [t_api_Line]) (T := fun x => manifest_line_t N x.1) 0 Tryz_F44 (manifest_line_Eok N) (lenv_ok (by kernel_rfl) ⟨manifest_line_l2_ok N, trivial⟩) (rg0 (by kernel_rfl)) fun x => by kernel_rfl
noncomputable def Tryz_b80 : Code := Tryz.f80.body.getD .skip
theorem Tryz_F80 : FnF Tryz.prog 80 Tryz.f80 Tryz_b80 := ⟨Tryz_draw, by kernel_rfl, by kernel_rfl, by kernel_rfl⟩
def bytes_Compare_H : TH := { live := [(0, [0, 1]), (1, [4])] }
def bytes_Compare_E (N : Nat) : List Ent := [bcmp_s]
theorem bytes_Compare_Eok (N : Nat) : SmAll Tryz.prog (bytes_Compare_E N) := ⟨bcmp_ok, trivial⟩
def bytes_Compare_o (z : Int) : TV × THp := (xi z, [])
def bytes_Compare_t (a0 : List UInt8) (a1 : List UInt8) : Tree (Int) :=
 .bind (bcmp a0 a1) fun r1 =>
 .ret r1
def bytes_Compare (a0 : List UInt8) (a1 : List UInt8) : Option (Int) := (bytes_Compare_t a0 a1).run some
def bytes_Compare_L : List (Nat × LEnt) := []
def bytes_Compare_s : Ent := smF ⟨80, [], [.x .bl, .x .bl], [], []⟩ [.bl, .bl] (Int) (fun x => bytes_Compare x.1 x.2.1) cs1 fun _ => bytes_Compare_o
theorem bytes_Compare_ok : SmOK Tryz.prog (bytes_Compare_s) :=
  fn_ok (H := bytes_Compare_H) (L := lenv (bytes_Compare_L)) (ts := [.bl, .bl]) (T := fun x => bytes_Compare_t x.1 x.2.1) 0 Tryz_F80 (bytes_Compare_Eok 0) (lenv_ok (by kernel_rfl) trivial) (rg0 (by kernel_rfl)) fun x => by kernel_rfl
noncomputable def Tryz_b45 : Code := Tryz.f45.body.getD .skip
theorem Tryz_F45 : FnF Tryz.prog 45 Tryz.f45 Tryz_b45 := ⟨Tryz_draw, by kernel_rfl, by kernel_rfl, by kernel_rfl⟩
def book_Less_H : TH := { live := [(0, [2, 3]), (1, [4])], dec := [8] }
def book_Less_E (N : Nat) : List Ent := [bytes_Compare_s]
theorem book_Less_Eok (N : Nat) : SmAll Tryz.prog (book_Less_E N) := ⟨bytes_Compare_ok, trivial⟩
def book_Less_o (z : Bool) : TV × THp := (xb z, [])
def book_Less_t (a0 : Vector UInt8 16) (a1 : Vector UInt8 16) : Tree (Bool) :=
 .cond (!(eqE (.ba 16) a0 a1)) (
 .bind (bytes_Compare a0.toList a1.toList) fun r1 =>
 .ret (decide (r1 < ((0 : Int))))) <|
 .ret false
def book_Less (a0 : Vector UInt8 16) (a1 : Vector UInt8 16) : Option (Bool) := (book_Less_t a0 a1).run some
def book_Less_L : List (Nat × LEnt) := []
def book_Less_s : Ent := smF ⟨45, [], [.x (.ba 16), .x (.ba 16)], [], []⟩ [(.ba 16), (.ba 16)] (Bool) (fun x => book_Less x.1 x.2.1) cs1 fun _ => book_Less_o
theorem book_Less_ok : SmOK Tryz.prog (book_Less_s) :=
  fn_ok (H := book_Less_H) (L := lenv (book_Less_L)) (ts := [(.ba 16), (.ba 16)]) (T := fun x => book_Less_t x.1 x.2.1) 0 Tryz_F45 (book_Less_Eok 0) (lenv_ok (by kernel_rfl) trivial) (rg0 (by kernel_rfl)) fun x => by kernel_rfl
noncomputable def Tryz_b16 : Code := Tryz.f16.body.getD .skip
theorem Tryz_F16 : FnF Tryz.prog 16 Tryz.f16 Tryz_b16 := ⟨Tryz_draw, by kernel_rfl, by kernel_rfl, by kernel_rfl⟩
def manifest_May_H : TH := { live := [(0, [1]), (1, [1, 6, 7, 8]), (2, [1, 6, 7, 8, 9]), (3, [1, 3, 4, 6, 7, 8]), (4, [1, 6, 7, 8, 32]), (5, [2]), (6, [1, 6, 7, 8]), (7, [2])], dec := [16, 19] }
def manifest_May_E (N : Nat) : List Ent := [manifest_line_s N, book_Less_s]
theorem manifest_May_Eok (N : Nat) : SmAll Tryz.prog (manifest_May_E N) := ⟨manifest_line_ok N, book_Less_ok, trivial⟩
abbrev manifest_May_l2_F := T_api_Manifest × List T_api_Line × Int
abbrev manifest_May_l2_Y := Unit ⊕ (Int × Bool)
def manifest_May_l2_o (f : manifest_May_l2_F) : manifest_May_l2_Y → Ex × TSt
 | .inl y => (.ret, ⟨0, 38, [], [(2, .bc false)], [], false, []⟩)
 | .inr y => (.exit 0, ⟨0, 38, [], [(1, .p 10 [] 0), (6, .tv (.sl 19 t_api_Line) f.2.1), (7, xi f.2.2), (8, xi y.1), (9, xb y.2)], [(10, .cell false (.tv t_api_Manifest f.1))], false, []⟩)
def manifest_May_l2_L (N : Nat) : List (Nat × LEnt) := []
abbrev manifest_May_l2_V := Int
def manifest_May_l2_p : SP := ⟨0, 38, [], [(1, .k (.p 10 [] 0)), (6, .x (.sl 19 t_api_Line)), (7, .x (.i .i64)), (8, .x (.i .i64))], [(10, .cell false (.x t_api_Manifest))], false, []⟩
def manifest_May_l2_h (f : manifest_May_l2_F) (v : manifest_May_l2_V) : TSt := fillS manifest_May_l2_p [dv t_api_Manifest f.1, dv (.sl 19 t_api_Line) f.2.1, dv (.i .i64) f.2.2, dv (.i .i64) v]
def manifest_May_l2_t (N : Nat) (o_2 : T_api_Manifest) (s6_2 : List T_api_Line) (s7_2 : Int) (v : manifest_May_l2_V) : Tree (manifest_May_l2_V ⊕ manifest_May_l2_Y) :=
 .cond (decide (v < s7_2)) (
 .bind (getI s6_2 v) fun e1 =>
 .bind (manifest_line N e1) fun r2 =>
 .cond (!r2) (
 .ret (.inr (.inl ()))) <|
 .cond (decide (((0 : Int)) < v)) (
 .chk (in64 (v - 1)) <|
 .bind (getI (T_api_Manifest.L o_2) (v - 1)) fun e3 =>
 .bind (book_Less (T_api_Line.ID e3) (T_api_Line.ID e1)) fun r4 =>
 .cond (!r4) (
 .ret (.inr (.inl ()))) <|
 .chk (in64 (v + 1)) <|
 .ret (.inl (v + 1))) <|
 .chk (in64 (v + 1)) <|
 .ret (.inl (v + 1))) <|
 .ret (.inr (.inr ((v, decide (v < s7_2)))))
def manifest_May_l2_n (N n : Nat) (f : manifest_May_l2_F) (v : manifest_May_l2_V) : Option manifest_May_l2_Y := loopG (manifest_May_l2_t N f.1 f.2.1 f.2.2) some n v
theorem manifest_May_l2_q (N : Nat) (f : manifest_May_l2_F) (n : Nat) (v : manifest_May_l2_V) (y : manifest_May_l2_Y) (h : manifest_May_l2_n N n f v = some y) : LG Tryz.prog manifest_May_H 16 (lookC Tryz_b16 2) (manifest_May_l2_h f v) (manifest_May_l2_o f y) :=
  loop_g Tryz_draw (E := manifest_May_E N) (L := lenv (manifest_May_l2_L N)) (st := manifest_May_l2_o f) (g := some) (R := manifest_May_l2_o f) (manifest_May_Eok N) (lenv_ok (by kernel_rfl) trivial) (rg0 (by kernel_rfl)) (fun v => by kernel_rfl) (good_self (st := manifest_May_l2_o f) fun y => by rcases y with _ | _ <;> rfl) n v y h
def manifest_May_l2 (N : Nat) (o_2 : T_api_Manifest) (s6_2 : List T_api_Line) (s7_2 : Int) (s8_2 : Int) : Option manifest_May_l2_Y := manifest_May_l2_n N N (o_2, s6_2, s7_2) s8_2
def manifest_May_l2_s (N : Nat) : LEnt := smL manifest_May_l2_p [t_api_Manifest, (.sl 19 t_api_Line), (.i .i64), (.i .i64)] manifest_May_l2_Y (fun x => manifest_May_l2 N x.1 x.2.1 x.2.2.1 x.2.2.2.1) (csS cs1) fun x => manifest_May_l2_o (x.1, x.2.1, x.2.2.1)
theorem manifest_May_l2_ok (N : Nat) : LsOK Tryz.prog manifest_May_H 16 (lookC Tryz_b16 2) (manifest_May_l2_s N) := smL_ok fun x z h => manifest_May_l2_q N (x.1, x.2.1, x.2.2.1) N x.2.2.2.1 z h
def manifest_May_o (z : Bool) : TV × THp := (xb z, [])
def manifest_May_t (N : Nat) (a0 : T_api_Manifest) : Tree (Bool) :=
 .bind (manifest_May_l2 N a0 (T_api_Manifest.L a0) (((T_api_Manifest.L a0).length : Nat) : Int) 0) fun z1 =>
 .sum z1 (fun z2 =>
 .ret false) fun z2 =>
 .ret (decide ((((T_api_Manifest.L a0).length : Nat) : Int) ≤ ((10 : Int))))
def manifest_May (N : Nat) (a0 : T_api_Manifest) : Option (Bool) := (manifest_May_t N a0).run some
def manifest_May_L (N : Nat) : List (Nat × LEnt) := [(2, manifest_May_l2_s N)]
def manifest_May_s (N : Nat) : Ent := smF ⟨16, [], [.x t_api_Manifest], [], []⟩ [t_api_Manifest] (Bool) (fun x => manifest_May N x.1) cs1 fun _ => manifest_May_o
theorem manifest_May_ok (N : Nat) : SmOK Tryz.prog (manifest_May_s N) :=
  fn_ok (H := manifest_May_H) (L := lenv (manifest_May_L N)) (ts := [t_api_Manifest]) (T := fun x => manifest_May_t N x.1) 0 Tryz_F16 (manifest_May_Eok N) (lenv_ok (by kernel_rfl) ⟨manifest_May_l2_ok N, trivial⟩) (rg0 (by kernel_rfl)) fun x => by kernel_rfl
noncomputable def Tryz_b6 : Code := Tryz.f6.body.getD .skip
theorem Tryz_F6 : FnF Tryz.prog 6 Tryz.f6 Tryz_b6 := ⟨Tryz_draw, by kernel_rfl, by kernel_rfl, by kernel_rfl⟩
def rolodexlaw12_ManifestFew_H : TH := { live := [(0, [1]), (1, [1, 3]), (2, [1, 3, 4]), (3, [1, 3, 4, 5]), (4, [1, 3, 5, 30]), (5, [2]), (6, [1, 5, 6]), (7, [1, 5, 6]), (8, [1, 5, 6, 7]), (9, [1, 5, 6, 7]), (10, [1, 5, 6, 7, 8]), (11, [1, 5, 6, 7, 8]), (12, [1, 5, 6, 7, 8, 9]), (13, [1, 5, 6, 7, 8, 9, 78]), (14, [1, 5, 6, 7, 8, 9]), (15, [1, 6, 7, 8]), (16, [2])], dec := [18, 22, 27, 67, 72, 96, 100, 104] }
def rolodexlaw12_ManifestFew_E (N : Nat) : List Ent := [auto9_s, rolodexref12_Few_s N, manifest_May_s N]
theorem rolodexlaw12_ManifestFew_Eok (N : Nat) : SmAll Tryz.prog (rolodexlaw12_ManifestFew_E N) := ⟨auto9_ok, rolodexref12_Few_ok N, manifest_May_ok N, trivial⟩
def rolodexlaw12_ManifestFew_o (z : Bool) : TV × THp := (xb z, [])
def rolodexlaw12_ManifestFew_t (N : Nat) (a0 : T_api_Manifest) : Tree (Bool) :=
 .bind (auto9) fun r1 =>
 .bind (rolodexref12_Few N a0) fun r2 =>
 .cond (!r1) (
 .ret r1) <|
 .cond (!r2) (
 .ret r1) <|
 .bind (manifest_May N a0) fun r3 =>
 .cond (!r3) (
 .ret r1) <|
 .cond (decide ((((T_api_Manifest.L a0).length : Nat) : Int) = ((0 : Int)))) (
 .ret r1) <|
 .chk (apOK ((T_api_Manifest.L a0).length) 56) <|
 .chk (in64 ((((T_api_Manifest.L a0).length : Nat) : Int) - 1)) <|
 .bind (getI (T_api_Manifest.L a0) ((((T_api_Manifest.L a0).length : Nat) : Int) - 1)) fun e4 =>
 .chk (avOK ((T_api_Manifest.L a0).length) ((T_api_Manifest.L a0).length) (((T_api_Manifest.L a0) ++ [e4]).length) 56) <|
 .chk (in64 ((((T_api_Manifest.L a0).length : Nat) : Int) - 1)) <|
 .chk (0 ≤ (0 : Int) ∧ (0 : Int) ≤ ((((T_api_Manifest.L a0).length : Nat) : Int) - 1) ∧ ((((T_api_Manifest.L a0).length : Nat) : Int) - 1) ≤ (((T_api_Manifest.L a0).length : Nat) : Int)) <|
 .chk (apOK ((T_api_Manifest.L a0).length) 56) <|
 .chk (in64 ((((T_api_Manifest.L a0).length : Nat) : Int) - 1)) <|
 .bind (getI (T_api_Manifest.L a0) ((((T_api_Manifest.L a0).length : Nat) : Int) - 1)) fun e5 =>
 .cond (decide (((1 : Int)) < (((T_api_Line.F e5).length : Nat) : Int))) (
 .chk (in64 ((((T_api_Line.F e5).length : Nat) : Int) - 1)) <|
 .chk (0 ≤ (0 : Int) ∧ (0 : Int) ≤ ((((T_api_Line.F e5).length : Nat) : Int) - 1) ∧ ((((T_api_Line.F e5).length : Nat) : Int) - 1) ≤ (((T_api_Line.F e5).length : Nat) : Int)) <|
 .chk (in64 ((((T_api_Manifest.L a0).length : Nat) : Int) - 1)) <|
 .chk (0 ≤ ((((T_api_Manifest.L a0).length : Nat) : Int) - 1) ∧ ((((T_api_Manifest.L a0).length : Nat) : Int) - 1) < (((T_api_Manifest.L a0).length : Nat) : Int)) <|
 .chk (vecOK ((T_api_Manifest.L a0).length) ((T_api_Manifest.L a0).length) (((((T_api_Manifest.L a0).length : Nat) : Int) - 1).toNat)) <|
 .chk (((T_api_Manifest.L a0) ++ [e4]).length = ((T_api_Manifest.L a0) ++ [e4]).length) <|
 .bind (manifest_May N (T_api_Manifest.mk (T_api_Manifest.Base a0) ((T_api_Manifest.L a0) ++ [e4]))) fun r6 =>
 .cond (!r6) (
 .bind (manifest_May N (T_api_Manifest.mk (T_api_Manifest.Base a0) (((T_api_Manifest.L a0).take (((((T_api_Manifest.L a0).length : Nat) : Int) - 1).toNat)).drop 0))) fun r7 =>
 .cond r7 (
 .chk (((T_api_Manifest.L a0).set (((((T_api_Manifest.L a0).length : Nat) : Int) - 1).toNat) (T_api_Line.mk (T_api_Line.ID e5) (T_api_Line.Dead e5) (((T_api_Line.F e5).take (((((T_api_Line.F e5).length : Nat) : Int) - 1).toNat)).drop 0))).length = (T_api_Manifest.L a0).length) <|
 .bind (manifest_May N (T_api_Manifest.mk (T_api_Manifest.Base a0) ((T_api_Manifest.L a0).set (((((T_api_Manifest.L a0).length : Nat) : Int) - 1).toNat) (T_api_Line.mk (T_api_Line.ID e5) (T_api_Line.Dead e5) (((T_api_Line.F e5).take (((((T_api_Line.F e5).length : Nat) : Int) - 1).toNat)).drop 0))))) fun r8 =>
 .cond r8 (
 .ret (decide ((((T_api_Manifest.L a0).length : Nat) : Int) ≤ ((10 : Int))))) <|
 .ret false) <|
 .ret false) <|
 .ret false) <|
 .cond (decide ((((T_api_Line.F e5).length : Nat) : Int) = ((1 : Int)))) (
 .cond (!(eqE t_api_Stamp (T_api_Line.Dead e5) (T_api_Stamp.mk 0 0))) (
 .chk (in64 ((((T_api_Line.F e5).length : Nat) : Int) - 1)) <|
 .chk (0 ≤ (0 : Int) ∧ (0 : Int) ≤ ((((T_api_Line.F e5).length : Nat) : Int) - 1) ∧ ((((T_api_Line.F e5).length : Nat) : Int) - 1) ≤ (((T_api_Line.F e5).length : Nat) : Int)) <|
 .chk (in64 ((((T_api_Manifest.L a0).length : Nat) : Int) - 1)) <|
 .chk (0 ≤ ((((T_api_Manifest.L a0).length : Nat) : Int) - 1) ∧ ((((T_api_Manifest.L a0).length : Nat) : Int) - 1) < (((T_api_Manifest.L a0).length : Nat) : Int)) <|
 .chk (vecOK ((T_api_Manifest.L a0).length) ((T_api_Manifest.L a0).length) (((((T_api_Manifest.L a0).length : Nat) : Int) - 1).toNat)) <|
 .chk (((T_api_Manifest.L a0) ++ [e4]).length = ((T_api_Manifest.L a0) ++ [e4]).length) <|
 .bind (manifest_May N (T_api_Manifest.mk (T_api_Manifest.Base a0) ((T_api_Manifest.L a0) ++ [e4]))) fun r6 =>
 .cond (!r6) (
 .bind (manifest_May N (T_api_Manifest.mk (T_api_Manifest.Base a0) (((T_api_Manifest.L a0).take (((((T_api_Manifest.L a0).length : Nat) : Int) - 1).toNat)).drop 0))) fun r7 =>
 .cond r7 (
 .chk (((T_api_Manifest.L a0).set (((((T_api_Manifest.L a0).length : Nat) : Int) - 1).toNat) (T_api_Line.mk (T_api_Line.ID e5) (T_api_Line.Dead e5) (((T_api_Line.F e5).take (((((T_api_Line.F e5).length : Nat) : Int) - 1).toNat)).drop 0))).length = (T_api_Manifest.L a0).length) <|
 .bind (manifest_May N (T_api_Manifest.mk (T_api_Manifest.Base a0) ((T_api_Manifest.L a0).set (((((T_api_Manifest.L a0).length : Nat) : Int) - 1).toNat) (T_api_Line.mk (T_api_Line.ID e5) (T_api_Line.Dead e5) (((T_api_Line.F e5).take (((((T_api_Line.F e5).length : Nat) : Int) - 1).toNat)).drop 0))))) fun r8 =>
 .cond r8 (
 .ret (decide ((((T_api_Manifest.L a0).length : Nat) : Int) ≤ ((10 : Int))))) <|
 .ret false) <|
 .ret false) <|
 .ret false) <|
 .chk (((T_api_Manifest.L a0) ++ [e4]).length = ((T_api_Manifest.L a0) ++ [e4]).length) <|
 .bind (manifest_May N (T_api_Manifest.mk (T_api_Manifest.Base a0) ((T_api_Manifest.L a0) ++ [e4]))) fun r6 =>
 .cond (!r6) (
 .bind (manifest_May N (T_api_Manifest.mk (T_api_Manifest.Base a0) (((T_api_Manifest.L a0).take (((((T_api_Manifest.L a0).length : Nat) : Int) - 1).toNat)).drop 0))) fun r7 =>
 .cond r7 (
 .chk ((T_api_Manifest.L a0).length = (T_api_Manifest.L a0).length) <|
 .bind (manifest_May N a0) fun r8 =>
 .cond r8 (
 .ret (decide ((((T_api_Manifest.L a0).length : Nat) : Int) ≤ ((10 : Int))))) <|
 .ret false) <|
 .ret false) <|
 .ret false) <|
 .chk (((T_api_Manifest.L a0) ++ [e4]).length = ((T_api_Manifest.L a0) ++ [e4]).length) <|
 .bind (manifest_May N (T_api_Manifest.mk (T_api_Manifest.Base a0) ((T_api_Manifest.L a0) ++ [e4]))) fun r6 =>
 .cond (!r6) (
 .bind (manifest_May N (T_api_Manifest.mk (T_api_Manifest.Base a0) (((T_api_Manifest.L a0).take (((((T_api_Manifest.L a0).length : Nat) : Int) - 1).toNat)).drop 0))) fun r7 =>
 .cond r7 (
 .chk ((T_api_Manifest.L a0).length = (T_api_Manifest.L a0).length) <|
 .bind (manifest_May N a0) fun r8 =>
 .cond r8 (
 .ret (decide ((((T_api_Manifest.L a0).length : Nat) : Int) ≤ ((10 : Int))))) <|
 .ret false) <|
 .ret false) <|
 .ret false
def rolodexlaw12_ManifestFew (N : Nat) (a0 : T_api_Manifest) : Option (Bool) := (rolodexlaw12_ManifestFew_t N a0).run some
def rolodexlaw12_ManifestFew_L (N : Nat) : List (Nat × LEnt) := []
def rolodexlaw12_ManifestFew_s (N : Nat) : Ent := smF ⟨6, [], [.x t_api_Manifest], [], []⟩ [t_api_Manifest] (Bool) (fun x => rolodexlaw12_ManifestFew N x.1) cs1 fun _ => rolodexlaw12_ManifestFew_o
theorem rolodexlaw12_ManifestFew_val (N : Nat) : FnVal Tryz.prog ⟨6, [], [.x t_api_Manifest], [], []⟩ [t_api_Manifest] (fun x => rolodexlaw12_ManifestFew_t N x.1) (fun _ => rolodexlaw12_ManifestFew_o) :=
  fn_val (H := rolodexlaw12_ManifestFew_H) (L := lenv (rolodexlaw12_ManifestFew_L N)) 0 Tryz_F6 (rolodexlaw12_ManifestFew_Eok N) (lenv_ok (by kernel_rfl) trivial) (rg0 (by kernel_rfl)) fun x => by kernel_rfl
theorem rolodexlaw12_ManifestFew_ok (N : Nat) : SmOK Tryz.prog (rolodexlaw12_ManifestFew_s N) := smF_ok (rolodexlaw12_ManifestFew_val N)
noncomputable def Tryz_b52 : Code := Tryz.f52.body.getD .skip
theorem Tryz_F52 : FnF Tryz.prog 52 Tryz.f52 Tryz_b52 := ⟨Tryz_draw, by kernel_rfl, by kernel_rfl, by kernel_rfl⟩
def manifest_Line_1_H : TH := { live := [(0, [1, 2]), (1, [3])] }
def manifest_Line_1_E (N : Nat) : List Ent := []
theorem manifest_Line_1_Eok (N : Nat) : SmAll Tryz.prog (manifest_Line_1_E N) := trivial
def manifest_Line_1_o (a0 : Vector UInt8 16) (a1 : T_api_Line) (z : Unit) : TV × THp := (xb (eqE (.ba 16) (T_api_Line.ID a1) a0), [(30, .cell false (.tv (.ba 16) a0))])
def manifest_Line_1_t (a0 : Vector UInt8 16) (a1 : T_api_Line) : Tree (Unit) :=
 .ret ()
def manifest_Line_1 (a0 : Vector UInt8 16) (a1 : T_api_Line) : Option (Unit) := (manifest_Line_1_t a0 a1).run some
def manifest_Line_1_L : List (Nat × LEnt) := []
def manifest_Line_1_s : Ent := smF ⟨52, [], [.x t_api_Line], [.k (.p 30 [] 0)], [(30, .cell false (.x (.ba 16)))]⟩ [(.ba 16), t_api_Line] (Unit) (fun x => manifest_Line_1 x.1 x.2.1) cs1 fun x => manifest_Line_1_o x.1 x.2.1
theorem manifest_Line_1_ok : SmOK Tryz.prog (manifest_Line_1_s) :=
  fn_ok (H := manifest_Line_1_H) (L := lenv (manifest_Line_1_L)) (ts := [(.ba 16), t_api_Line]) (T := fun x => manifest_Line_1_t x.1 x.2.1) 0 Tryz_F52 (manifest_Line_1_Eok 0) (lenv_ok (by kernel_rfl) trivial) (rg0 (by kernel_rfl)) fun x => by kernel_rfl
noncomputable def Tryz_b51 : Code := Tryz.f51.body.getD .skip
theorem Tryz_F51 : FnF Tryz.prog 51 Tryz.f51 Tryz_b51 := ⟨Tryz_draw, by kernel_rfl, by kernel_rfl, by kernel_rfl⟩
def slices_IndexFunc_Line_H : TH := { live := [(0, [0, 1]), (1, [0, 1, 7, 8]), (2, [0, 1, 7, 8, 9]), (3, [0, 1, 5, 7, 8]), (4, [0, 1, 5, 7, 8, 16]), (5, [4]), (6, [0, 1, 7, 8]), (7, [4])] }
def slices_IndexFunc_Line_E (N : Nat) : List Ent := [manifest_Line_1_s]
theorem slices_IndexFunc_Line_Eok (N : Nat) : SmAll Tryz.prog (slices_IndexFunc_Line_E N) := ⟨manifest_Line_1_ok, trivial⟩
abbrev slices_IndexFunc_Line_l2_F := Vector UInt8 16 × List T_api_Line × Int
abbrev slices_IndexFunc_Line_l2_Y := Int ⊕ (Int × Bool)
def slices_IndexFunc_Line_l2_o (f : slices_IndexFunc_Line_l2_F) : slices_IndexFunc_Line_l2_Y → Ex × TSt
 | .inl y => (.ret, ⟨1, 19, [30], [(4, xi y)], [(30, .cell false (.tv (.ba 16) f.1))], false, []⟩)
 | .inr y => (.exit 0, ⟨1, 19, [30], [(0, .tv (.sl 19 t_api_Line) f.2.1), (1, .fn (.func 52) [] [.p 30 [] 0]), (7, xi f.2.2), (8, xi y.1), (9, xb y.2)], [(30, .cell false (.tv (.ba 16) f.1))], false, []⟩)
def slices_IndexFunc_Line_l2_L (N : Nat) : List (Nat × LEnt) := []
abbrev slices_IndexFunc_Line_l2_V := Int
def slices_IndexFunc_Line_l2_p : SP := ⟨1, 19, [30], [(0, .x (.sl 19 t_api_Line)), (1, .fn 52 [] [.k (.p 30 [] 0)]), (7, .x (.i .i64)), (8, .x (.i .i64))], [(30, .cell false (.x (.ba 16)))], false, []⟩
def slices_IndexFunc_Line_l2_h (f : slices_IndexFunc_Line_l2_F) (v : slices_IndexFunc_Line_l2_V) : TSt := fillS slices_IndexFunc_Line_l2_p [dv (.ba 16) f.1, dv (.sl 19 t_api_Line) f.2.1, dv (.i .i64) f.2.2, dv (.i .i64) v]
def slices_IndexFunc_Line_l2_t (N : Nat) (o_2 : Vector UInt8 16) (s0_2 : List T_api_Line) (s7_2 : Int) (v : slices_IndexFunc_Line_l2_V) : Tree (slices_IndexFunc_Line_l2_V ⊕ slices_IndexFunc_Line_l2_Y) :=
 .cond (decide (v < s7_2)) (
 .bind (getI s0_2 v) fun e1 =>
 .bind (manifest_Line_1 o_2 e1) fun r2 =>
 .cond (eqE (.ba 16) (T_api_Line.ID e1) o_2) (
 .ret (.inr (.inl v))) <|
 .chk (in64 (v + 1)) <|
 .ret (.inl (v + 1))) <|
 .ret (.inr (.inr ((v, decide (v < s7_2)))))
def slices_IndexFunc_Line_l2_n (N n : Nat) (f : slices_IndexFunc_Line_l2_F) (v : slices_IndexFunc_Line_l2_V) : Option slices_IndexFunc_Line_l2_Y := loopG (slices_IndexFunc_Line_l2_t N f.1 f.2.1 f.2.2) some n v
theorem slices_IndexFunc_Line_l2_q (N : Nat) (f : slices_IndexFunc_Line_l2_F) (n : Nat) (v : slices_IndexFunc_Line_l2_V) (y : slices_IndexFunc_Line_l2_Y) (h : slices_IndexFunc_Line_l2_n N n f v = some y) : LG Tryz.prog slices_IndexFunc_Line_H 51 (lookC Tryz_b51 2) (slices_IndexFunc_Line_l2_h f v) (slices_IndexFunc_Line_l2_o f y) :=
  loop_g Tryz_draw (E := slices_IndexFunc_Line_E N) (L := lenv (slices_IndexFunc_Line_l2_L N)) (st := slices_IndexFunc_Line_l2_o f) (g := some) (R := slices_IndexFunc_Line_l2_o f) (slices_IndexFunc_Line_Eok N) (lenv_ok (by kernel_rfl) trivial) (rg0 (by kernel_rfl)) (fun v => by kernel_rfl) (good_self (st := slices_IndexFunc_Line_l2_o f) fun y => by rcases y with _ | _ <;> rfl) n v y h
def slices_IndexFunc_Line_l2 (N : Nat) (o_2 : Vector UInt8 16) (s0_2 : List T_api_Line) (s7_2 : Int) (s8_2 : Int) : Option slices_IndexFunc_Line_l2_Y := slices_IndexFunc_Line_l2_n N N (o_2, s0_2, s7_2) s8_2
def slices_IndexFunc_Line_l2_s (N : Nat) : LEnt := smL slices_IndexFunc_Line_l2_p [(.ba 16), (.sl 19 t_api_Line), (.i .i64), (.i .i64)] slices_IndexFunc_Line_l2_Y (fun x => slices_IndexFunc_Line_l2 N x.1 x.2.1 x.2.2.1 x.2.2.2.1) (csS cs1) fun x => slices_IndexFunc_Line_l2_o (x.1, x.2.1, x.2.2.1)
theorem slices_IndexFunc_Line_l2_ok (N : Nat) : LsOK Tryz.prog slices_IndexFunc_Line_H 51 (lookC Tryz_b51 2) (slices_IndexFunc_Line_l2_s N) := smL_ok fun x z h => slices_IndexFunc_Line_l2_q N (x.1, x.2.1, x.2.2.1) N x.2.2.2.1 z h
def slices_IndexFunc_Line_o (a0 : Vector UInt8 16) (z : Int) : TV × THp := (xi z, [(30, .cell false (.tv (.ba 16) a0))])
def slices_IndexFunc_Line_t (N : Nat) (a0 : Vector UInt8 16) (a1 : List T_api_Line) : Tree (Int) :=
 .bind (slices_IndexFunc_Line_l2 N a0 a1 ((a1.length : Nat) : Int) 0) fun z1 =>
 .sum z1 (fun z2 =>
 .ret z2) fun z2 =>
 .ret (-1)
def slices_IndexFunc_Line (N : Nat) (a0 : Vector UInt8 16) (a1 : List T_api_Line) : Option (Int) := (slices_IndexFunc_Line_t N a0 a1).run some
def slices_IndexFunc_Line_L (N : Nat) : List (Nat × LEnt) := [(2, slices_IndexFunc_Line_l2_s N)]
def slices_IndexFunc_Line_s (N : Nat) : Ent := smF ⟨51, [], [.x (.sl 19 t_api_Line), .fn 52 [] [.k (.p 30 [] 0)]], [], [(30, .cell false (.x (.ba 16)))]⟩ [(.ba 16), (.sl 19 t_api_Line)] (Int) (fun x => slices_IndexFunc_Line N x.1 x.2.1) cs1 fun x => slices_IndexFunc_Line_o x.1
theorem slices_IndexFunc_Line_ok (N : Nat) : SmOK Tryz.prog (slices_IndexFunc_Line_s N) :=
  fn_ok (H := slices_IndexFunc_Line_H) (L := lenv (slices_IndexFunc_Line_L N)) (ts := [(.ba 16), (.sl 19 t_api_Line)]) (T := fun x => slices_IndexFunc_Line_t N x.1 x.2.1) 0 Tryz_F51 (slices_IndexFunc_Line_Eok N) (lenv_ok (by kernel_rfl) ⟨slices_IndexFunc_Line_l2_ok N, trivial⟩) (rg0 (by kernel_rfl)) fun x => by kernel_rfl
noncomputable def Tryz_b81 : Code := Tryz.f81.body.getD .skip
theorem Tryz_F81 : FnF Tryz.prog 81 Tryz.f81 Tryz_b81 := ⟨Tryz_draw, by kernel_rfl, by kernel_rfl, by kernel_rfl⟩
def slices_Clone_Entry_H : TH := { live := [(0, [0]), (1, [0, 4]), (2, [2]), (3, [2])], vecs := [5], esc := true }
def slices_Clone_Entry_E (N : Nat) : List Ent := []
theorem slices_Clone_Entry_Eok (N : Nat) : SmAll Tryz.prog (slices_Clone_Entry_E N) := trivial
def slices_Clone_Entry_o (a0 : List T_api_Entry) (z : Unit) : TV × THp := (.v 100050 (((([] : List T_api_Entry)) ++ a0).length), [(100050, .vec false 37 (.sl 37 t_api_Entry) ((([] : List T_api_Entry)) ++ a0 : List T_api_Entry))])
def slices_Clone_Entry_t (a0 : List T_api_Entry) : Tree (Unit) :=
 .chk (List.isEmpty a0 = false) <|
 .chk (avOK ((([] : List T_api_Entry)).length) 0 (((([] : List T_api_Entry)) ++ a0).length) 88) <|
 .ret ()
def slices_Clone_Entry (a0 : List T_api_Entry) : Option (Unit) := (slices_Clone_Entry_t a0).run some
def slices_Clone_Entry_L : List (Nat × LEnt) := []
def slices_Clone_Entry_s : Ent := smF ⟨81, [], [.x (.sl 37 t_api_Entry)], [], []⟩ [(.sl 37 t_api_Entry)] (Unit) (fun x => slices_Clone_Entry x.1) cs1 fun x => slices_Clone_Entry_o x.1
theorem slices_Clone_Entry_val : FnVal Tryz.prog ⟨81, [], [.x (.sl 37 t_api_Entry)], [], []⟩ [(.sl 37 t_api_Entry)] (fun x => slices_Clone_Entry_t x.1) (fun x => slices_Clone_Entry_o x.1) :=
  fn_val (H := slices_Clone_Entry_H) (L := lenv (slices_Clone_Entry_L)) 0 Tryz_F81 (slices_Clone_Entry_Eok 0) (lenv_ok (by kernel_rfl) trivial) (rg0 (by kernel_rfl)) fun x => by kernel_rfl
theorem slices_Clone_Entry_ok : SmOK Tryz.prog (slices_Clone_Entry_s) := smF_ok (slices_Clone_Entry_val)
def slices_Clone_Entry_2_H : TH := { live := [(0, [0]), (1, [0, 4]), (2, [2]), (3, [2])], vecs := [5], esc := true }
def slices_Clone_Entry_2_E (N : Nat) : List Ent := []
theorem slices_Clone_Entry_2_Eok (N : Nat) : SmAll Tryz.prog (slices_Clone_Entry_2_E N) := trivial
def slices_Clone_Entry_2_o (z : Unit) : TV × THp := (.v 100050 0, [(100050, .vec false 37 (.sl 37 t_api_Entry) ([] : List T_api_Entry))])
def slices_Clone_Entry_2_t : Tree (Unit) :=
 .chk (0 = 0) <|
 .ret ()
def slices_Clone_Entry_2 : Option (Unit) := (slices_Clone_Entry_2_t).run some
def slices_Clone_Entry_2_L : List (Nat × LEnt) := []
def slices_Clone_Entry_2_s : Ent := smF ⟨81, [], [.k (.es 0)], [], []⟩ [] (Unit) (fun x => slices_Clone_Entry_2) cs1 fun _ => slices_Clone_Entry_2_o
theorem slices_Clone_Entry_2_val : FnVal Tryz.prog ⟨81, [], [.k (.es 0)], [], []⟩ [] (fun x => slices_Clone_Entry_2_t) (fun _ => slices_Clone_Entry_2_o) :=
  fn_val (H := slices_Clone_Entry_2_H) (L := lenv (slices_Clone_Entry_2_L)) 0 Tryz_F81 (slices_Clone_Entry_2_Eok 0) (lenv_ok (by kernel_rfl) trivial) (rg0 (by kernel_rfl)) fun x => by kernel_rfl
theorem slices_Clone_Entry_2_ok : SmOK Tryz.prog (slices_Clone_Entry_2_s) := smF_ok (slices_Clone_Entry_2_val)
def slices_Clone_Entry_3_H : TH := { live := [(0, [0]), (1, [0, 4]), (2, [2]), (3, [2])], vecs := [5], esc := true }
def slices_Clone_Entry_3_E (N : Nat) : List Ent := []
theorem slices_Clone_Entry_3_Eok (N : Nat) : SmAll Tryz.prog (slices_Clone_Entry_3_E N) := trivial
def slices_Clone_Entry_3_o (z : Unit) : TV × THp := (.nils, [])
def slices_Clone_Entry_3_t : Tree (Unit) :=
 .ret ()
def slices_Clone_Entry_3 : Option (Unit) := (slices_Clone_Entry_3_t).run some
def slices_Clone_Entry_3_L : List (Nat × LEnt) := []
def slices_Clone_Entry_3_s : Ent := smF ⟨81, [], [.k (.es 1)], [], []⟩ [] (Unit) (fun x => slices_Clone_Entry_3) cs1 fun _ => slices_Clone_Entry_3_o
theorem slices_Clone_Entry_3_val : FnVal Tryz.prog ⟨81, [], [.k (.es 1)], [], []⟩ [] (fun x => slices_Clone_Entry_3_t) (fun _ => slices_Clone_Entry_3_o) :=
  fn_val (H := slices_Clone_Entry_3_H) (L := lenv (slices_Clone_Entry_3_L)) 0 Tryz_F81 (slices_Clone_Entry_3_Eok 0) (lenv_ok (by kernel_rfl) trivial) (rg0 (by kernel_rfl)) fun x => by kernel_rfl
theorem slices_Clone_Entry_3_ok : SmOK Tryz.prog (slices_Clone_Entry_3_s) := smF_ok (slices_Clone_Entry_3_val)
def slices_Clone_EntryW_c0 (z : Unit) : Unit := ()
def slices_Clone_EntryW_c1 (z : Unit) : Unit := ()
def slices_Clone_EntryW (a0 : List T_api_Entry) : Option (Unit) :=
 bif a0.isEmpty then
  (slices_Clone_Entry_2).bind fun z0 => (slices_Clone_Entry_3).bind fun z1 => chk (slices_Clone_EntryW_c0 z0 = slices_Clone_EntryW_c1 z1) (some (slices_Clone_EntryW_c0 z0))
 else slices_Clone_Entry a0
def slices_Clone_EntryW_s : Ent := smF ⟨81, [], [.x (.sl 37 t_api_Entry)], [], []⟩ [(.sl 37 t_api_Entry)] (Unit) (fun x => slices_Clone_EntryW x.1) cs1 fun x => slices_Clone_Entry_o x.1
theorem slices_Clone_EntryW_ok : SmOK Tryz.prog (slices_Clone_EntryW_s) := smF_ok fun x z h l => by
  obtain ⟨a0, _⟩ := x
  replace h : slices_Clone_EntryW a0 = some z := h
  unfold slices_Clone_EntryW at h
  rcases cond_some h with ⟨e, h2⟩ | ⟨_, h2⟩ <;> clear h
  · have e := List.isEmpty_iff.1 e
    subst e
    obtain ⟨z0, c0, h2⟩ := bind_some h2
    obtain ⟨z1, c1, h2⟩ := bind_some h2
    obtain ⟨hE, h2⟩ := chk_some h2
    obtain rfl := Option.some.inj h2
    refine maybe_val (t := (.sl 37 t_api_Entry)) (x := []) rfl (TV.ers []) (TV.ers []) (by exact slices_Clone_Entry_2_val (()) _ c0 l) ?_
    rw [hE]
    exact (nil_vec (n := 100050) (sz := 37) (x := toPV (.sl 37 t_api_Entry) ([] : List T_api_Entry)) rfl (by kernel_rfl) (by kernel_rfl) (slices_Clone_Entry_3_val (()) _ c1 l))
  · exact slices_Clone_Entry_val (a0, ()) z h2 l
noncomputable def Tryz_b82 : Code := Tryz.f82.body.getD .skip
theorem Tryz_F82 : FnF Tryz.prog 82 Tryz.f82 Tryz_b82 := ⟨Tryz_draw, by kernel_rfl, by kernel_rfl, by kernel_rfl⟩
def slices_Clone_Sig_H : TH := { live := [(0, [0]), (1, [0, 4]), (2, [2]), (3, [2])], vecs := [5] }
def slices_Clone_Sig_E (N : Nat) : List Ent := []
theorem slices_Clone_Sig_Eok (N : Nat) : SmAll Tryz.prog (slices_Clone_Sig_E N) := trivial
def slices_Clone_Sig_o (a0 : List T_api_Sig) (z : Unit) : TV × THp := (.tv (.sl 33 t_api_Sig) ((([] : List T_api_Sig)) ++ a0 : List T_api_Sig), [])
def slices_Clone_Sig_t (a0 : List T_api_Sig) : Tree (Unit) :=
 .chk (List.isEmpty a0 = false) <|
 .chk (avOK ((([] : List T_api_Sig)).length) 0 (((([] : List T_api_Sig)) ++ a0).length) 36) <|
 .chk (((([] : List T_api_Sig)) ++ a0).length = ((([] : List T_api_Sig)) ++ a0).length) <|
 .ret ()
def slices_Clone_Sig (a0 : List T_api_Sig) : Option (Unit) := (slices_Clone_Sig_t a0).run some
def slices_Clone_Sig_L : List (Nat × LEnt) := []
def slices_Clone_Sig_s : Ent := smF ⟨82, [], [.x (.sl 33 t_api_Sig)], [], []⟩ [(.sl 33 t_api_Sig)] (Unit) (fun x => slices_Clone_Sig x.1) cs1 fun x => slices_Clone_Sig_o x.1
theorem slices_Clone_Sig_val : FnVal Tryz.prog ⟨82, [], [.x (.sl 33 t_api_Sig)], [], []⟩ [(.sl 33 t_api_Sig)] (fun x => slices_Clone_Sig_t x.1) (fun x => slices_Clone_Sig_o x.1) :=
  fn_val (H := slices_Clone_Sig_H) (L := lenv (slices_Clone_Sig_L)) 0 Tryz_F82 (slices_Clone_Sig_Eok 0) (lenv_ok (by kernel_rfl) trivial) (rg0 (by kernel_rfl)) fun x => by kernel_rfl
theorem slices_Clone_Sig_ok : SmOK Tryz.prog (slices_Clone_Sig_s) := smF_ok (slices_Clone_Sig_val)
def slices_Clone_Sig_2_H : TH := { live := [(0, [0]), (1, [0, 4]), (2, [2]), (3, [2])], vecs := [5] }
def slices_Clone_Sig_2_E (N : Nat) : List Ent := []
theorem slices_Clone_Sig_2_Eok (N : Nat) : SmAll Tryz.prog (slices_Clone_Sig_2_E N) := trivial
def slices_Clone_Sig_2_o (z : Unit) : TV × THp := (.tv (.sl 33 t_api_Sig) ([] : List T_api_Sig), [])
def slices_Clone_Sig_2_t : Tree (Unit) :=
 .chk (0 = 0) <|
 .chk (0 = 0) <|
 .ret ()
def slices_Clone_Sig_2 : Option (Unit) := (slices_Clone_Sig_2_t).run some
def slices_Clone_Sig_2_L : List (Nat × LEnt) := []
def slices_Clone_Sig_2_s : Ent := smF ⟨82, [], [.k (.es 0)], [], []⟩ [] (Unit) (fun x => slices_Clone_Sig_2) cs1 fun _ => slices_Clone_Sig_2_o
theorem slices_Clone_Sig_2_val : FnVal Tryz.prog ⟨82, [], [.k (.es 0)], [], []⟩ [] (fun x => slices_Clone_Sig_2_t) (fun _ => slices_Clone_Sig_2_o) :=
  fn_val (H := slices_Clone_Sig_2_H) (L := lenv (slices_Clone_Sig_2_L)) 0 Tryz_F82 (slices_Clone_Sig_2_Eok 0) (lenv_ok (by kernel_rfl) trivial) (rg0 (by kernel_rfl)) fun x => by kernel_rfl
theorem slices_Clone_Sig_2_ok : SmOK Tryz.prog (slices_Clone_Sig_2_s) := smF_ok (slices_Clone_Sig_2_val)
def slices_Clone_Sig_3_H : TH := { live := [(0, [0]), (1, [0, 4]), (2, [2]), (3, [2])], vecs := [5] }
def slices_Clone_Sig_3_E (N : Nat) : List Ent := []
theorem slices_Clone_Sig_3_Eok (N : Nat) : SmAll Tryz.prog (slices_Clone_Sig_3_E N) := trivial
def slices_Clone_Sig_3_o (z : Unit) : TV × THp := (.tv (.sl 33 t_api_Sig) ([] : List T_api_Sig), [])
def slices_Clone_Sig_3_t : Tree (Unit) :=
 .ret ()
def slices_Clone_Sig_3 : Option (Unit) := (slices_Clone_Sig_3_t).run some
def slices_Clone_Sig_3_L : List (Nat × LEnt) := []
def slices_Clone_Sig_3_s : Ent := smF ⟨82, [], [.k (.es 1)], [], []⟩ [] (Unit) (fun x => slices_Clone_Sig_3) cs1 fun _ => slices_Clone_Sig_3_o
theorem slices_Clone_Sig_3_val : FnVal Tryz.prog ⟨82, [], [.k (.es 1)], [], []⟩ [] (fun x => slices_Clone_Sig_3_t) (fun _ => slices_Clone_Sig_3_o) :=
  fn_val (H := slices_Clone_Sig_3_H) (L := lenv (slices_Clone_Sig_3_L)) 0 Tryz_F82 (slices_Clone_Sig_3_Eok 0) (lenv_ok (by kernel_rfl) trivial) (rg0 (by kernel_rfl)) fun x => by kernel_rfl
theorem slices_Clone_Sig_3_ok : SmOK Tryz.prog (slices_Clone_Sig_3_s) := smF_ok (slices_Clone_Sig_3_val)
def slices_Clone_SigW_c0 (z : Unit) : Unit := ()
def slices_Clone_SigW_c1 (z : Unit) : Unit := ()
def slices_Clone_SigW (a0 : List T_api_Sig) : Option (Unit) :=
 bif a0.isEmpty then
  (slices_Clone_Sig_2).bind fun z0 => (slices_Clone_Sig_3).bind fun z1 => chk (slices_Clone_SigW_c0 z0 = slices_Clone_SigW_c1 z1) (some (slices_Clone_SigW_c0 z0))
 else slices_Clone_Sig a0
def slices_Clone_SigW_s : Ent := smF ⟨82, [], [.x (.sl 33 t_api_Sig)], [], []⟩ [(.sl 33 t_api_Sig)] (Unit) (fun x => slices_Clone_SigW x.1) cs1 fun x => slices_Clone_Sig_o x.1
theorem slices_Clone_SigW_ok : SmOK Tryz.prog (slices_Clone_SigW_s) := smF_ok fun x z h l => by
  obtain ⟨a0, _⟩ := x
  replace h : slices_Clone_SigW a0 = some z := h
  unfold slices_Clone_SigW at h
  rcases cond_some h with ⟨e, h2⟩ | ⟨_, h2⟩ <;> clear h
  · have e := List.isEmpty_iff.1 e
    subst e
    obtain ⟨z0, c0, h2⟩ := bind_some h2
    obtain ⟨z1, c1, h2⟩ := bind_some h2
    obtain ⟨hE, h2⟩ := chk_some h2
    obtain rfl := Option.some.inj h2
    refine maybe_val (t := (.sl 33 t_api_Sig)) (x := []) rfl (TV.ers []) (TV.ers []) (by exact slices_Clone_Sig_2_val (()) _ c0 l) ?_
    rw [hE]
    exact (by exact slices_Clone_Sig_3_val (()) _ c1 l)
  · exact slices_Clone_Sig_val (a0, ()) z h2 l
noncomputable def Tryz_b53 : Code := Tryz.f53.body.getD .skip
theorem Tryz_F53 : FnF Tryz.prog 53 Tryz.f53 Tryz_b53 := ⟨Tryz_draw, by kernel_rfl, by kernel_rfl, by kernel_rfl⟩
def manifest_own_H : TH := { live := [(0, [1, 2]), (1, [1, 2]), (2, [1, 2, 10, 11]), (3, [1, 2, 10, 11, 12]), (4, [1, 2, 3, 10, 11]), (5, [1, 2, 10, 11]), (6, [1, 2, 10, 11]), (7, [2])], fresh := [6], nil := [(0, [⟨.ob 20 [2], 25, (.sl 37 t_api_Entry)⟩])] }
def manifest_own_E (N : Nat) : List Ent := [slices_Clone_EntryW_s, slices_Clone_SigW_s]
theorem manifest_own_Eok (N : Nat) : SmAll Tryz.prog (manifest_own_E N) := ⟨slices_Clone_EntryW_ok, slices_Clone_SigW_ok, trivial⟩
abbrev manifest_own_l3_F := List T_api_Entry × Vector UInt8 16 × T_api_Stamp × Nat × Vector UInt8 16 × T_api_Stamp × Int
abbrev manifest_own_l3_Y := List T_api_Entry × Int × Bool
def manifest_own_l3_o (f : manifest_own_l3_F) (y : manifest_own_l3_Y) : Ex × TSt := (.exit 0, ⟨0, 28, [], [(1, .p 10 [] 0), (2, .p 20 [] 0), (10, xi f.2.2.2.2.2.2), (11, xi y.2.1), (12, xb y.2.2)], [(10, .cell false (.ag [.tv (.ba 16) f.2.1, .tv t_api_Stamp f.2.2.1, .v 100050 f.2.2.2.1])), (20, .cell false (.ag [.tv (.ba 16) f.2.2.2.2.1, .tv t_api_Stamp f.2.2.2.2.2.1, .v 25 f.1.length])), (25, .vec false 37 (.sl 37 t_api_Entry) f.1), (100050, .vec false 37 (.sl 37 t_api_Entry) (y.1 : List T_api_Entry))], false, []⟩)
def manifest_own_l3_L (N : Nat) : List (Nat × LEnt) := []
abbrev manifest_own_l3_V := List T_api_Entry × Int
def manifest_own_l3_p : SP := ⟨0, 28, [], [(1, .k (.p 10 [] 0)), (2, .k (.p 20 [] 0)), (10, .x (.i .i64)), (11, .x (.i .i64))], [(10, .cell false (.ag [.x (.ba 16), .x t_api_Stamp, .v 100050])), (20, .cell false (.ag [.x (.ba 16), .x t_api_Stamp, .vs 25])), (25, .vec false 37), (100050, .vec false 37)], false, []⟩
def manifest_own_l3_h (f : manifest_own_l3_F) (v : manifest_own_l3_V) : TSt := fillS manifest_own_l3_p [dv (.sl 37 t_api_Entry) f.1, dv (.sl 37 t_api_Entry) v.1, dv (.ba 16) f.2.1, dv t_api_Stamp f.2.2.1, dv .nat f.2.2.2.1, dv (.ba 16) f.2.2.2.2.1, dv t_api_Stamp f.2.2.2.2.2.1, dv (.i .i64) f.2.2.2.2.2.2, dv (.i .i64) v.2]
def manifest_own_l3_t (N : Nat) (o_3 : List T_api_Entry) (o_3_3 : Vector UInt8 16) (o_3_4 : T_api_Stamp) (o_3_5 : Nat) (o_3_6 : Vector UInt8 16) (o_3_7 : T_api_Stamp) (s10_3 : Int) (v : manifest_own_l3_V) : Tree (manifest_own_l3_V ⊕ manifest_own_l3_Y) :=
 .cond (decide (v.2 < s10_3)) (
 .chk (0 ≤ v.2 ∧ v.2 < ((o_3_5 : Nat) : Int)) <|
 .bind (getV v.1 o_3_5 v.2.toNat) fun e1 =>
 .bind (slices_Clone_SigW (T_api_Entry.B e1)) fun r2 =>
 .chk (0 ≤ v.2 ∧ v.2 < ((o_3_5 : Nat) : Int)) <|
 .bind (getV v.1 o_3_5 v.2.toNat) fun e3 =>
 .chk (in64 (v.2 + 1)) <|
 .ret (.inl (v.1.set v.2.toNat (T_api_Entry.mk (T_api_Entry.No e3) (T_api_Entry.S e3) (T_api_Entry.Len e3) (T_api_Entry.D e3) ((([] : List T_api_Sig)) ++ (T_api_Entry.B e1))), v.2 + 1))) <|
 .ret (.inr (v.1, v.2, decide (v.2 < s10_3)))
def manifest_own_l3_n (N n : Nat) (f : manifest_own_l3_F) (v : manifest_own_l3_V) : Option manifest_own_l3_Y := loopG (manifest_own_l3_t N f.1 f.2.1 f.2.2.1 f.2.2.2.1 f.2.2.2.2.1 f.2.2.2.2.2.1 f.2.2.2.2.2.2) some n v
theorem manifest_own_l3_q (N : Nat) (f : manifest_own_l3_F) (n : Nat) (v : manifest_own_l3_V) (y : manifest_own_l3_Y) (h : manifest_own_l3_n N n f v = some y) : LG Tryz.prog manifest_own_H 53 (lookC Tryz_b53 3) (manifest_own_l3_h f v) (manifest_own_l3_o f y) :=
  loop_g Tryz_draw (E := manifest_own_E N) (L := lenv (manifest_own_l3_L N)) (st := manifest_own_l3_o f) (g := some) (R := manifest_own_l3_o f) (manifest_own_Eok N) (lenv_ok (by kernel_rfl) trivial) (rg0 (by kernel_rfl)) (fun v => by kernel_rfl) (good_self (st := manifest_own_l3_o f) fun y => by rfl) n v y h
def manifest_own_l3 (N : Nat) (o_3 : List T_api_Entry) (o_3_3 : Vector UInt8 16) (o_3_4 : T_api_Stamp) (o_3_5 : Nat) (o_3_6 : Vector UInt8 16) (o_3_7 : T_api_Stamp) (s10_3 : Int) (o_3_2 : List T_api_Entry) (s11_3 : Int) : Option manifest_own_l3_Y := manifest_own_l3_n N N (o_3, o_3_3, o_3_4, o_3_5, o_3_6, o_3_7, s10_3) (o_3_2, s11_3)
def manifest_own_l3_s (N : Nat) : LEnt := smL manifest_own_l3_p [(.sl 37 t_api_Entry), (.sl 37 t_api_Entry), (.ba 16), t_api_Stamp, .nat, (.ba 16), t_api_Stamp, (.i .i64), (.i .i64)] manifest_own_l3_Y (fun x => manifest_own_l3 N x.1 x.2.2.1 x.2.2.2.1 x.2.2.2.2.1 x.2.2.2.2.2.1 x.2.2.2.2.2.2.1 x.2.2.2.2.2.2.2.1 x.2.1 x.2.2.2.2.2.2.2.2.1) cs1 fun x => manifest_own_l3_o (x.1, x.2.2.1, x.2.2.2.1, x.2.2.2.2.1, x.2.2.2.2.2.1, x.2.2.2.2.2.2.1, x.2.2.2.2.2.2.2.1)
theorem manifest_own_l3_ok (N : Nat) : LsOK Tryz.prog manifest_own_H 53 (lookC Tryz_b53 3) (manifest_own_l3_s N) := smL_ok fun x z h => manifest_own_l3_q N (x.1, x.2.2.1, x.2.2.2.1, x.2.2.2.2.1, x.2.2.2.2.2.1, x.2.2.2.2.2.2.1, x.2.2.2.2.2.2.2.1) N (x.2.1, x.2.2.2.2.2.2.2.2.1) z h
def manifest_own_o (z : T_api_Line) : TV × THp := (.tv t_api_Line z, [])
def manifest_own_t (N : Nat) (a0 : T_api_Line) : Tree (T_api_Line) :=
 .bind (slices_Clone_EntryW (T_api_Line.F a0)) fun r1 =>
 .bind (chkLs [(([] : List T_api_Entry).length, 0)] (manifest_own_l3 N [] (T_api_Line.ID a0) (T_api_Line.Dead a0) (((([] : List T_api_Entry)) ++ (T_api_Line.F a0)).length) ((Vector.replicate 16 0)) (T_api_Stamp.mk 0 0) ((((([] : List T_api_Entry)) ++ (T_api_Line.F a0)).length : Nat) : Int) ((([] : List T_api_Entry)) ++ (T_api_Line.F a0)) 0)) fun z2 =>
 .chk (z2.1.length = ((([] : List T_api_Entry)) ++ (T_api_Line.F a0)).length) <|
 .ret (T_api_Line.mk (T_api_Line.ID a0) (T_api_Line.Dead a0) z2.1)
def manifest_own (N : Nat) (a0 : T_api_Line) : Option (T_api_Line) := (manifest_own_t N a0).run some
def manifest_own_L (N : Nat) : List (Nat × LEnt) := [(3, manifest_own_l3_s N)]
def manifest_own_s (N : Nat) : Ent := smF ⟨53, [], [.x t_api_Line], [], []⟩ [t_api_Line] (T_api_Line) (fun x => manifest_own N x.1) cs1 fun _ => manifest_own_o
theorem manifest_own_ok (N : Nat) : SmOK Tryz.prog (manifest_own_s N) :=
  fn_ok (H := manifest_own_H) (L := lenv (manifest_own_L N)) (ts := [t_api_Line]) (T := fun x => manifest_own_t N x.1) 0 Tryz_F53 (manifest_own_Eok N) (lenv_ok (by kernel_rfl) ⟨manifest_own_l3_ok N, trivial⟩) (rg0 (by kernel_rfl)) fun x => by kernel_rfl
noncomputable def Tryz_b18 : Code := Tryz.f18.body.getD .skip
theorem Tryz_F18 : FnF Tryz.prog 18 Tryz.f18 Tryz_b18 := ⟨Tryz_draw, by kernel_rfl, by kernel_rfl, by kernel_rfl⟩
def manifest_Line_H : TH := { live := [(0, [2, 3, 4]), (1, [2, 4, 6]), (2, [2, 4, 6, 12]), (3, [4, 5]), (4, [4, 5])], nil := [(0, [⟨.ob 40 [2], 45, (.sl 37 t_api_Entry)⟩]), (3, [⟨.ob 40 [2], 45, (.sl 37 t_api_Entry)⟩])] }
def manifest_Line_E (N : Nat) : List Ent := [slices_IndexFunc_Line_s N, manifest_own_s N]
theorem manifest_Line_Eok (N : Nat) : SmAll Tryz.prog (manifest_Line_E N) := ⟨slices_IndexFunc_Line_ok N, manifest_own_ok N, trivial⟩
def manifest_Line_o (z : T_api_Line × Bool) : TV × THp := (.tup [.tv t_api_Line (z.1 : T_api_Line), xb z.2], [])
def manifest_Line_t (N : Nat) (a0 : T_api_Manifest) (a1 : Vector UInt8 16) : Tree (T_api_Line × Bool) :=
 .bind (slices_IndexFunc_Line N a1 (T_api_Manifest.L a0)) fun r1 =>
 .cond (decide (r1 < ((0 : Int)))) (
 .chk (0 = 0) <|
 .ret (T_api_Line.mk ((Vector.replicate 16 0)) (T_api_Stamp.mk 0 0) [], false)) <|
 .bind (getI (T_api_Manifest.L a0) r1) fun e2 =>
 .bind (manifest_own N e2) fun r3 =>
 .ret (r3, true)
def manifest_Line (N : Nat) (a0 : T_api_Manifest) (a1 : Vector UInt8 16) : Option (T_api_Line × Bool) := (manifest_Line_t N a0 a1).run some
def manifest_Line_L (N : Nat) : List (Nat × LEnt) := []
def manifest_Line_s (N : Nat) : Ent := smF ⟨18, [], [.x t_api_Manifest, .x (.ba 16)], [], []⟩ [t_api_Manifest, (.ba 16)] (T_api_Line × Bool) (fun x => manifest_Line N x.1 x.2.1) cs1 fun _ => manifest_Line_o
theorem manifest_Line_ok (N : Nat) : SmOK Tryz.prog (manifest_Line_s N) :=
  fn_ok (H := manifest_Line_H) (L := lenv (manifest_Line_L N)) (ts := [t_api_Manifest, (.ba 16)]) (T := fun x => manifest_Line_t N x.1 x.2.1) 0 Tryz_F18 (manifest_Line_Eok N) (lenv_ok (by kernel_rfl) trivial) (rg0 (by kernel_rfl)) fun x => by kernel_rfl
noncomputable def Tryz_b19 : Code := Tryz.f19.body.getD .skip
theorem Tryz_F19 : FnF Tryz.prog 19 Tryz.f19 Tryz_b19 := ⟨Tryz_draw, by kernel_rfl, by kernel_rfl, by kernel_rfl⟩
def rolodexref12_Line_H : TH := { live := [(0, [2, 3, 4]), (1, [2, 3, 4, 6]), (2, [2, 3, 4, 6, 11]), (3, [2, 3, 4, 6]), (4, [2, 3, 4, 6, 21]), (5, [4, 5]), (6, [4, 5])], nil := [(0, [⟨.ob 40 [2], 45, (.sl 37 t_api_Entry)⟩]), (6, [⟨.ob 40 [2], 45, (.sl 37 t_api_Entry)⟩])] }
def rolodexref12_Line_E (N : Nat) : List Ent := []
theorem rolodexref12_Line_Eok (N : Nat) : SmAll Tryz.prog (rolodexref12_Line_E N) := trivial
abbrev rolodexref12_Line_l2_F := List T_api_Entry × T_api_Manifest × Vector UInt8 16 × Vector UInt8 16 × T_api_Stamp
abbrev rolodexref12_Line_l2_Y := T_api_Line ⊕ (Int × Bool)
def rolodexref12_Line_l2_o (f : rolodexref12_Line_l2_F) : rolodexref12_Line_l2_Y → Ex × TSt
 | .inl y => (.ret, ⟨0, 28, [], [(4, .p 40 [] 0), (5, .bc true)], [(40, .cell false (.tv t_api_Line y))], false, []⟩)
 | .inr y => (.exit 0, ⟨0, 28, [], [(2, .p 20 [] 0), (3, .p 30 [] 0), (4, .p 40 [] 0), (6, xi y.1), (11, xb y.2)], [(20, .cell false (.tv t_api_Manifest f.2.1)), (30, .cell false (.tv (.ba 16) f.2.2.1)), (40, .cell false (.ag [.tv (.ba 16) f.2.2.2.1, .tv t_api_Stamp f.2.2.2.2, .v 45 f.1.length])), (45, .vec false 37 (.sl 37 t_api_Entry) f.1)], false, []⟩)
def rolodexref12_Line_l2_L (N : Nat) : List (Nat × LEnt) := []
abbrev rolodexref12_Line_l2_V := Int
def rolodexref12_Line_l2_p : SP := ⟨0, 28, [], [(2, .k (.p 20 [] 0)), (3, .k (.p 30 [] 0)), (4, .k (.p 40 [] 0)), (6, .x (.i .i64))], [(20, .cell false (.x t_api_Manifest)), (30, .cell false (.x (.ba 16))), (40, .cell false (.ag [.x (.ba 16), .x t_api_Stamp, .vs 45])), (45, .vec false 37)], false, []⟩
def rolodexref12_Line_l2_h (f : rolodexref12_Line_l2_F) (v : rolodexref12_Line_l2_V) : TSt := fillS rolodexref12_Line_l2_p [dv (.sl 37 t_api_Entry) f.1, dv t_api_Manifest f.2.1, dv (.ba 16) f.2.2.1, dv (.ba 16) f.2.2.2.1, dv t_api_Stamp f.2.2.2.2, dv (.i .i64) v]
def rolodexref12_Line_l2_t (N : Nat) (o_2 : List T_api_Entry) (o_2_2 : T_api_Manifest) (o_2_3 : Vector UInt8 16) (o_2_4 : Vector UInt8 16) (o_2_5 : T_api_Stamp) (v : rolodexref12_Line_l2_V) : Tree (rolodexref12_Line_l2_V ⊕ rolodexref12_Line_l2_Y) :=
 .cond (decide (v < (((T_api_Manifest.L o_2_2).length : Nat) : Int))) (
 .bind (getI (T_api_Manifest.L o_2_2) v) fun e1 =>
 .cond (eqE (.ba 16) (T_api_Line.ID e1) o_2_3) (
 .bind (getI (T_api_Manifest.L o_2_2) v) fun e2 =>
 .ret (.inr (.inl e2))) <|
 .chk (in64 (v + 1)) <|
 .ret (.inl (v + 1))) <|
 .ret (.inr (.inr ((v, decide (v < (((T_api_Manifest.L o_2_2).length : Nat) : Int))))))
def rolodexref12_Line_l2_n (N n : Nat) (f : rolodexref12_Line_l2_F) (v : rolodexref12_Line_l2_V) : Option rolodexref12_Line_l2_Y := loopG (rolodexref12_Line_l2_t N f.1 f.2.1 f.2.2.1 f.2.2.2.1 f.2.2.2.2) some n v
theorem rolodexref12_Line_l2_q (N : Nat) (f : rolodexref12_Line_l2_F) (n : Nat) (v : rolodexref12_Line_l2_V) (y : rolodexref12_Line_l2_Y) (h : rolodexref12_Line_l2_n N n f v = some y) : LG Tryz.prog rolodexref12_Line_H 19 (lookC Tryz_b19 2) (rolodexref12_Line_l2_h f v) (rolodexref12_Line_l2_o f y) :=
  loop_g Tryz_draw (E := rolodexref12_Line_E N) (L := lenv (rolodexref12_Line_l2_L N)) (st := rolodexref12_Line_l2_o f) (g := some) (R := rolodexref12_Line_l2_o f) (rolodexref12_Line_Eok N) (lenv_ok (by kernel_rfl) trivial) (rg0 (by kernel_rfl)) (fun v => by kernel_rfl) (good_self (st := rolodexref12_Line_l2_o f) fun y => by rcases y with _ | _ <;> rfl) n v y h
def rolodexref12_Line_l2 (N : Nat) (o_2 : List T_api_Entry) (o_2_2 : T_api_Manifest) (o_2_3 : Vector UInt8 16) (o_2_4 : Vector UInt8 16) (o_2_5 : T_api_Stamp) (s6_2 : Int) : Option rolodexref12_Line_l2_Y := rolodexref12_Line_l2_n N N (o_2, o_2_2, o_2_3, o_2_4, o_2_5) s6_2
def rolodexref12_Line_l2_s (N : Nat) : LEnt := smL rolodexref12_Line_l2_p [(.sl 37 t_api_Entry), t_api_Manifest, (.ba 16), (.ba 16), t_api_Stamp, (.i .i64)] rolodexref12_Line_l2_Y (fun x => rolodexref12_Line_l2 N x.1 x.2.1 x.2.2.1 x.2.2.2.1 x.2.2.2.2.1 x.2.2.2.2.2.1) (csS cs1) fun x => rolodexref12_Line_l2_o (x.1, x.2.1, x.2.2.1, x.2.2.2.1, x.2.2.2.2.1)
theorem rolodexref12_Line_l2_ok (N : Nat) : LsOK Tryz.prog rolodexref12_Line_H 19 (lookC Tryz_b19 2) (rolodexref12_Line_l2_s N) := smL_ok fun x z h => rolodexref12_Line_l2_q N (x.1, x.2.1, x.2.2.1, x.2.2.2.1, x.2.2.2.2.1) N x.2.2.2.2.2.1 z h
def rolodexref12_Line_o (z : T_api_Line × Bool) : TV × THp := (.tup [.tv t_api_Line (z.1 : T_api_Line), xb z.2], [])
def rolodexref12_Line_t (N : Nat) (a0 : T_api_Manifest) (a1 : Vector UInt8 16) : Tree (T_api_Line × Bool) :=
 .bind (chkLs [(([] : List T_api_Entry).length, 0)] (rolodexref12_Line_l2 N [] a0 a1 ((Vector.replicate 16 0)) (T_api_Stamp.mk 0 0) 0)) fun z1 =>
 .sum z1 (fun z2 =>
 .ret (z2, true)) fun z2 =>
 .chk (0 = 0) <|
 .ret (T_api_Line.mk ((Vector.replicate 16 0)) (T_api_Stamp.mk 0 0) [], false)
def rolodexref12_Line (N : Nat) (a0 : T_api_Manifest) (a1 : Vector UInt8 16) : Option (T_api_Line × Bool) := (rolodexref12_Line_t N a0 a1).run some
def rolodexref12_Line_L (N : Nat) : List (Nat × LEnt) := [(2, rolodexref12_Line_l2_s N)]
def rolodexref12_Line_s (N : Nat) : Ent := smF ⟨19, [], [.x t_api_Manifest, .x (.ba 16)], [], []⟩ [t_api_Manifest, (.ba 16)] (T_api_Line × Bool) (fun x => rolodexref12_Line N x.1 x.2.1) cs1 fun _ => rolodexref12_Line_o
theorem rolodexref12_Line_ok (N : Nat) : SmOK Tryz.prog (rolodexref12_Line_s N) :=
  fn_ok (H := rolodexref12_Line_H) (L := lenv (rolodexref12_Line_L N)) (ts := [t_api_Manifest, (.ba 16)]) (T := fun x => rolodexref12_Line_t N x.1 x.2.1) 0 Tryz_F19 (rolodexref12_Line_Eok N) (lenv_ok (by kernel_rfl) ⟨rolodexref12_Line_l2_ok N, trivial⟩) (rg0 (by kernel_rfl)) fun x => by kernel_rfl
noncomputable def Tryz_b55 : Code := Tryz.f55.body.getD .skip
theorem Tryz_F55 : FnF Tryz.prog 55 Tryz.f55 Tryz_b55 := ⟨Tryz_draw, by kernel_rfl, by kernel_rfl, by kernel_rfl⟩
def manifest_Find_1_H : TH := { live := [(0, [1, 2]), (1, [3])] }
def manifest_Find_1_E (N : Nat) : List Ent := []
theorem manifest_Find_1_Eok (N : Nat) : SmAll Tryz.prog (manifest_Find_1_E N) := trivial
def manifest_Find_1_o (a0 : Int) (a1 : T_api_Entry) (z : Unit) : TV × THp := (xb (decide ((T_api_Entry.No a1) = a0)), [(50, .cell false (xi a0))])
def manifest_Find_1_t (a0 : Int) (a1 : T_api_Entry) : Tree (Unit) :=
 .ret ()
def manifest_Find_1 (a0 : Int) (a1 : T_api_Entry) : Option (Unit) := (manifest_Find_1_t a0 a1).run some
def manifest_Find_1_L : List (Nat × LEnt) := []
def manifest_Find_1_s : Ent := smF ⟨55, [], [.x t_api_Entry], [.k (.p 50 [] 0)], [(50, .cell false (.x (.i .i64)))]⟩ [(.i .i64), t_api_Entry] (Unit) (fun x => manifest_Find_1 x.1 x.2.1) cs1 fun x => manifest_Find_1_o x.1 x.2.1
theorem manifest_Find_1_ok : SmOK Tryz.prog (manifest_Find_1_s) :=
  fn_ok (H := manifest_Find_1_H) (L := lenv (manifest_Find_1_L)) (ts := [(.i .i64), t_api_Entry]) (T := fun x => manifest_Find_1_t x.1 x.2.1) 0 Tryz_F55 (manifest_Find_1_Eok 0) (lenv_ok (by kernel_rfl) trivial) (rg0 (by kernel_rfl)) fun x => by kernel_rfl
noncomputable def Tryz_b54 : Code := Tryz.f54.body.getD .skip
theorem Tryz_F54 : FnF Tryz.prog 54 Tryz.f54 Tryz_b54 := ⟨Tryz_draw, by kernel_rfl, by kernel_rfl, by kernel_rfl⟩
def slices_IndexFunc_Entry_H : TH := { live := [(0, [0, 1]), (1, [0, 1, 7, 8]), (2, [0, 1, 7, 8, 9]), (3, [0, 1, 5, 7, 8]), (4, [0, 1, 5, 7, 8, 16]), (5, [4]), (6, [0, 1, 7, 8]), (7, [4])] }
def slices_IndexFunc_Entry_E (N : Nat) : List Ent := [manifest_Find_1_s]
theorem slices_IndexFunc_Entry_Eok (N : Nat) : SmAll Tryz.prog (slices_IndexFunc_Entry_E N) := ⟨manifest_Find_1_ok, trivial⟩
abbrev slices_IndexFunc_Entry_l2_F := Int × List T_api_Entry × Int
abbrev slices_IndexFunc_Entry_l2_Y := Int ⊕ (Int × Bool)
def slices_IndexFunc_Entry_l2_o (f : slices_IndexFunc_Entry_l2_F) : slices_IndexFunc_Entry_l2_Y → Ex × TSt
 | .inl y => (.ret, ⟨1, 19, [50], [(4, xi y)], [(50, .cell false (xi f.1))], false, []⟩)
 | .inr y => (.exit 0, ⟨1, 19, [50], [(0, .tv (.sl 37 t_api_Entry) f.2.1), (1, .fn (.func 55) [] [.p 50 [] 0]), (7, xi f.2.2), (8, xi y.1), (9, xb y.2)], [(50, .cell false (xi f.1))], false, []⟩)
def slices_IndexFunc_Entry_l2_L (N : Nat) : List (Nat × LEnt) := []
abbrev slices_IndexFunc_Entry_l2_V := Int
def slices_IndexFunc_Entry_l2_p : SP := ⟨1, 19, [50], [(0, .x (.sl 37 t_api_Entry)), (1, .fn 55 [] [.k (.p 50 [] 0)]), (7, .x (.i .i64)), (8, .x (.i .i64))], [(50, .cell false (.x (.i .i64)))], false, []⟩
def slices_IndexFunc_Entry_l2_h (f : slices_IndexFunc_Entry_l2_F) (v : slices_IndexFunc_Entry_l2_V) : TSt := fillS slices_IndexFunc_Entry_l2_p [dv (.i .i64) f.1, dv (.sl 37 t_api_Entry) f.2.1, dv (.i .i64) f.2.2, dv (.i .i64) v]
def slices_IndexFunc_Entry_l2_t (N : Nat) (o_2 : Int) (s0_2 : List T_api_Entry) (s7_2 : Int) (v : slices_IndexFunc_Entry_l2_V) : Tree (slices_IndexFunc_Entry_l2_V ⊕ slices_IndexFunc_Entry_l2_Y) :=
 .cond (decide (v < s7_2)) (
 .bind (getI s0_2 v) fun e1 =>
 .bind (manifest_Find_1 o_2 e1) fun r2 =>
 .cond (decide ((T_api_Entry.No e1) = o_2)) (
 .ret (.inr (.inl v))) <|
 .chk (in64 (v + 1)) <|
 .ret (.inl (v + 1))) <|
 .ret (.inr (.inr ((v, decide (v < s7_2)))))
def slices_IndexFunc_Entry_l2_n (N n : Nat) (f : slices_IndexFunc_Entry_l2_F) (v : slices_IndexFunc_Entry_l2_V) : Option slices_IndexFunc_Entry_l2_Y := loopG (slices_IndexFunc_Entry_l2_t N f.1 f.2.1 f.2.2) some n v
theorem slices_IndexFunc_Entry_l2_q (N : Nat) (f : slices_IndexFunc_Entry_l2_F) (n : Nat) (v : slices_IndexFunc_Entry_l2_V) (y : slices_IndexFunc_Entry_l2_Y) (h : slices_IndexFunc_Entry_l2_n N n f v = some y) : LG Tryz.prog slices_IndexFunc_Entry_H 54 (lookC Tryz_b54 2) (slices_IndexFunc_Entry_l2_h f v) (slices_IndexFunc_Entry_l2_o f y) :=
  loop_g Tryz_draw (E := slices_IndexFunc_Entry_E N) (L := lenv (slices_IndexFunc_Entry_l2_L N)) (st := slices_IndexFunc_Entry_l2_o f) (g := some) (R := slices_IndexFunc_Entry_l2_o f) (slices_IndexFunc_Entry_Eok N) (lenv_ok (by kernel_rfl) trivial) (rg0 (by kernel_rfl)) (fun v => by kernel_rfl) (good_self (st := slices_IndexFunc_Entry_l2_o f) fun y => by rcases y with _ | _ <;> rfl) n v y h
def slices_IndexFunc_Entry_l2 (N : Nat) (o_2 : Int) (s0_2 : List T_api_Entry) (s7_2 : Int) (s8_2 : Int) : Option slices_IndexFunc_Entry_l2_Y := slices_IndexFunc_Entry_l2_n N N (o_2, s0_2, s7_2) s8_2
def slices_IndexFunc_Entry_l2_s (N : Nat) : LEnt := smL slices_IndexFunc_Entry_l2_p [(.i .i64), (.sl 37 t_api_Entry), (.i .i64), (.i .i64)] slices_IndexFunc_Entry_l2_Y (fun x => slices_IndexFunc_Entry_l2 N x.1 x.2.1 x.2.2.1 x.2.2.2.1) (csS cs1) fun x => slices_IndexFunc_Entry_l2_o (x.1, x.2.1, x.2.2.1)
theorem slices_IndexFunc_Entry_l2_ok (N : Nat) : LsOK Tryz.prog slices_IndexFunc_Entry_H 54 (lookC Tryz_b54 2) (slices_IndexFunc_Entry_l2_s N) := smL_ok fun x z h => slices_IndexFunc_Entry_l2_q N (x.1, x.2.1, x.2.2.1) N x.2.2.2.1 z h
def slices_IndexFunc_Entry_o (a0 : Int) (z : Int) : TV × THp := (xi z, [(50, .cell false (xi a0))])
def slices_IndexFunc_Entry_t (N : Nat) (a0 : Int) (a1 : List T_api_Entry) : Tree (Int) :=
 .bind (slices_IndexFunc_Entry_l2 N a0 a1 ((a1.length : Nat) : Int) 0) fun z1 =>
 .sum z1 (fun z2 =>
 .ret z2) fun z2 =>
 .ret (-1)
def slices_IndexFunc_Entry (N : Nat) (a0 : Int) (a1 : List T_api_Entry) : Option (Int) := (slices_IndexFunc_Entry_t N a0 a1).run some
def slices_IndexFunc_Entry_L (N : Nat) : List (Nat × LEnt) := [(2, slices_IndexFunc_Entry_l2_s N)]
def slices_IndexFunc_Entry_s (N : Nat) : Ent := smF ⟨54, [], [.x (.sl 37 t_api_Entry), .fn 55 [] [.k (.p 50 [] 0)]], [], [(50, .cell false (.x (.i .i64)))]⟩ [(.i .i64), (.sl 37 t_api_Entry)] (Int) (fun x => slices_IndexFunc_Entry N x.1 x.2.1) cs1 fun x => slices_IndexFunc_Entry_o x.1
theorem slices_IndexFunc_Entry_ok (N : Nat) : SmOK Tryz.prog (slices_IndexFunc_Entry_s N) :=
  fn_ok (H := slices_IndexFunc_Entry_H) (L := lenv (slices_IndexFunc_Entry_L N)) (ts := [(.i .i64), (.sl 37 t_api_Entry)]) (T := fun x => slices_IndexFunc_Entry_t N x.1 x.2.1) 0 Tryz_F54 (slices_IndexFunc_Entry_Eok N) (lenv_ok (by kernel_rfl) ⟨slices_IndexFunc_Entry_l2_ok N, trivial⟩) (rg0 (by kernel_rfl)) fun x => by kernel_rfl
noncomputable def Tryz_b20 : Code := Tryz.f20.body.getD .skip
theorem Tryz_F20 : FnF Tryz.prog 20 Tryz.f20 Tryz_b20 := ⟨Tryz_draw, by kernel_rfl, by kernel_rfl, by kernel_rfl⟩
def manifest_Find_H : TH := { live := [(0, [3, 4, 5, 6]), (1, [5, 6, 8]), (2, [6, 8, 10]), (3, [6, 8, 10, 22]), (4, [6, 7]), (5, [6, 7])] }
def manifest_Find_E (N : Nat) : List Ent := [manifest_Line_s N, slices_IndexFunc_Entry_s N]
theorem manifest_Find_Eok (N : Nat) : SmAll Tryz.prog (manifest_Find_E N) := ⟨manifest_Line_ok N, slices_IndexFunc_Entry_ok N, trivial⟩
def manifest_Find_o (z : T_api_Entry × Bool) : TV × THp := (.tup [.tv t_api_Entry (z.1 : T_api_Entry), xb z.2], [])
def manifest_Find_t (N : Nat) (a0 : T_api_Manifest) (a1 : Vector UInt8 16) (a2 : Int) : Tree (T_api_Entry × Bool) :=
 .bind (manifest_Line N a0 a1) fun r1 =>
 .bind (slices_IndexFunc_Entry N a2 (T_api_Line.F r1.1)) fun r2 =>
 .cond (decide (r2 < ((0 : Int)))) (
 .ret (T_api_Entry.mk 0 (T_api_Stamp.mk 0 0) 0 ((Vector.replicate 32 0)) [], false)) <|
 .bind (getI (T_api_Line.F r1.1) r2) fun e3 =>
 .ret (e3, true)
def manifest_Find (N : Nat) (a0 : T_api_Manifest) (a1 : Vector UInt8 16) (a2 : Int) : Option (T_api_Entry × Bool) := (manifest_Find_t N a0 a1 a2).run some
def manifest_Find_L (N : Nat) : List (Nat × LEnt) := []
def manifest_Find_s (N : Nat) : Ent := smF ⟨20, [], [.x t_api_Manifest, .x (.ba 16), .x (.i .i64)], [], []⟩ [t_api_Manifest, (.ba 16), (.i .i64)] (T_api_Entry × Bool) (fun x => manifest_Find N x.1 x.2.1 x.2.2.1) cs1 fun _ => manifest_Find_o
theorem manifest_Find_ok (N : Nat) : SmOK Tryz.prog (manifest_Find_s N) :=
  fn_ok (H := manifest_Find_H) (L := lenv (manifest_Find_L N)) (ts := [t_api_Manifest, (.ba 16), (.i .i64)]) (T := fun x => manifest_Find_t N x.1 x.2.1 x.2.2.1) 0 Tryz_F20 (manifest_Find_Eok N) (lenv_ok (by kernel_rfl) trivial) (rg0 (by kernel_rfl)) fun x => by kernel_rfl
noncomputable def Tryz_b21 : Code := Tryz.f21.body.getD .skip
theorem Tryz_F21 : FnF Tryz.prog 21 Tryz.f21 Tryz_b21 := ⟨Tryz_draw, by kernel_rfl, by kernel_rfl, by kernel_rfl⟩
def rolodexref12_Find_H : TH := { live := [(0, [2, 3, 4, 6]), (1, [2, 6, 8]), (2, [2, 6, 8, 10]), (3, [2, 6, 8, 10, 21]), (4, [2, 6, 8, 10]), (5, [2, 6, 8, 10, 31]), (6, [6, 7]), (7, [6, 7])] }
def rolodexref12_Find_E (N : Nat) : List Ent := [rolodexref12_Line_s N]
theorem rolodexref12_Find_Eok (N : Nat) : SmAll Tryz.prog (rolodexref12_Find_E N) := ⟨rolodexref12_Line_ok N, trivial⟩
abbrev rolodexref12_Find_l3_F := T_api_Stamp × Vector UInt8 32 × T_api_Line × Int
abbrev rolodexref12_Find_l3_Y := T_api_Entry ⊕ (Int × Bool)
def rolodexref12_Find_l3_o (f : rolodexref12_Find_l3_F) : rolodexref12_Find_l3_Y → Ex × TSt
 | .inl y => (.ret, ⟨0, 38, [], [(6, .p 60 [] 0), (7, .bc true)], [(60, .cell false (.tv t_api_Entry y))], false, []⟩)
 | .inr y => (.exit 0, ⟨0, 38, [], [(2, xi f.2.2.2), (6, .p 60 [] 0), (8, .p 80 [] 0), (10, xi y.1), (21, xb y.2)], [(60, .cell false (.ag [.ic .i64 0, .tv t_api_Stamp f.1, .ic .i64 0, .tv (.ba 32) f.2.1, .nils])), (80, .cell false (.tv t_api_Line f.2.2.1))], false, []⟩)
def rolodexref12_Find_l3_L (N : Nat) : List (Nat × LEnt) := []
abbrev rolodexref12_Find_l3_V := Int
def rolodexref12_Find_l3_p : SP := ⟨0, 38, [], [(2, .x (.i .i64)), (6, .k (.p 60 [] 0)), (8, .k (.p 80 [] 0)), (10, .x (.i .i64))], [(60, .cell false (.ag [.k (.ic .i64 0), .x t_api_Stamp, .k (.ic .i64 0), .x (.ba 32), .k .nils])), (80, .cell false (.x t_api_Line))], false, []⟩
def rolodexref12_Find_l3_h (f : rolodexref12_Find_l3_F) (v : rolodexref12_Find_l3_V) : TSt := fillS rolodexref12_Find_l3_p [dv t_api_Stamp f.1, dv (.ba 32) f.2.1, dv t_api_Line f.2.2.1, dv (.i .i64) f.2.2.2, dv (.i .i64) v]
def rolodexref12_Find_l3_t (N : Nat) (o_3 : T_api_Stamp) (o_3_2 : Vector UInt8 32) (o_3_3 : T_api_Line) (s2_3 : Int) (v : rolodexref12_Find_l3_V) : Tree (rolodexref12_Find_l3_V ⊕ rolodexref12_Find_l3_Y) :=
 .cond (decide (v < (((T_api_Line.F o_3_3).length : Nat) : Int))) (
 .bind (getI (T_api_Line.F o_3_3) v) fun e1 =>
 .cond (decide ((T_api_Entry.No e1) = s2_3)) (
 .bind (getI (T_api_Line.F o_3_3) v) fun e2 =>
 .ret (.inr (.inl e2))) <|
 .chk (in64 (v + 1)) <|
 .ret (.inl (v + 1))) <|
 .ret (.inr (.inr ((v, decide (v < (((T_api_Line.F o_3_3).length : Nat) : Int))))))
def rolodexref12_Find_l3_n (N n : Nat) (f : rolodexref12_Find_l3_F) (v : rolodexref12_Find_l3_V) : Option rolodexref12_Find_l3_Y := loopG (rolodexref12_Find_l3_t N f.1 f.2.1 f.2.2.1 f.2.2.2) some n v
theorem rolodexref12_Find_l3_q (N : Nat) (f : rolodexref12_Find_l3_F) (n : Nat) (v : rolodexref12_Find_l3_V) (y : rolodexref12_Find_l3_Y) (h : rolodexref12_Find_l3_n N n f v = some y) : LG Tryz.prog rolodexref12_Find_H 21 (lookC Tryz_b21 3) (rolodexref12_Find_l3_h f v) (rolodexref12_Find_l3_o f y) :=
  loop_g Tryz_draw (E := rolodexref12_Find_E N) (L := lenv (rolodexref12_Find_l3_L N)) (st := rolodexref12_Find_l3_o f) (g := some) (R := rolodexref12_Find_l3_o f) (rolodexref12_Find_Eok N) (lenv_ok (by kernel_rfl) trivial) (rg0 (by kernel_rfl)) (fun v => by kernel_rfl) (good_self (st := rolodexref12_Find_l3_o f) fun y => by rcases y with _ | _ <;> rfl) n v y h
def rolodexref12_Find_l3 (N : Nat) (o_3 : T_api_Stamp) (o_3_2 : Vector UInt8 32) (o_3_3 : T_api_Line) (s2_3 : Int) (s10_3 : Int) : Option rolodexref12_Find_l3_Y := rolodexref12_Find_l3_n N N (o_3, o_3_2, o_3_3, s2_3) s10_3
def rolodexref12_Find_l3_s (N : Nat) : LEnt := smL rolodexref12_Find_l3_p [t_api_Stamp, (.ba 32), t_api_Line, (.i .i64), (.i .i64)] rolodexref12_Find_l3_Y (fun x => rolodexref12_Find_l3 N x.1 x.2.1 x.2.2.1 x.2.2.2.1 x.2.2.2.2.1) (csS cs1) fun x => rolodexref12_Find_l3_o (x.1, x.2.1, x.2.2.1, x.2.2.2.1)
theorem rolodexref12_Find_l3_ok (N : Nat) : LsOK Tryz.prog rolodexref12_Find_H 21 (lookC Tryz_b21 3) (rolodexref12_Find_l3_s N) := smL_ok fun x z h => rolodexref12_Find_l3_q N (x.1, x.2.1, x.2.2.1, x.2.2.2.1) N x.2.2.2.2.1 z h
def rolodexref12_Find_o (z : T_api_Entry × Bool) : TV × THp := (.tup [.tv t_api_Entry (z.1 : T_api_Entry), xb z.2], [])
def rolodexref12_Find_t (N : Nat) (a0 : T_api_Manifest) (a1 : Vector UInt8 16) (a2 : Int) : Tree (T_api_Entry × Bool) :=
 .bind (rolodexref12_Line N a0 a1) fun r1 =>
 .bind (rolodexref12_Find_l3 N (T_api_Stamp.mk 0 0) ((Vector.replicate 32 0)) r1.1 a2 0) fun z2 =>
 .sum z2 (fun z3 =>
 .ret (z3, true)) fun z3 =>
 .ret (T_api_Entry.mk 0 (T_api_Stamp.mk 0 0) 0 ((Vector.replicate 32 0)) [], false)
def rolodexref12_Find (N : Nat) (a0 : T_api_Manifest) (a1 : Vector UInt8 16) (a2 : Int) : Option (T_api_Entry × Bool) := (rolodexref12_Find_t N a0 a1 a2).run some
def rolodexref12_Find_L (N : Nat) : List (Nat × LEnt) := [(3, rolodexref12_Find_l3_s N)]
def rolodexref12_Find_s (N : Nat) : Ent := smF ⟨21, [], [.x t_api_Manifest, .x (.ba 16), .x (.i .i64)], [], []⟩ [t_api_Manifest, (.ba 16), (.i .i64)] (T_api_Entry × Bool) (fun x => rolodexref12_Find N x.1 x.2.1 x.2.2.1) cs1 fun _ => rolodexref12_Find_o
theorem rolodexref12_Find_ok (N : Nat) : SmOK Tryz.prog (rolodexref12_Find_s N) :=
  fn_ok (H := rolodexref12_Find_H) (L := lenv (rolodexref12_Find_L N)) (ts := [t_api_Manifest, (.ba 16), (.i .i64)]) (T := fun x => rolodexref12_Find_t N x.1 x.2.1 x.2.2.1) 0 Tryz_F21 (rolodexref12_Find_Eok N) (lenv_ok (by kernel_rfl) ⟨rolodexref12_Find_l3_ok N, trivial⟩) (rg0 (by kernel_rfl)) fun x => by kernel_rfl
noncomputable def Tryz_b56 : Code := Tryz.f56.body.getD .skip
theorem Tryz_F56 : FnF Tryz.prog 56 Tryz.f56 Tryz_b56 := ⟨Tryz_draw, by kernel_rfl, by kernel_rfl, by kernel_rfl⟩
def manifest_all_H : TH := { live := [(0, [1]), (1, [2])], esc := true }
def manifest_all_E (N : Nat) : List Ent := []
theorem manifest_all_Eok (N : Nat) : SmAll Tryz.prog (manifest_all_E N) := trivial
def manifest_all_o (a0 : T_api_Manifest) (z : Unit) : TV × THp := (.fn (.func 83) [] [.p 100010 [] 0], [(100010, .cell false (.tv t_api_Manifest a0))])
def manifest_all_t (a0 : T_api_Manifest) : Tree (Unit) :=
 .ret ()
def manifest_all (a0 : T_api_Manifest) : Option (Unit) := (manifest_all_t a0).run some
def manifest_all_L : List (Nat × LEnt) := []
def manifest_all_s : Ent := smF ⟨56, [], [.x t_api_Manifest], [], []⟩ [t_api_Manifest] (Unit) (fun x => manifest_all x.1) cs1 fun x => manifest_all_o x.1
theorem manifest_all_ok : SmOK Tryz.prog (manifest_all_s) :=
  fn_ok (H := manifest_all_H) (L := lenv (manifest_all_L)) (ts := [t_api_Manifest]) (T := fun x => manifest_all_t x.1) 0 Tryz_F56 (manifest_all_Eok 0) (lenv_ok (by kernel_rfl) trivial) (rg0 (by kernel_rfl)) fun x => by kernel_rfl
def round_manifest_Like_3_H : TH := { live := [(0, [2, 3, 4, 6]), (1, [2, 3, 4, 6, 9]), (2, [2, 4, 6, 9, 18]), (3, [9, 10, 20]), (4, [9, 10, 11]), (5, [9, 10, 11, 13]), (6, [9, 10, 11, 28]), (8, [6, 14, 15]), (9, [6, 7, 8])], fresh := [18] }
def round_manifest_Like_3_E (N : Nat) : List Ent := []
theorem round_manifest_Like_3_Eok (N : Nat) : SmAll Tryz.prog (round_manifest_Like_3_E N) := trivial
def round_manifest_Like_3_o (a2 : Vector UInt8 32) (a3 : Vector UInt8 16) (a4 : Int) (a5 : T_api_Manifest) (z : Nat × List (T_manifest_kind × T_manifest_place × Nat)) : TV × THp := (.bc true, [(40, .cell false (.tv (.ba 32) a2)), (60, .cell false (.tv (.ba 16) a3)), (90, .cell false (.m 160)), (160, .map z.1 t_manifest_kind t_manifest_place (z.2 : List (T_manifest_kind × T_manifest_place × Nat))), (50030, .loop [19, 20] 45 [(2, xi a4), (4, .p 40 [] 0), (6, .p 60 [] 0), (9, .p 90 [] 0), (18, .fn (.func 83) [] [.p 100010 [] 0])] 2200003 22 .ready none 50031), (50031, .dfr true), (100010, .cell false (.tv t_api_Manifest a5))])
def round_manifest_Like_3_t (a0 : Nat) (a1 : List (T_manifest_kind × T_manifest_place × Nat)) (a2 : Vector UInt8 32) (a3 : Vector UInt8 16) (a4 : Int) (a5 : T_api_Manifest) (a6 : T_manifest_place) (a7 : T_manifest_kind) : Tree (Nat × List (T_manifest_kind × T_manifest_place × Nat)) :=
 .opt (fnd (β := T_manifest_place) t_manifest_kind a7 a1) (
 .ret ((putE t_manifest_kind a7 a6 a0 a1).1, (putE t_manifest_kind a7 a6 a0 a1).2)) fun e1 =>
 .ret (a0, a1)
def round_manifest_Like_3 (a0 : Nat) (a1 : List (T_manifest_kind × T_manifest_place × Nat)) (a2 : Vector UInt8 32) (a3 : Vector UInt8 16) (a4 : Int) (a5 : T_api_Manifest) (a6 : T_manifest_place) (a7 : T_manifest_kind) : Option (Nat × List (T_manifest_kind × T_manifest_place × Nat)) := (round_manifest_Like_3_t a0 a1 a2 a3 a4 a5 a6 a7).run some
def round_manifest_Like_3_L : List (Nat × LEnt) := []
def round_manifest_Like_3_s : Ent := smR 50030 [.x t_manifest_place, .x t_manifest_kind] [(40, .cell false (.x (.ba 32))), (60, .cell false (.x (.ba 16))), (90, .cell false (.k (.m 160))), (160, .map t_manifest_kind t_manifest_place), (50030, .loop [19, 20] 45 [(2, .x (.i .i64)), (4, .k (.p 40 [] 0)), (6, .k (.p 60 [] 0)), (9, .k (.p 90 [] 0)), (18, .fn 83 [] [.k (.p 100010 [] 0)])] 2200003 22 .ready none 50031), (50031, .dfr true), (100010, .cell false (.x t_api_Manifest))] [.nat, (entT t_manifest_kind t_manifest_place), (.ba 32), (.ba 16), (.i .i64), t_api_Manifest, t_manifest_place, t_manifest_kind] (Nat × List (T_manifest_kind × T_manifest_place × Nat)) (fun x => round_manifest_Like_3 x.1 x.2.1 x.2.2.1 x.2.2.2.1 x.2.2.2.2.1 x.2.2.2.2.2.1 x.2.2.2.2.2.2.1 x.2.2.2.2.2.2.2.1) cs1 fun x => round_manifest_Like_3_o x.2.2.1 x.2.2.2.1 x.2.2.2.2.1 x.2.2.2.2.2.1
theorem round_manifest_Like_3_ok : SmOK Tryz.prog (round_manifest_Like_3_s) :=
  rd_ok (H := round_manifest_Like_3_H) (L := lenv (round_manifest_Like_3_L)) (ts := [.nat, (entT t_manifest_kind t_manifest_place), (.ba 32), (.ba 16), (.i .i64), t_api_Manifest, t_manifest_place, t_manifest_kind]) (T := fun x => round_manifest_Like_3_t x.1 x.2.1 x.2.2.1 x.2.2.2.1 x.2.2.2.2.1 x.2.2.2.2.2.1 x.2.2.2.2.2.2.1 x.2.2.2.2.2.2.2.1) (K := 22) (cid := 2200003) 2 Tryz_draw (round_manifest_Like_3_Eok 0) (by kernel_rfl) (lenv_ok (by kernel_rfl) trivial) (rg0 (by kernel_rfl)) (rg0 (by kernel_rfl)) (fun x => by kernel_rfl) fun x => by kernel_rfl
noncomputable def Tryz_b83 : Code := Tryz.f83.body.getD .skip
theorem Tryz_F83 : FnF Tryz.prog 83 Tryz.f83 Tryz_b83 := ⟨Tryz_draw, by kernel_rfl, by kernel_rfl, by kernel_rfl⟩
def manifest_all_1_H : TH := { live := [(0, [0, 8, 9, 10]), (1, [0, 8, 9, 10, 11]), (2, [0, 4, 8, 9, 10]), (3, [0, 4, 8, 9, 10, 15, 16, 17]), (4, [0, 4, 8, 9, 10, 15, 16, 17, 18]), (5, [0, 4, 6, 8, 9, 10, 15, 16, 17]), (6, [0, 4, 8, 9, 10, 15, 16, 17, 33]), (7, [0, 4, 8, 9, 10, 15, 16, 17]), (8, [0, 8, 9, 10])] }
def manifest_all_1_E (N : Nat) : List Ent := [round_manifest_Like_3_s]
theorem manifest_all_1_Eok (N : Nat) : SmAll Tryz.prog (manifest_all_1_E N) := ⟨round_manifest_Like_3_ok, trivial⟩
abbrev manifest_all_1_l4_F := Vector UInt8 32 × Vector UInt8 16 × Int × T_api_Manifest × T_api_Line × List T_api_Line × Int × Int × List T_api_Entry × Int
abbrev manifest_all_1_l4_Y := Nat × List (T_manifest_kind × T_manifest_place × Nat) × Int × Bool
def manifest_all_1_l4_o (f : manifest_all_1_l4_F) (y : manifest_all_1_l4_Y) : Ex × TSt := (.exit 2, ⟨2, 36, [40, 60, 90, 160, 50030, 50031, 100010], [(0, .yl 50030), (4, .p 200040 [] 0), (8, .tv (.sl 19 t_api_Line) f.2.2.2.2.2.1), (9, xi f.2.2.2.2.2.2.1), (10, xi f.2.2.2.2.2.2.2.1), (15, .tv (.sl 37 t_api_Entry) f.2.2.2.2.2.2.2.2.1), (16, xi f.2.2.2.2.2.2.2.2.2), (17, xi y.2.2.1), (18, xb y.2.2.2)], [(40, .cell false (.tv (.ba 32) f.1)), (60, .cell false (.tv (.ba 16) f.2.1)), (90, .cell false (.m 160)), (160, .map y.1 t_manifest_kind t_manifest_place (y.2.1 : List (T_manifest_kind × T_manifest_place × Nat))), (50030, .loop [19, 20] 45 [(2, xi f.2.2.1), (4, .p 40 [] 0), (6, .p 60 [] 0), (9, .p 90 [] 0), (18, .fn (.func 83) [] [.p 100010 [] 0])] 2200003 22 .ready none 50031), (50031, .dfr true), (100010, .cell false (.tv t_api_Manifest f.2.2.2.1)), (200040, .cell false (.tv t_api_Line f.2.2.2.2.1))], false, []⟩)
def manifest_all_1_l4_L (N : Nat) : List (Nat × LEnt) := []
abbrev manifest_all_1_l4_V := Nat × List (T_manifest_kind × T_manifest_place × Nat) × Int
def manifest_all_1_l4_p : SP := ⟨2, 36, [40, 60, 90, 160, 50030, 50031, 100010], [(0, .k (.yl 50030)), (4, .k (.p 200040 [] 0)), (8, .x (.sl 19 t_api_Line)), (9, .x (.i .i64)), (10, .x (.i .i64)), (15, .x (.sl 37 t_api_Entry)), (16, .x (.i .i64)), (17, .x (.i .i64))], [(40, .cell false (.x (.ba 32))), (60, .cell false (.x (.ba 16))), (90, .cell false (.k (.m 160))), (160, .map t_manifest_kind t_manifest_place), (50030, .loop [19, 20] 45 [(2, .x (.i .i64)), (4, .k (.p 40 [] 0)), (6, .k (.p 60 [] 0)), (9, .k (.p 90 [] 0)), (18, .fn 83 [] [.k (.p 100010 [] 0)])] 2200003 22 .ready none 50031), (50031, .dfr true), (100010, .cell false (.x t_api_Manifest)), (200040, .cell false (.x t_api_Line))], false, []⟩
def manifest_all_1_l4_h (f : manifest_all_1_l4_F) (v : manifest_all_1_l4_V) : TSt := fillS manifest_all_1_l4_p [dv .nat v.1, dv (entT t_manifest_kind t_manifest_place) v.2.1, dv (.ba 32) f.1, dv (.ba 16) f.2.1, dv (.i .i64) f.2.2.1, dv t_api_Manifest f.2.2.2.1, dv t_api_Line f.2.2.2.2.1, dv (.sl 19 t_api_Line) f.2.2.2.2.2.1, dv (.i .i64) f.2.2.2.2.2.2.1, dv (.i .i64) f.2.2.2.2.2.2.2.1, dv (.sl 37 t_api_Entry) f.2.2.2.2.2.2.2.2.1, dv (.i .i64) f.2.2.2.2.2.2.2.2.2, dv (.i .i64) v.2.2]
def manifest_all_1_l4_t (N : Nat) (o_4_3 : Vector UInt8 32) (o_4_4 : Vector UInt8 16) (o_4_5 : Int) (o_4_6 : T_api_Manifest) (o_4_7 : T_api_Line) (s8_4 : List T_api_Line) (s9_4 : Int) (s10_4 : Int) (s15_4 : List T_api_Entry) (s16_4 : Int) (v : manifest_all_1_l4_V) : Tree (manifest_all_1_l4_V ⊕ manifest_all_1_l4_Y) :=
 .cond (decide (v.2.2 < s16_4)) (
 .bind (getI s15_4 v.2.2) fun e1 =>
 .bind (round_manifest_Like_3 v.1 v.2.1 o_4_3 o_4_4 o_4_5 o_4_6 (T_manifest_place.mk (T_api_Line.ID o_4_7) (T_api_Entry.No e1)) (T_manifest_kind.mk (T_api_Entry.D e1) (T_api_Entry.Len e1))) fun r2 =>
 .chk (in64 (v.2.2 + 1)) <|
 .ret (.inl (r2.1, r2.2, v.2.2 + 1))) <|
 .ret (.inr (v.1, v.2.1, v.2.2, decide (v.2.2 < s16_4)))
def manifest_all_1_l4_n (N n : Nat) (f : manifest_all_1_l4_F) (v : manifest_all_1_l4_V) : Option manifest_all_1_l4_Y := loopG (manifest_all_1_l4_t N f.1 f.2.1 f.2.2.1 f.2.2.2.1 f.2.2.2.2.1 f.2.2.2.2.2.1 f.2.2.2.2.2.2.1 f.2.2.2.2.2.2.2.1 f.2.2.2.2.2.2.2.2.1 f.2.2.2.2.2.2.2.2.2) some n v
theorem manifest_all_1_l4_q (N : Nat) (f : manifest_all_1_l4_F) (n : Nat) (v : manifest_all_1_l4_V) (y : manifest_all_1_l4_Y) (h : manifest_all_1_l4_n N n f v = some y) : LG Tryz.prog manifest_all_1_H 83 (lookC (lookC Tryz_b83 1) 4) (manifest_all_1_l4_h f v) (manifest_all_1_l4_o f y) :=
  loop_g Tryz_draw (E := manifest_all_1_E N) (L := lenv (manifest_all_1_l4_L N)) (st := manifest_all_1_l4_o f) (g := some) (R := manifest_all_1_l4_o f) (manifest_all_1_Eok N) (lenv_ok (by kernel_rfl) trivial) (rg0 (by kernel_rfl)) (fun v => by kernel_rfl) (good_self (st := manifest_all_1_l4_o f) fun y => by rfl) n v y h
def manifest_all_1_l4 (N : Nat) (o_4_3 : Vector UInt8 32) (o_4_4 : Vector UInt8 16) (o_4_5 : Int) (o_4_6 : T_api_Manifest) (o_4_7 : T_api_Line) (s8_4 : List T_api_Line) (s9_4 : Int) (s10_4 : Int) (s15_4 : List T_api_Entry) (s16_4 : Int) (o_4 : Nat) (o_4_2 : List (T_manifest_kind × T_manifest_place × Nat)) (s17_4 : Int) : Option manifest_all_1_l4_Y := manifest_all_1_l4_n N N (o_4_3, o_4_4, o_4_5, o_4_6, o_4_7, s8_4, s9_4, s10_4, s15_4, s16_4) (o_4, o_4_2, s17_4)
def manifest_all_1_l4_s (N : Nat) : LEnt := smL manifest_all_1_l4_p [.nat, (entT t_manifest_kind t_manifest_place), (.ba 32), (.ba 16), (.i .i64), t_api_Manifest, t_api_Line, (.sl 19 t_api_Line), (.i .i64), (.i .i64), (.sl 37 t_api_Entry), (.i .i64), (.i .i64)] manifest_all_1_l4_Y (fun x => manifest_all_1_l4 N x.2.2.1 x.2.2.2.1 x.2.2.2.2.1 x.2.2.2.2.2.1 x.2.2.2.2.2.2.1 x.2.2.2.2.2.2.2.1 x.2.2.2.2.2.2.2.2.1 x.2.2.2.2.2.2.2.2.2.1 x.2.2.2.2.2.2.2.2.2.2.1 x.2.2.2.2.2.2.2.2.2.2.2.1 x.1 x.2.1 x.2.2.2.2.2.2.2.2.2.2.2.2.1) cs1 fun x => manifest_all_1_l4_o (x.2.2.1, x.2.2.2.1, x.2.2.2.2.1, x.2.2.2.2.2.1, x.2.2.2.2.2.2.1, x.2.2.2.2.2.2.2.1, x.2.2.2.2.2.2.2.2.1, x.2.2.2.2.2.2.2.2.2.1, x.2.2.2.2.2.2.2.2.2.2.1, x.2.2.2.2.2.2.2.2.2.2.2.1)
theorem manifest_all_1_l4_ok (N : Nat) : LsOK Tryz.prog manifest_all_1_H 83 (lookC (lookC Tryz_b83 1) 4) (manifest_all_1_l4_s N) := smL_ok fun x z h => manifest_all_1_l4_q N (x.2.2.1, x.2.2.2.1, x.2.2.2.2.1, x.2.2.2.2.2.1, x.2.2.2.2.2.2.1, x.2.2.2.2.2.2.2.1, x.2.2.2.2.2.2.2.2.1, x.2.2.2.2.2.2.2.2.2.1, x.2.2.2.2.2.2.2.2.2.2.1, x.2.2.2.2.2.2.2.2.2.2.2.1) N (x.1, x.2.1, x.2.2.2.2.2.2.2.2.2.2.2.2.1) z h
abbrev manifest_all_1_l1_F := Vector UInt8 32 × Vector UInt8 16 × Int × T_api_Manifest × List T_api_Line × Int
abbrev manifest_all_1_l1_Y := Nat × List (T_manifest_kind × T_manifest_place × Nat) × Int × Bool
def manifest_all_1_l1_o (f : manifest_all_1_l1_F) (y : manifest_all_1_l1_Y) : Ex × TSt := (.exit 0, ⟨2, 36, [40, 60, 90, 160, 50030, 50031, 100010], [(0, .yl 50030), (8, .tv (.sl 19 t_api_Line) f.2.2.2.2.1), (9, xi f.2.2.2.2.2), (10, xi y.2.2.1), (11, xb y.2.2.2)], [(40, .cell false (.tv (.ba 32) f.1)), (60, .cell false (.tv (.ba 16) f.2.1)), (90, .cell false (.m 160)), (160, .map y.1 t_manifest_kind t_manifest_place (y.2.1 : List (T_manifest_kind × T_manifest_place × Nat))), (50030, .loop [19, 20] 45 [(2, xi f.2.2.1), (4, .p 40 [] 0), (6, .p 60 [] 0), (9, .p 90 [] 0), (18, .fn (.func 83) [] [.p 100010 [] 0])] 2200003 22 .ready none 50031), (50031, .dfr true), (100010, .cell false (.tv t_api_Manifest f.2.2.2.1))], false, []⟩)
def manifest_all_1_l1_L (N : Nat) : List (Nat × LEnt) := [(4, manifest_all_1_l4_s N)]
abbrev manifest_all_1_l1_V := Nat × List (T_manifest_kind × T_manifest_place × Nat) × Int
def manifest_all_1_l1_p : SP := ⟨2, 36, [40, 60, 90, 160, 50030, 50031, 100010], [(0, .k (.yl 50030)), (8, .x (.sl 19 t_api_Line)), (9, .x (.i .i64)), (10, .x (.i .i64))], [(40, .cell false (.x (.ba 32))), (60, .cell false (.x (.ba 16))), (90, .cell false (.k (.m 160))), (160, .map t_manifest_kind t_manifest_place), (50030, .loop [19, 20] 45 [(2, .x (.i .i64)), (4, .k (.p 40 [] 0)), (6, .k (.p 60 [] 0)), (9, .k (.p 90 [] 0)), (18, .fn 83 [] [.k (.p 100010 [] 0)])] 2200003 22 .ready none 50031), (50031, .dfr true), (100010, .cell false (.x t_api_Manifest))], false, []⟩
def manifest_all_1_l1_h (f : manifest_all_1_l1_F) (v : manifest_all_1_l1_V) : TSt := fillS manifest_all_1_l1_p [dv .nat v.1, dv (entT t_manifest_kind t_manifest_place) v.2.1, dv (.ba 32) f.1, dv (.ba 16) f.2.1, dv (.i .i64) f.2.2.1, dv t_api_Manifest f.2.2.2.1, dv (.sl 19 t_api_Line) f.2.2.2.2.1, dv (.i .i64) f.2.2.2.2.2, dv (.i .i64) v.2.2]
def manifest_all_1_l1_t (N : Nat) (o_1_3 : Vector UInt8 32) (o_1_4 : Vector UInt8 16) (o_1_5 : Int) (o_1_6 : T_api_Manifest) (s8_1 : List T_api_Line) (s9_1 : Int) (v : manifest_all_1_l1_V) : Tree (manifest_all_1_l1_V ⊕ manifest_all_1_l1_Y) :=
 .cond (decide (v.2.2 < s9_1)) (
 .bind (getI s8_1 v.2.2) fun e1 =>
 .bind (manifest_all_1_l4 N o_1_3 o_1_4 o_1_5 o_1_6 e1 s8_1 s9_1 v.2.2 (T_api_Line.F e1) (((T_api_Line.F e1).length : Nat) : Int) v.1 v.2.1 0) fun z2 =>
 .chk (in64 (v.2.2 + 1)) <|
 .ret (.inl (z2.1, z2.2.1, v.2.2 + 1))) <|
 .ret (.inr (v.1, v.2.1, v.2.2, decide (v.2.2 < s9_1)))
def manifest_all_1_l1_n (N n : Nat) (f : manifest_all_1_l1_F) (v : manifest_all_1_l1_V) : Option manifest_all_1_l1_Y := loopG (manifest_all_1_l1_t N f.1 f.2.1 f.2.2.1 f.2.2.2.1 f.2.2.2.2.1 f.2.2.2.2.2) some n v
theorem manifest_all_1_l1_q (N : Nat) (f : manifest_all_1_l1_F) (n : Nat) (v : manifest_all_1_l1_V) (y : manifest_all_1_l1_Y) (h : manifest_all_1_l1_n N n f v = some y) : LG Tryz.prog manifest_all_1_H 83 (lookC Tryz_b83 1) (manifest_all_1_l1_h f v) (manifest_all_1_l1_o f y) :=
  loop_g Tryz_draw (E := manifest_all_1_E N) (L := lenv (manifest_all_1_l1_L N)) (st := manifest_all_1_l1_o f) (g := some) (R := manifest_all_1_l1_o f) (manifest_all_1_Eok N) (lenv_ok (by kernel_rfl) ⟨manifest_all_1_l4_ok N, trivial⟩) (rg0 (by kernel_rfl)) (fun v => by kernel_rfl) (good_self (st := manifest_all_1_l1_o f) fun y => by rfl) n v y h
def manifest_all_1_l1 (N : Nat) (o_1_3 : Vector UInt8 32) (o_1_4 : Vector UInt8 16) (o_1_5 : Int) (o_1_6 : T_api_Manifest) (s8_1 : List T_api_Line) (s9_1 : Int) (o_1 : Nat) (o_1_2 : List (T_manifest_kind × T_manifest_place × Nat)) (s10_1 : Int) : Option manifest_all_1_l1_Y := manifest_all_1_l1_n N N (o_1_3, o_1_4, o_1_5, o_1_6, s8_1, s9_1) (o_1, o_1_2, s10_1)
def manifest_all_1_l1_s (N : Nat) : LEnt := smL manifest_all_1_l1_p [.nat, (entT t_manifest_kind t_manifest_place), (.ba 32), (.ba 16), (.i .i64), t_api_Manifest, (.sl 19 t_api_Line), (.i .i64), (.i .i64)] manifest_all_1_l1_Y (fun x => manifest_all_1_l1 N x.2.2.1 x.2.2.2.1 x.2.2.2.2.1 x.2.2.2.2.2.1 x.2.2.2.2.2.2.1 x.2.2.2.2.2.2.2.1 x.1 x.2.1 x.2.2.2.2.2.2.2.2.1) cs1 fun x => manifest_all_1_l1_o (x.2.2.1, x.2.2.2.1, x.2.2.2.2.1, x.2.2.2.2.2.1, x.2.2.2.2.2.2.1, x.2.2.2.2.2.2.2.1)
theorem manifest_all_1_l1_ok (N : Nat) : LsOK Tryz.prog manifest_all_1_H 83 (lookC Tryz_b83 1) (manifest_all_1_l1_s N) := smL_ok fun x z h => manifest_all_1_l1_q N (x.2.2.1, x.2.2.2.1, x.2.2.2.2.1, x.2.2.2.2.2.1, x.2.2.2.2.2.2.1, x.2.2.2.2.2.2.2.1) N (x.1, x.2.1, x.2.2.2.2.2.2.2.2.1) z h
def manifest_all_1_o (a2 : Vector UInt8 32) (a3 : Vector UInt8 16) (a4 : Int) (a5 : T_api_Manifest) (z : Nat × List (T_manifest_kind × T_manifest_place × Nat)) : TV × THp := (.tup [], [(40, .cell false (.tv (.ba 32) a2)), (60, .cell false (.tv (.ba 16) a3)), (90, .cell false (.m 160)), (160, .map z.1 t_manifest_kind t_manifest_place (z.2 : List (T_manifest_kind × T_manifest_place × Nat))), (50030, .loop [19, 20] 45 [(2, xi a4), (4, .p 40 [] 0), (6, .p 60 [] 0), (9, .p 90 [] 0), (18, .fn (.func 83) [] [.p 100010 [] 0])] 2200003 22 .ready none 50031), (50031, .dfr true), (100010, .cell false (.tv t_api_Manifest a5))])
def manifest_all_1_t (N : Nat) (a0 : Nat) (a1 : List (T_manifest_kind × T_manifest_place × Nat)) (a2 : Vector UInt8 32) (a3 : Vector UInt8 16) (a4 : Int) (a5 : T_api_Manifest) : Tree (Nat × List (T_manifest_kind × T_manifest_place × Nat)) :=
 .bind (manifest_all_1_l1 N a2 a3 a4 a5 (T_api_Manifest.L a5) (((T_api_Manifest.L a5).length : Nat) : Int) a0 a1 0) fun z1 =>
 .ret (z1.1, z1.2.1)
def manifest_all_1 (N : Nat) (a0 : Nat) (a1 : List (T_manifest_kind × T_manifest_place × Nat)) (a2 : Vector UInt8 32) (a3 : Vector UInt8 16) (a4 : Int) (a5 : T_api_Manifest) : Option (Nat × List (T_manifest_kind × T_manifest_place × Nat)) := (manifest_all_1_t N a0 a1 a2 a3 a4 a5).run some
def manifest_all_1_L (N : Nat) : List (Nat × LEnt) := [(1, manifest_all_1_l1_s N)]
def manifest_all_1_s (N : Nat) : Ent := smF ⟨83, [], [.k (.yl 50030)], [.k (.p 100010 [] 0)], [(40, .cell false (.x (.ba 32))), (60, .cell false (.x (.ba 16))), (90, .cell false (.k (.m 160))), (160, .map t_manifest_kind t_manifest_place), (50030, .loop [19, 20] 45 [(2, .x (.i .i64)), (4, .k (.p 40 [] 0)), (6, .k (.p 60 [] 0)), (9, .k (.p 90 [] 0)), (18, .fn 83 [] [.k (.p 100010 [] 0)])] 2200003 22 .ready none 50031), (50031, .dfr true), (100010, .cell false (.x t_api_Manifest))]⟩ [.nat, (entT t_manifest_kind t_manifest_place), (.ba 32), (.ba 16), (.i .i64), t_api_Manifest] (Nat × List (T_manifest_kind × T_manifest_place × Nat)) (fun x => manifest_all_1 N x.1 x.2.1 x.2.2.1 x.2.2.2.1 x.2.2.2.2.1 x.2.2.2.2.2.1) cs1 fun x => manifest_all_1_o x.2.2.1 x.2.2.2.1 x.2.2.2.2.1 x.2.2.2.2.2.1
theorem manifest_all_1_ok (N : Nat) : SmOK Tryz.prog (manifest_all_1_s N) :=
  fn_ok (H := manifest_all_1_H) (L := lenv (manifest_all_1_L N)) (ts := [.nat, (entT t_manifest_kind t_manifest_place), (.ba 32), (.ba 16), (.i .i64), t_api_Manifest]) (T := fun x => manifest_all_1_t N x.1 x.2.1 x.2.2.1 x.2.2.2.1 x.2.2.2.2.1 x.2.2.2.2.2.1) 1 Tryz_F83 (manifest_all_1_Eok N) (lenv_ok (by kernel_rfl) ⟨manifest_all_1_l1_ok N, trivial⟩) (rg0 (by kernel_rfl)) fun x => by kernel_rfl
noncomputable def Tryz_b22 : Code := Tryz.f22.body.getD .skip
theorem Tryz_F22 : FnF Tryz.prog 22 Tryz.f22 Tryz_b22 := ⟨Tryz_draw, by kernel_rfl, by kernel_rfl, by kernel_rfl⟩
def manifest_Like_H : TH := { live := [(0, [2, 3, 4, 6]), (1, [2, 3, 4, 6, 9]), (2, [2, 4, 6, 9, 18]), (3, [9, 10, 20]), (4, [9, 10, 11]), (5, [9, 10, 11, 13]), (6, [9, 10, 11, 28]), (8, [6, 14, 15]), (9, [6, 7, 8])], fresh := [18] }
def manifest_Like_E (N : Nat) : List Ent := [manifest_all_s, manifest_all_1_s N]
theorem manifest_Like_Eok (N : Nat) : SmAll Tryz.prog (manifest_Like_E N) := ⟨manifest_all_ok, manifest_all_1_ok N, trivial⟩
def manifest_Like_o (z : Vector UInt8 16 × Int × Bool) : TV × THp := (.tup [.tv (.ba 16) (z.1 : Vector UInt8 16), xi z.2.1, xb z.2.2], [])
def manifest_Like_t (N : Nat) (a0 : T_api_Manifest) (a1 : Vector UInt8 32) (a2 : Int) : Tree (Vector UInt8 16 × Int × Bool) :=
 .bind (manifest_all a0) fun r1 =>
 .bind (manifest_all_1 N 0 [] a1 ((Vector.replicate 16 0)) a2 a0) fun r2 =>
 .opt (fnd (β := T_manifest_place) t_manifest_kind (T_manifest_kind.mk a1 a2) r2.2) (
 .ret ((Vector.replicate 16 0), 0, false)) fun e3 =>
 .ret (T_manifest_place.id e3.1, T_manifest_place.no e3.1, true)
def manifest_Like (N : Nat) (a0 : T_api_Manifest) (a1 : Vector UInt8 32) (a2 : Int) : Option (Vector UInt8 16 × Int × Bool) := (manifest_Like_t N a0 a1 a2).run some
def manifest_Like_L (N : Nat) : List (Nat × LEnt) := []
def manifest_Like_s (N : Nat) : Ent := smF ⟨22, [], [.x t_api_Manifest, .x (.ba 32), .x (.i .i64)], [], []⟩ [t_api_Manifest, (.ba 32), (.i .i64)] (Vector UInt8 16 × Int × Bool) (fun x => manifest_Like N x.1 x.2.1 x.2.2.1) cs1 fun _ => manifest_Like_o
theorem manifest_Like_ok (N : Nat) : SmOK Tryz.prog (manifest_Like_s N) :=
  fn_ok (H := manifest_Like_H) (L := lenv (manifest_Like_L N)) (ts := [t_api_Manifest, (.ba 32), (.i .i64)]) (T := fun x => manifest_Like_t N x.1 x.2.1 x.2.2.1) 0 Tryz_F22 (manifest_Like_Eok N) (lenv_ok (by kernel_rfl) trivial) (rgs (by kernel_rfl)) fun x => by kernel_rfl
noncomputable def Tryz_b23 : Code := Tryz.f23.body.getD .skip
theorem Tryz_F23 : FnF Tryz.prog 23 Tryz.f23 Tryz_b23 := ⟨Tryz_draw, by kernel_rfl, by kernel_rfl, by kernel_rfl⟩
def rolodexref12_Like_H : TH := { live := [(0, [2, 3, 4, 6]), (1, [2, 3, 4, 6, 9]), (2, [2, 3, 4, 6, 9, 15]), (3, [2, 3, 4, 6, 9]), (4, [2, 3, 4, 6, 9, 10]), (5, [2, 3, 4, 6, 9, 10, 26]), (6, [2, 3, 4, 6, 9, 10]), (7, [2, 3, 4, 6, 9, 10, 54]), (8, [6, 7, 8]), (9, [6, 7, 8])], dec := [41] }
def rolodexref12_Like_E (N : Nat) : List Ent := []
theorem rolodexref12_Like_Eok (N : Nat) : SmAll Tryz.prog (rolodexref12_Like_E N) := trivial
abbrev rolodexref12_Like_l5_F := T_api_Manifest × Vector UInt8 32 × Vector UInt8 16 × Int × Int
abbrev rolodexref12_Like_l5_Y := (Vector UInt8 16 × Int) ⊕ (Int × Bool)
def rolodexref12_Like_l5_o (f : rolodexref12_Like_l5_F) : rolodexref12_Like_l5_Y → Ex × TSt
 | .inl y => (.ret, ⟨0, 72, [], [(6, .p 60 [] 0), (7, xi y.2), (8, .bc true)], [(60, .cell false (.tv (.ba 16) (y.1 : Vector UInt8 16)))], false, []⟩)
 | .inr y => (.exit 2, ⟨0, 72, [], [(2, xi f.2.2.2.1), (3, .p 30 [] 0), (4, .p 40 [] 0), (6, .p 60 [] 0), (9, xi f.2.2.2.2), (10, xi y.1), (26, xb y.2)], [(30, .cell false (.tv t_api_Manifest f.1)), (40, .cell false (.tv (.ba 32) f.2.1)), (60, .cell false (.tv (.ba 16) f.2.2.1))], false, []⟩)
def rolodexref12_Like_l5_L (N : Nat) : List (Nat × LEnt) := []
abbrev rolodexref12_Like_l5_V := Int
def rolodexref12_Like_l5_p : SP := ⟨0, 72, [], [(2, .x (.i .i64)), (3, .k (.p 30 [] 0)), (4, .k (.p 40 [] 0)), (6, .k (.p 60 [] 0)), (9, .x (.i .i64)), (10, .x (.i .i64))], [(30, .cell false (.x t_api_Manifest)), (40, .cell false (.x (.ba 32))), (60, .cell false (.x (.ba 16)))], false, []⟩
def rolodexref12_Like_l5_h (f : rolodexref12_Like_l5_F) (v : rolodexref12_Like_l5_V) : TSt := fillS rolodexref12_Like_l5_p [dv t_api_Manifest f.1, dv (.ba 32) f.2.1, dv (.ba 16) f.2.2.1, dv (.i .i64) f.2.2.2.1, dv (.i .i64) f.2.2.2.2, dv (.i .i64) v]
def rolodexref12_Like_l5_t (N : Nat) (o_5 : T_api_Manifest) (o_5_2 : Vector UInt8 32) (o_5_3 : Vector UInt8 16) (s2_5 : Int) (s9_5 : Int) (v : rolodexref12_Like_l5_V) : Tree (rolodexref12_Like_l5_V ⊕ rolodexref12_Like_l5_Y) :=
 .bind (getI (T_api_Manifest.L o_5) s9_5) fun e1 =>
 .cond (decide (v < (((T_api_Line.F e1).length : Nat) : Int))) (
 .bind (getI (T_api_Manifest.L o_5) s9_5) fun e2 =>
 .bind (getI (T_api_Line.F e2) v) fun e3 =>
 .cond (eqE (.ba 32) (T_api_Entry.D e3) o_5_2) (
 .bind (getI (T_api_Manifest.L o_5) s9_5) fun e4 =>
 .bind (getI (T_api_Line.F e4) v) fun e5 =>
 .cond (decide ((T_api_Entry.Len e5) = s2_5)) (
 .bind (getI (T_api_Manifest.L o_5) s9_5) fun e6 =>
 .bind (getI (T_api_Manifest.L o_5) s9_5) fun e7 =>
 .bind (getI (T_api_Line.F e7) v) fun e8 =>
 .ret (.inr (.inl (T_api_Line.ID e6, T_api_Entry.No e8)))) <|
 .chk (in64 (v + 1)) <|
 .ret (.inl (v + 1))) <|
 .chk (in64 (v + 1)) <|
 .ret (.inl (v + 1))) <|
 .ret (.inr (.inr ((v, decide (v < (((T_api_Line.F e1).length : Nat) : Int))))))
def rolodexref12_Like_l5_n (N n : Nat) (f : rolodexref12_Like_l5_F) (v : rolodexref12_Like_l5_V) : Option rolodexref12_Like_l5_Y := loopG (rolodexref12_Like_l5_t N f.1 f.2.1 f.2.2.1 f.2.2.2.1 f.2.2.2.2) some n v
theorem rolodexref12_Like_l5_q (N : Nat) (f : rolodexref12_Like_l5_F) (n : Nat) (v : rolodexref12_Like_l5_V) (y : rolodexref12_Like_l5_Y) (h : rolodexref12_Like_l5_n N n f v = some y) : LG Tryz.prog rolodexref12_Like_H 23 (lookC (lookC Tryz_b23 2) 5) (rolodexref12_Like_l5_h f v) (rolodexref12_Like_l5_o f y) :=
  loop_g Tryz_draw (E := rolodexref12_Like_E N) (L := lenv (rolodexref12_Like_l5_L N)) (st := rolodexref12_Like_l5_o f) (g := some) (R := rolodexref12_Like_l5_o f) (rolodexref12_Like_Eok N) (lenv_ok (by kernel_rfl) trivial) (rg0 (by kernel_rfl)) (fun v => by kernel_rfl) (good_self (st := rolodexref12_Like_l5_o f) fun y => by rcases y with _ | _ <;> rfl) n v y h
def rolodexref12_Like_l5 (N : Nat) (o_5 : T_api_Manifest) (o_5_2 : Vector UInt8 32) (o_5_3 : Vector UInt8 16) (s2_5 : Int) (s9_5 : Int) (s10_5 : Int) : Option rolodexref12_Like_l5_Y := rolodexref12_Like_l5_n N N (o_5, o_5_2, o_5_3, s2_5, s9_5) s10_5
def rolodexref12_Like_l5_s (N : Nat) : LEnt := smL rolodexref12_Like_l5_p [t_api_Manifest, (.ba 32), (.ba 16), (.i .i64), (.i .i64), (.i .i64)] rolodexref12_Like_l5_Y (fun x => rolodexref12_Like_l5 N x.1 x.2.1 x.2.2.1 x.2.2.2.1 x.2.2.2.2.1 x.2.2.2.2.2.1) (csS cs1) fun x => rolodexref12_Like_l5_o (x.1, x.2.1, x.2.2.1, x.2.2.2.1, x.2.2.2.2.1)
theorem rolodexref12_Like_l5_ok (N : Nat) : LsOK Tryz.prog rolodexref12_Like_H 23 (lookC (lookC Tryz_b23 2) 5) (rolodexref12_Like_l5_s N) := smL_ok fun x z h => rolodexref12_Like_l5_q N (x.1, x.2.1, x.2.2.1, x.2.2.2.1, x.2.2.2.2.1) N x.2.2.2.2.2.1 z h
abbrev rolodexref12_Like_l2_F := T_api_Manifest × Vector UInt8 32 × Vector UInt8 16 × Int
abbrev rolodexref12_Like_l2_Y := (Vector UInt8 16 × Int) ⊕ (Int × Bool)
def rolodexref12_Like_l2_o (f : rolodexref12_Like_l2_F) : rolodexref12_Like_l2_Y → Ex × TSt
 | .inl y => (.ret, ⟨0, 72, [], [(6, .p 60 [] 0), (7, xi y.2), (8, .bc true)], [(60, .cell false (.tv (.ba 16) (y.1 : Vector UInt8 16)))], false, []⟩)
 | .inr y => (.exit 0, ⟨0, 72, [], [(2, xi f.2.2.2), (3, .p 30 [] 0), (4, .p 40 [] 0), (6, .p 60 [] 0), (9, xi y.1), (15, xb y.2)], [(30, .cell false (.tv t_api_Manifest f.1)), (40, .cell false (.tv (.ba 32) f.2.1)), (60, .cell false (.tv (.ba 16) f.2.2.1))], false, []⟩)
def rolodexref12_Like_l2_L (N : Nat) : List (Nat × LEnt) := [(5, rolodexref12_Like_l5_s N)]
abbrev rolodexref12_Like_l2_V := Int
def rolodexref12_Like_l2_p : SP := ⟨0, 72, [], [(2, .x (.i .i64)), (3, .k (.p 30 [] 0)), (4, .k (.p 40 [] 0)), (6, .k (.p 60 [] 0)), (9, .x (.i .i64))], [(30, .cell false (.x t_api_Manifest)), (40, .cell false (.x (.ba 32))), (60, .cell false (.x (.ba 16)))], false, []⟩
def rolodexref12_Like_l2_h (f : rolodexref12_Like_l2_F) (v : rolodexref12_Like_l2_V) : TSt := fillS rolodexref12_Like_l2_p [dv t_api_Manifest f.1, dv (.ba 32) f.2.1, dv (.ba 16) f.2.2.1, dv (.i .i64) f.2.2.2, dv (.i .i64) v]
def rolodexref12_Like_l2_t (N : Nat) (o_2 : T_api_Manifest) (o_2_2 : Vector UInt8 32) (o_2_3 : Vector UInt8 16) (s2_2 : Int) (v : rolodexref12_Like_l2_V) : Tree (rolodexref12_Like_l2_V ⊕ rolodexref12_Like_l2_Y) :=
 .cond (decide (v < (((T_api_Manifest.L o_2).length : Nat) : Int))) (
 .bind (rolodexref12_Like_l5 N o_2 o_2_2 o_2_3 s2_2 v 0) fun z1 =>
 .sum z1 (fun z2 =>
 .ret (.inr (.inl (z2.1, z2.2)))) fun z2 =>
 .chk (in64 (v + 1)) <|
 .ret (.inl (v + 1))) <|
 .ret (.inr (.inr ((v, decide (v < (((T_api_Manifest.L o_2).length : Nat) : Int))))))
def rolodexref12_Like_l2_n (N n : Nat) (f : rolodexref12_Like_l2_F) (v : rolodexref12_Like_l2_V) : Option rolodexref12_Like_l2_Y := loopG (rolodexref12_Like_l2_t N f.1 f.2.1 f.2.2.1 f.2.2.2) some n v
theorem rolodexref12_Like_l2_q (N : Nat) (f : rolodexref12_Like_l2_F) (n : Nat) (v : rolodexref12_Like_l2_V) (y : rolodexref12_Like_l2_Y) (h : rolodexref12_Like_l2_n N n f v = some y) : LG Tryz.prog rolodexref12_Like_H 23 (lookC Tryz_b23 2) (rolodexref12_Like_l2_h f v) (rolodexref12_Like_l2_o f y) :=
  loop_g Tryz_draw (E := rolodexref12_Like_E N) (L := lenv (rolodexref12_Like_l2_L N)) (st := rolodexref12_Like_l2_o f) (g := some) (R := rolodexref12_Like_l2_o f) (rolodexref12_Like_Eok N) (lenv_ok (by kernel_rfl) ⟨rolodexref12_Like_l5_ok N, trivial⟩) (rg0 (by kernel_rfl)) (fun v => by kernel_rfl) (good_self (st := rolodexref12_Like_l2_o f) fun y => by rcases y with _ | _ <;> rfl) n v y h
def rolodexref12_Like_l2 (N : Nat) (o_2 : T_api_Manifest) (o_2_2 : Vector UInt8 32) (o_2_3 : Vector UInt8 16) (s2_2 : Int) (s9_2 : Int) : Option rolodexref12_Like_l2_Y := rolodexref12_Like_l2_n N N (o_2, o_2_2, o_2_3, s2_2) s9_2
def rolodexref12_Like_l2_s (N : Nat) : LEnt := smL rolodexref12_Like_l2_p [t_api_Manifest, (.ba 32), (.ba 16), (.i .i64), (.i .i64)] rolodexref12_Like_l2_Y (fun x => rolodexref12_Like_l2 N x.1 x.2.1 x.2.2.1 x.2.2.2.1 x.2.2.2.2.1) (csS cs1) fun x => rolodexref12_Like_l2_o (x.1, x.2.1, x.2.2.1, x.2.2.2.1)
theorem rolodexref12_Like_l2_ok (N : Nat) : LsOK Tryz.prog rolodexref12_Like_H 23 (lookC Tryz_b23 2) (rolodexref12_Like_l2_s N) := smL_ok fun x z h => rolodexref12_Like_l2_q N (x.1, x.2.1, x.2.2.1, x.2.2.2.1) N x.2.2.2.2.1 z h
def rolodexref12_Like_o (z : Vector UInt8 16 × Int × Bool) : TV × THp := (.tup [.tv (.ba 16) (z.1 : Vector UInt8 16), xi z.2.1, xb z.2.2], [])
def rolodexref12_Like_t (N : Nat) (a0 : T_api_Manifest) (a1 : Vector UInt8 32) (a2 : Int) : Tree (Vector UInt8 16 × Int × Bool) :=
 .bind (rolodexref12_Like_l2 N a0 a1 ((Vector.replicate 16 0)) a2 0) fun z1 =>
 .sum z1 (fun z2 =>
 .ret (z2.1, z2.2, true)) fun z2 =>
 .ret ((Vector.replicate 16 0), 0, false)
def rolodexref12_Like (N : Nat) (a0 : T_api_Manifest) (a1 : Vector UInt8 32) (a2 : Int) : Option (Vector UInt8 16 × Int × Bool) := (rolodexref12_Like_t N a0 a1 a2).run some
def rolodexref12_Like_L (N : Nat) : List (Nat × LEnt) := [(2, rolodexref12_Like_l2_s N)]
def rolodexref12_Like_s (N : Nat) : Ent := smF ⟨23, [], [.x t_api_Manifest, .x (.ba 32), .x (.i .i64)], [], []⟩ [t_api_Manifest, (.ba 32), (.i .i64)] (Vector UInt8 16 × Int × Bool) (fun x => rolodexref12_Like N x.1 x.2.1 x.2.2.1) cs1 fun _ => rolodexref12_Like_o
theorem rolodexref12_Like_ok (N : Nat) : SmOK Tryz.prog (rolodexref12_Like_s N) :=
  fn_ok (H := rolodexref12_Like_H) (L := lenv (rolodexref12_Like_L N)) (ts := [t_api_Manifest, (.ba 32), (.i .i64)]) (T := fun x => rolodexref12_Like_t N x.1 x.2.1 x.2.2.1) 0 Tryz_F23 (rolodexref12_Like_Eok N) (lenv_ok (by kernel_rfl) ⟨rolodexref12_Like_l2_ok N, trivial⟩) (rg0 (by kernel_rfl)) fun x => by kernel_rfl
noncomputable def Tryz_b31 : Code := Tryz.f31.body.getD .skip
theorem Tryz_F31 : FnF Tryz.prog 31 Tryz.f31 Tryz_b31 := ⟨Tryz_draw, by kernel_rfl, by kernel_rfl, by kernel_rfl⟩
def rolodexref10_Same_H : TH := { live := [(0, [0, 1]), (1, [0, 1, 10]), (2, [4]), (3, [0, 1, 5]), (4, [0, 1, 5, 14]), (5, [0, 1, 5]), (6, [0, 1, 5, 25]), (7, [4]), (8, [4])] }
def rolodexref10_Same_E (N : Nat) : List Ent := []
theorem rolodexref10_Same_Eok (N : Nat) : SmAll Tryz.prog (rolodexref10_Same_E N) := trivial
abbrev rolodexref10_Same_l4_F := List T_api_Sig × List T_api_Sig
abbrev rolodexref10_Same_l4_Y := Unit ⊕ (Int × Bool)
def rolodexref10_Same_l4_o (f : rolodexref10_Same_l4_F) : rolodexref10_Same_l4_Y → Ex × TSt
 | .inl y => (.ret, ⟨0, 26, [], [(4, .bc false)], [], false, []⟩)
 | .inr y => (.exit 0, ⟨0, 26, [], [(0, .tv (.sl 33 t_api_Sig) f.1), (1, .tv (.sl 33 t_api_Sig) f.2), (5, xi y.1), (14, xb y.2)], [], false, []⟩)
def rolodexref10_Same_l4_L (N : Nat) : List (Nat × LEnt) := []
abbrev rolodexref10_Same_l4_V := Int
def rolodexref10_Same_l4_p : SP := ⟨0, 26, [], [(0, .x (.sl 33 t_api_Sig)), (1, .x (.sl 33 t_api_Sig)), (5, .x (.i .i64))], [], false, []⟩
def rolodexref10_Same_l4_h (f : rolodexref10_Same_l4_F) (v : rolodexref10_Same_l4_V) : TSt := fillS rolodexref10_Same_l4_p [dv (.sl 33 t_api_Sig) f.1, dv (.sl 33 t_api_Sig) f.2, dv (.i .i64) v]
def rolodexref10_Same_l4_t (N : Nat) (s0_4 : List T_api_Sig) (s1_4 : List T_api_Sig) (v : rolodexref10_Same_l4_V) : Tree (rolodexref10_Same_l4_V ⊕ rolodexref10_Same_l4_Y) :=
 .cond (decide (v < ((s0_4.length : Nat) : Int))) (
 .bind (getI s0_4 v) fun e1 =>
 .bind (getI s1_4 v) fun e2 =>
 .cond (!(eqE t_api_Sig e1 e2)) (
 .ret (.inr (.inl ()))) <|
 .chk (in64 (v + 1)) <|
 .ret (.inl (v + 1))) <|
 .ret (.inr (.inr ((v, decide (v < ((s0_4.length : Nat) : Int))))))
def rolodexref10_Same_l4_n (N n : Nat) (f : rolodexref10_Same_l4_F) (v : rolodexref10_Same_l4_V) : Option rolodexref10_Same_l4_Y := loopG (rolodexref10_Same_l4_t N f.1 f.2) some n v
theorem rolodexref10_Same_l4_q (N : Nat) (f : rolodexref10_Same_l4_F) (n : Nat) (v : rolodexref10_Same_l4_V) (y : rolodexref10_Same_l4_Y) (h : rolodexref10_Same_l4_n N n f v = some y) : LG Tryz.prog rolodexref10_Same_H 31 (lookC Tryz_b31 4) (rolodexref10_Same_l4_h f v) (rolodexref10_Same_l4_o f y) :=
  loop_g Tryz_draw (E := rolodexref10_Same_E N) (L := lenv (rolodexref10_Same_l4_L N)) (st := rolodexref10_Same_l4_o f) (g := some) (R := rolodexref10_Same_l4_o f) (rolodexref10_Same_Eok N) (lenv_ok (by kernel_rfl) trivial) (rg0 (by kernel_rfl)) (fun v => by kernel_rfl) (good_self (st := rolodexref10_Same_l4_o f) fun y => by rcases y with _ | _ <;> rfl) n v y h
def rolodexref10_Same_l4 (N : Nat) (s0_4 : List T_api_Sig) (s1_4 : List T_api_Sig) (s5_4 : Int) : Option rolodexref10_Same_l4_Y := rolodexref10_Same_l4_n N N (s0_4, s1_4) s5_4
def rolodexref10_Same_l4_s (N : Nat) : LEnt := smL rolodexref10_Same_l4_p [(.sl 33 t_api_Sig), (.sl 33 t_api_Sig), (.i .i64)] rolodexref10_Same_l4_Y (fun x => rolodexref10_Same_l4 N x.1 x.2.1 x.2.2.1) (csS cs1) fun x => rolodexref10_Same_l4_o (x.1, x.2.1)
theorem rolodexref10_Same_l4_ok (N : Nat) : LsOK Tryz.prog rolodexref10_Same_H 31 (lookC Tryz_b31 4) (rolodexref10_Same_l4_s N) := smL_ok fun x z h => rolodexref10_Same_l4_q N (x.1, x.2.1) N x.2.2.1 z h
def rolodexref10_Same_o (z : Bool) : TV × THp := (xb z, [])
def rolodexref10_Same_t (N : Nat) (a0 : List T_api_Sig) (a1 : List T_api_Sig) : Tree (Bool) :=
 .cond (!decide (((a0.length : Nat) : Int) = ((a1.length : Nat) : Int))) (
 .ret false) <|
 .bind (rolodexref10_Same_l4 N a0 a1 0) fun z1 =>
 .sum z1 (fun z2 =>
 .ret false) fun z2 =>
 .ret true
def rolodexref10_Same (N : Nat) (a0 : List T_api_Sig) (a1 : List T_api_Sig) : Option (Bool) := (rolodexref10_Same_t N a0 a1).run some
def rolodexref10_Same_L (N : Nat) : List (Nat × LEnt) := [(4, rolodexref10_Same_l4_s N)]
def rolodexref10_Same_s (N : Nat) : Ent := smF ⟨31, [], [.x (.sl 33 t_api_Sig), .x (.sl 33 t_api_Sig)], [], []⟩ [(.sl 33 t_api_Sig), (.sl 33 t_api_Sig)] (Bool) (fun x => rolodexref10_Same N x.1 x.2.1) cs1 fun _ => rolodexref10_Same_o
theorem rolodexref10_Same_ok (N : Nat) : SmOK Tryz.prog (rolodexref10_Same_s N) :=
  fn_ok (H := rolodexref10_Same_H) (L := lenv (rolodexref10_Same_L N)) (ts := [(.sl 33 t_api_Sig), (.sl 33 t_api_Sig)]) (T := fun x => rolodexref10_Same_t N x.1 x.2.1) 0 Tryz_F31 (rolodexref10_Same_Eok N) (lenv_ok (by kernel_rfl) ⟨rolodexref10_Same_l4_ok N, trivial⟩) (rg0 (by kernel_rfl)) fun x => by kernel_rfl
noncomputable def Tryz_b25 : Code := Tryz.f25.body.getD .skip
theorem Tryz_F25 : FnF Tryz.prog 25 Tryz.f25 Tryz_b25 := ⟨Tryz_draw, by kernel_rfl, by kernel_rfl, by kernel_rfl⟩
def rolodexref12_Entries_H : TH := { live := [(0, [2, 3]), (1, [2, 3, 5]), (2, [4])], dec := [12, 19, 26, 33] }
def rolodexref12_Entries_E (N : Nat) : List Ent := [rolodexref10_Same_s N]
theorem rolodexref12_Entries_Eok (N : Nat) : SmAll Tryz.prog (rolodexref12_Entries_E N) := ⟨rolodexref10_Same_ok N, trivial⟩
def rolodexref12_Entries_o (z : Bool) : TV × THp := (xb z, [])
def rolodexref12_Entries_t (N : Nat) (a0 : T_api_Entry) (a1 : T_api_Entry) : Tree (Bool) :=
 .bind (rolodexref10_Same N (T_api_Entry.B a0) (T_api_Entry.B a1)) fun r1 =>
 .cond r1 (
 .cond (decide ((T_api_Entry.No a0) = (T_api_Entry.No a1))) (
 .cond (eqE t_api_Stamp (T_api_Entry.S a0) (T_api_Entry.S a1)) (
 .cond (decide ((T_api_Entry.Len a0) = (T_api_Entry.Len a1))) (
 .ret (eqE (.ba 32) (T_api_Entry.D a0) (T_api_Entry.D a1))) <|
 .ret false) <|
 .ret false) <|
 .ret false) <|
 .ret false
def rolodexref12_Entries (N : Nat) (a0 : T_api_Entry) (a1 : T_api_Entry) : Option (Bool) := (rolodexref12_Entries_t N a0 a1).run some
def rolodexref12_Entries_L (N : Nat) : List (Nat × LEnt) := []
def rolodexref12_Entries_s (N : Nat) : Ent := smF ⟨25, [], [.x t_api_Entry, .x t_api_Entry], [], []⟩ [t_api_Entry, t_api_Entry] (Bool) (fun x => rolodexref12_Entries N x.1 x.2.1) cs1 fun _ => rolodexref12_Entries_o
theorem rolodexref12_Entries_ok (N : Nat) : SmOK Tryz.prog (rolodexref12_Entries_s N) :=
  fn_ok (H := rolodexref12_Entries_H) (L := lenv (rolodexref12_Entries_L N)) (ts := [t_api_Entry, t_api_Entry]) (T := fun x => rolodexref12_Entries_t N x.1 x.2.1) 0 Tryz_F25 (rolodexref12_Entries_Eok N) (lenv_ok (by kernel_rfl) trivial) (rg0 (by kernel_rfl)) fun x => by kernel_rfl
noncomputable def Tryz_b24 : Code := Tryz.f24.body.getD .skip
theorem Tryz_F24 : FnF Tryz.prog 24 Tryz.f24 Tryz_b24 := ⟨Tryz_draw, by kernel_rfl, by kernel_rfl, by kernel_rfl⟩
def rolodexref12_Lines_H : TH := { live := [(0, [2, 3]), (1, [2, 3, 27]), (2, [4]), (3, [2, 3, 5]), (4, [2, 3, 5, 32]), (5, [2, 3, 5]), (6, [2, 3, 5, 6]), (7, [2, 3, 5, 47]), (8, [4]), (9, [4])], dec := [12, 19] }
def rolodexref12_Lines_E (N : Nat) : List Ent := [rolodexref12_Entries_s N]
theorem rolodexref12_Lines_Eok (N : Nat) : SmAll Tryz.prog (rolodexref12_Lines_E N) := ⟨rolodexref12_Entries_ok N, trivial⟩
abbrev rolodexref12_Lines_l4_F := T_api_Line × T_api_Line
abbrev rolodexref12_Lines_l4_Y := Unit ⊕ (Int × Bool)
def rolodexref12_Lines_l4_o (f : rolodexref12_Lines_l4_F) : rolodexref12_Lines_l4_Y → Ex × TSt
 | .inl y => (.ret, ⟨0, 48, [], [(4, .bc false)], [], false, []⟩)
 | .inr y => (.exit 0, ⟨0, 48, [], [(2, .p 20 [] 0), (3, .p 30 [] 0), (5, xi y.1), (32, xb y.2)], [(20, .cell false (.tv t_api_Line f.1)), (30, .cell false (.tv t_api_Line f.2))], false, []⟩)
def rolodexref12_Lines_l4_L (N : Nat) : List (Nat × LEnt) := []
abbrev rolodexref12_Lines_l4_V := Int
def rolodexref12_Lines_l4_p : SP := ⟨0, 48, [], [(2, .k (.p 20 [] 0)), (3, .k (.p 30 [] 0)), (5, .x (.i .i64))], [(20, .cell false (.x t_api_Line)), (30, .cell false (.x t_api_Line))], false, []⟩
def rolodexref12_Lines_l4_h (f : rolodexref12_Lines_l4_F) (v : rolodexref12_Lines_l4_V) : TSt := fillS rolodexref12_Lines_l4_p [dv t_api_Line f.1, dv t_api_Line f.2, dv (.i .i64) v]
def rolodexref12_Lines_l4_t (N : Nat) (o_4 : T_api_Line) (o_4_2 : T_api_Line) (v : rolodexref12_Lines_l4_V) : Tree (rolodexref12_Lines_l4_V ⊕ rolodexref12_Lines_l4_Y) :=
 .cond (decide (v < (((T_api_Line.F o_4).length : Nat) : Int))) (
 .bind (getI (T_api_Line.F o_4) v) fun e1 =>
 .bind (getI (T_api_Line.F o_4_2) v) fun e2 =>
 .bind (rolodexref12_Entries N e1 e2) fun r3 =>
 .cond (!r3) (
 .ret (.inr (.inl ()))) <|
 .chk (in64 (v + 1)) <|
 .ret (.inl (v + 1))) <|
 .ret (.inr (.inr ((v, decide (v < (((T_api_Line.F o_4).length : Nat) : Int))))))
def rolodexref12_Lines_l4_n (N n : Nat) (f : rolodexref12_Lines_l4_F) (v : rolodexref12_Lines_l4_V) : Option rolodexref12_Lines_l4_Y := loopG (rolodexref12_Lines_l4_t N f.1 f.2) some n v
theorem rolodexref12_Lines_l4_q (N : Nat) (f : rolodexref12_Lines_l4_F) (n : Nat) (v : rolodexref12_Lines_l4_V) (y : rolodexref12_Lines_l4_Y) (h : rolodexref12_Lines_l4_n N n f v = some y) : LG Tryz.prog rolodexref12_Lines_H 24 (lookC Tryz_b24 4) (rolodexref12_Lines_l4_h f v) (rolodexref12_Lines_l4_o f y) :=
  loop_g Tryz_draw (E := rolodexref12_Lines_E N) (L := lenv (rolodexref12_Lines_l4_L N)) (st := rolodexref12_Lines_l4_o f) (g := some) (R := rolodexref12_Lines_l4_o f) (rolodexref12_Lines_Eok N) (lenv_ok (by kernel_rfl) trivial) (rg0 (by kernel_rfl)) (fun v => by kernel_rfl) (good_self (st := rolodexref12_Lines_l4_o f) fun y => by rcases y with _ | _ <;> rfl) n v y h
def rolodexref12_Lines_l4 (N : Nat) (o_4 : T_api_Line) (o_4_2 : T_api_Line) (s5_4 : Int) : Option rolodexref12_Lines_l4_Y := rolodexref12_Lines_l4_n N N (o_4, o_4_2) s5_4
def rolodexref12_Lines_l4_s (N : Nat) : LEnt := smL rolodexref12_Lines_l4_p [t_api_Line, t_api_Line, (.i .i64)] rolodexref12_Lines_l4_Y (fun x => rolodexref12_Lines_l4 N x.1 x.2.1 x.2.2.1) (csS cs1) fun x => rolodexref12_Lines_l4_o (x.1, x.2.1)
theorem rolodexref12_Lines_l4_ok (N : Nat) : LsOK Tryz.prog rolodexref12_Lines_H 24 (lookC Tryz_b24 4) (rolodexref12_Lines_l4_s N) := smL_ok fun x z h => rolodexref12_Lines_l4_q N (x.1, x.2.1) N x.2.2.1 z h
def rolodexref12_Lines_o (z : Bool) : TV × THp := (xb z, [])
def rolodexref12_Lines_t (N : Nat) (a0 : T_api_Line) (a1 : T_api_Line) : Tree (Bool) :=
 .cond (!(eqE (.ba 16) (T_api_Line.ID a0) (T_api_Line.ID a1))) (
 .ret false) <|
 .cond (!(eqE t_api_Stamp (T_api_Line.Dead a0) (T_api_Line.Dead a1))) (
 .ret false) <|
 .cond (!decide ((((T_api_Line.F a0).length : Nat) : Int) = (((T_api_Line.F a1).length : Nat) : Int))) (
 .ret false) <|
 .bind (rolodexref12_Lines_l4 N a0 a1 0) fun z1 =>
 .sum z1 (fun z2 =>
 .ret false) fun z2 =>
 .ret true
def rolodexref12_Lines (N : Nat) (a0 : T_api_Line) (a1 : T_api_Line) : Option (Bool) := (rolodexref12_Lines_t N a0 a1).run some
def rolodexref12_Lines_L (N : Nat) : List (Nat × LEnt) := [(4, rolodexref12_Lines_l4_s N)]
def rolodexref12_Lines_s (N : Nat) : Ent := smF ⟨24, [], [.x t_api_Line, .x t_api_Line], [], []⟩ [t_api_Line, t_api_Line] (Bool) (fun x => rolodexref12_Lines N x.1 x.2.1) cs1 fun _ => rolodexref12_Lines_o
theorem rolodexref12_Lines_ok (N : Nat) : SmOK Tryz.prog (rolodexref12_Lines_s N) :=
  fn_ok (H := rolodexref12_Lines_H) (L := lenv (rolodexref12_Lines_L N)) (ts := [t_api_Line, t_api_Line]) (T := fun x => rolodexref12_Lines_t N x.1 x.2.1) 0 Tryz_F24 (rolodexref12_Lines_Eok N) (lenv_ok (by kernel_rfl) ⟨rolodexref12_Lines_l4_ok N, trivial⟩) (rg0 (by kernel_rfl)) fun x => by kernel_rfl
noncomputable def Tryz_b4 : Code := Tryz.f4.body.getD .skip
theorem Tryz_F4 : FnF Tryz.prog 4 Tryz.f4 Tryz_b4 := ⟨Tryz_draw, by kernel_rfl, by kernel_rfl, by kernel_rfl⟩
def rolodexlaw12_ManifestFinds_H : TH := { live := [(0, [2, 4, 5, 6, 8]), (1, [2, 4, 5, 6, 8, 11]), (2, [2, 4, 5, 6, 8, 11, 12]), (3, [2, 4, 5, 6, 8, 11, 37]), (4, [10]), (5, [2, 4, 5, 6, 8, 13, 14]), (6, [2, 4, 5, 6, 8, 13, 14, 15, 16]), (7, [2, 4, 5, 6, 8, 13, 14, 15, 16, 17, 18]), (8, [4, 5, 8, 13, 14, 15, 16, 17, 18, 19, 20]), (9, [4, 5, 8, 13, 14, 15, 16, 17, 18, 19, 20, 21, 22, 23]), (10, [13, 14, 15, 16, 17, 18, 19, 20, 21, 22, 23, 24, 25, 26]), (11, [14, 16, 17, 18, 19, 20, 21, 22, 23, 24, 25, 26, 27]), (12, [14, 16, 18, 20, 21, 22, 23, 24, 25, 26, 27, 28]), (13, [10])], dec := [34, 88, 91, 96, 101, 106, 111] }
def rolodexlaw12_ManifestFinds_E (N : Nat) : List Ent := [auto9_s, rolodexref12_Few_s N, manifest_Line_s N, rolodexref12_Line_s N, manifest_Find_s N, rolodexref12_Find_s N, manifest_Like_s N, rolodexref12_Like_s N, rolodexref12_Lines_s N, rolodexref12_Entries_s N]
theorem rolodexlaw12_ManifestFinds_Eok (N : Nat) : SmAll Tryz.prog (rolodexlaw12_ManifestFinds_E N) := ⟨auto9_ok, rolodexref12_Few_ok N, manifest_Line_ok N, rolodexref12_Line_ok N, manifest_Find_ok N, rolodexref12_Find_ok N, manifest_Like_ok N, rolodexref12_Like_ok N, rolodexref12_Lines_ok N, rolodexref12_Entries_ok N, trivial⟩
def rolodexlaw12_ManifestFinds_o (z : Bool) : TV × THp := (xb z, [])
def rolodexlaw12_ManifestFinds_t (N : Nat) (a0 : T_api_Manifest) (a1 : Vector UInt8 16) (a2 : Int) (a3 : Vector UInt8 32) (a4 : Int) : Tree (Bool) :=
 .bind (auto9) fun r1 =>
 .bind (rolodexref12_Few N a0) fun r2 =>
 .cond (!r1) (
 .ret r1) <|
 .cond (!r2) (
 .ret r1) <|
 .bind (manifest_Line N a0 a1) fun r3 =>
 .bind (rolodexref12_Line N a0 a1) fun r4 =>
 .bind (manifest_Find N a0 a1 a2) fun r5 =>
 .bind (rolodexref12_Find N a0 a1 a2) fun r6 =>
 .bind (manifest_Like N a0 a3 a4) fun r7 =>
 .bind (rolodexref12_Like N a0 a3 a4) fun r8 =>
 .bind (rolodexref12_Lines N r3.1 r4.1) fun r9 =>
 .bind (rolodexref12_Entries N r5.1 r6.1) fun r10 =>
 .cond r9 (
 .cond r10 (
 .cond (eqE .b r3.2 r4.2) (
 .cond (eqE .b r5.2 r6.2) (
 .cond (eqE (.ba 16) r7.1 r8.1) (
 .cond (decide (r7.2.1 = r8.2.1)) (
 .ret (eqE .b r7.2.2 r8.2.2)) <|
 .ret false) <|
 .ret false) <|
 .ret false) <|
 .ret false) <|
 .ret false) <|
 .ret false
def rolodexlaw12_ManifestFinds (N : Nat) (a0 : T_api_Manifest) (a1 : Vector UInt8 16) (a2 : Int) (a3 : Vector UInt8 32) (a4 : Int) : Option (Bool) := (rolodexlaw12_ManifestFinds_t N a0 a1 a2 a3 a4).run some
def rolodexlaw12_ManifestFinds_L (N : Nat) : List (Nat × LEnt) := []
def rolodexlaw12_ManifestFinds_s (N : Nat) : Ent := smF ⟨4, [], [.x t_api_Manifest, .x (.ba 16), .x (.i .i64), .x (.ba 32), .x (.i .i64)], [], []⟩ [t_api_Manifest, (.ba 16), (.i .i64), (.ba 32), (.i .i64)] (Bool) (fun x => rolodexlaw12_ManifestFinds N x.1 x.2.1 x.2.2.1 x.2.2.2.1 x.2.2.2.2.1) cs1 fun _ => rolodexlaw12_ManifestFinds_o
theorem rolodexlaw12_ManifestFinds_val (N : Nat) : FnVal Tryz.prog ⟨4, [], [.x t_api_Manifest, .x (.ba 16), .x (.i .i64), .x (.ba 32), .x (.i .i64)], [], []⟩ [t_api_Manifest, (.ba 16), (.i .i64), (.ba 32), (.i .i64)] (fun x => rolodexlaw12_ManifestFinds_t N x.1 x.2.1 x.2.2.1 x.2.2.2.1 x.2.2.2.2.1) (fun _ => rolodexlaw12_ManifestFinds_o) :=
  fn_val (H := rolodexlaw12_ManifestFinds_H) (L := lenv (rolodexlaw12_ManifestFinds_L N)) 0 Tryz_F4 (rolodexlaw12_ManifestFinds_Eok N) (lenv_ok (by kernel_rfl) trivial) (rg0 (by kernel_rfl)) fun x => by kernel_rfl
theorem rolodexlaw12_ManifestFinds_ok (N : Nat) : SmOK Tryz.prog (rolodexlaw12_ManifestFinds_s N) := smF_ok (rolodexlaw12_ManifestFinds_val N)
noncomputable def Tryz_b5 : Code := Tryz.f5.body.getD .skip
theorem Tryz_F5 : FnF Tryz.prog 5 Tryz.f5 Tryz_b5 := ⟨Tryz_draw, by kernel_rfl, by kernel_rfl, by kernel_rfl⟩
def rolodexlaw12_ManifestLike_H : TH := { live := [(0, [2, 3, 4]), (1, [2, 3, 4, 7]), (2, [2, 3, 4, 7, 8]), (3, [2, 3, 4, 7, 30]), (4, [6]), (5, [2, 3, 4, 9, 10, 11]), (6, [2, 3, 4, 9, 10, 11, 12, 13]), (7, [2, 3, 4, 9, 10, 11, 63]), (8, [6]), (9, [2, 3, 4, 9, 10, 11, 14]), (10, [2, 3, 4, 9, 10, 11, 14, 68]), (11, [2, 3, 4, 9, 10, 11, 14]), (12, [2, 3, 4, 9, 10, 11, 14, 15]), (13, [2, 3, 4, 9, 10, 11, 14, 15, 79]), (14, [2, 3, 4, 9, 10, 11, 14, 15]), (15, [2, 3, 4, 9, 10, 11, 14, 15, 16]), (16, [2, 3, 4, 9, 10, 11, 14, 15, 16, 112]), (17, [6]), (18, [2, 3, 4, 9, 10, 11, 14, 15, 113]), (19, [6]), (20, [6])], dec := [22, 26, 48, 51, 57, 94, 109, 122, 138, 143] }
def rolodexlaw12_ManifestLike_E (N : Nat) : List Ent := [auto9_s, rolodexref12_Few_s N, manifest_May_s N, manifest_Like_s N, manifest_Find_s N]
theorem rolodexlaw12_ManifestLike_Eok (N : Nat) : SmAll Tryz.prog (rolodexlaw12_ManifestLike_E N) := ⟨auto9_ok, rolodexref12_Few_ok N, manifest_May_ok N, manifest_Like_ok N, manifest_Find_ok N, trivial⟩
abbrev rolodexlaw12_ManifestLike_l13_F := T_api_Manifest × Vector UInt8 32 × Vector UInt8 16 × Int × Int × Bool × Int
abbrev rolodexlaw12_ManifestLike_l13_Y := Bool ⊕ (Int × Bool)
def rolodexlaw12_ManifestLike_l13_o (f : rolodexlaw12_ManifestLike_l13_F) : rolodexlaw12_ManifestLike_l13_Y → Ex × TSt
 | .inl y => (.ret, ⟨0, 147, [], [(6, xb y)], [], false, []⟩)
 | .inr y => (.exit 2, ⟨0, 147, [], [(2, xi f.2.2.2.1), (3, .p 30 [] 0), (4, .p 40 [] 0), (9, .p 90 [] 0), (10, xi f.2.2.2.2.1), (11, xb f.2.2.2.2.2.1), (14, xi f.2.2.2.2.2.2), (15, xi y.1), (79, xb y.2)], [(30, .cell false (.tv t_api_Manifest f.1)), (40, .cell false (.tv (.ba 32) f.2.1)), (90, .cell false (.tv (.ba 16) f.2.2.1))], false, []⟩)
def rolodexlaw12_ManifestLike_l13_L (N : Nat) : List (Nat × LEnt) := []
abbrev rolodexlaw12_ManifestLike_l13_V := Int
def rolodexlaw12_ManifestLike_l13_p : SP := ⟨0, 147, [], [(2, .x (.i .i64)), (3, .k (.p 30 [] 0)), (4, .k (.p 40 [] 0)), (9, .k (.p 90 [] 0)), (10, .x (.i .i64)), (11, .x .b), (14, .x (.i .i64)), (15, .x (.i .i64))], [(30, .cell false (.x t_api_Manifest)), (40, .cell false (.x (.ba 32))), (90, .cell false (.x (.ba 16)))], false, []⟩
def rolodexlaw12_ManifestLike_l13_h (f : rolodexlaw12_ManifestLike_l13_F) (v : rolodexlaw12_ManifestLike_l13_V) : TSt := fillS rolodexlaw12_ManifestLike_l13_p [dv t_api_Manifest f.1, dv (.ba 32) f.2.1, dv (.ba 16) f.2.2.1, dv (.i .i64) f.2.2.2.1, dv (.i .i64) f.2.2.2.2.1, dv .b f.2.2.2.2.2.1, dv (.i .i64) f.2.2.2.2.2.2, dv (.i .i64) v]
def rolodexlaw12_ManifestLike_l13_t (N : Nat) (o_13 : T_api_Manifest) (o_13_2 : Vector UInt8 32) (o_13_3 : Vector UInt8 16) (s2_13 : Int) (s10_13 : Int) (s11_13 : Bool) (s14_13 : Int) (v : rolodexlaw12_ManifestLike_l13_V) : Tree (rolodexlaw12_ManifestLike_l13_V ⊕ rolodexlaw12_ManifestLike_l13_Y) :=
 .bind (getI (T_api_Manifest.L o_13) s14_13) fun e1 =>
 .cond (decide (v < (((T_api_Line.F e1).length : Nat) : Int))) (
 .bind (getI (T_api_Manifest.L o_13) s14_13) fun e2 =>
 .bind (getI (T_api_Line.F e2) v) fun e3 =>
 .cond (eqE (.ba 32) (T_api_Entry.D e3) o_13_2) (
 .bind (getI (T_api_Manifest.L o_13) s14_13) fun e4 =>
 .bind (getI (T_api_Line.F e4) v) fun e5 =>
 .cond (decide ((T_api_Entry.Len e5) = s2_13)) (
 .cond (!s11_13) (
 .ret (.inr (.inl false))) <|
 .cond (decide ((T_api_Entry.Len e5) = s2_13)) (
 .bind (getI (T_api_Manifest.L o_13) s14_13) fun e6 =>
 .cond (eqE (.ba 16) (T_api_Line.ID e6) o_13_3) (
 .bind (getI (T_api_Manifest.L o_13) s14_13) fun e7 =>
 .bind (getI (T_api_Line.F e7) v) fun e8 =>
 .ret (.inr (.inl (decide ((T_api_Entry.No e8) = s10_13))))) <|
 .ret (.inr (.inl false))) <|
 .chk (in64 (v + 1)) <|
 .ret (.inl (v + 1))) <|
 .cond (decide ((T_api_Entry.Len e5) = s2_13)) (
 .bind (getI (T_api_Manifest.L o_13) s14_13) fun e6 =>
 .cond (eqE (.ba 16) (T_api_Line.ID e6) o_13_3) (
 .bind (getI (T_api_Manifest.L o_13) s14_13) fun e7 =>
 .bind (getI (T_api_Line.F e7) v) fun e8 =>
 .ret (.inr (.inl (decide ((T_api_Entry.No e8) = s10_13))))) <|
 .ret (.inr (.inl false))) <|
 .chk (in64 (v + 1)) <|
 .ret (.inl (v + 1))) <|
 .chk (in64 (v + 1)) <|
 .ret (.inl (v + 1))) <|
 .ret (.inr (.inr ((v, decide (v < (((T_api_Line.F e1).length : Nat) : Int))))))
def rolodexlaw12_ManifestLike_l13_n (N n : Nat) (f : rolodexlaw12_ManifestLike_l13_F) (v : rolodexlaw12_ManifestLike_l13_V) : Option rolodexlaw12_ManifestLike_l13_Y := loopG (rolodexlaw12_ManifestLike_l13_t N f.1 f.2.1 f.2.2.1 f.2.2.2.1 f.2.2.2.2.1 f.2.2.2.2.2.1 f.2.2.2.2.2.2) some n v
theorem rolodexlaw12_ManifestLike_l13_q (N : Nat) (f : rolodexlaw12_ManifestLike_l13_F) (n : Nat) (v : rolodexlaw12_ManifestLike_l13_V) (y : rolodexlaw12_ManifestLike_l13_Y) (h : rolodexlaw12_ManifestLike_l13_n N n f v = some y) : LG Tryz.prog rolodexlaw12_ManifestLike_H 5 (lookC (lookC Tryz_b5 10) 13) (rolodexlaw12_ManifestLike_l13_h f v) (rolodexlaw12_ManifestLike_l13_o f y) :=
  loop_g Tryz_draw (E := rolodexlaw12_ManifestLike_E N) (L := lenv (rolodexlaw12_ManifestLike_l13_L N)) (st := rolodexlaw12_ManifestLike_l13_o f) (g := some) (R := rolodexlaw12_ManifestLike_l13_o f) (rolodexlaw12_ManifestLike_Eok N) (lenv_ok (by kernel_rfl) trivial) (rg0 (by kernel_rfl)) (fun v => by kernel_rfl) (good_self (st := rolodexlaw12_ManifestLike_l13_o f) fun y => by rcases y with _ | _ <;> rfl) n v y h
def rolodexlaw12_ManifestLike_l13 (N : Nat) (o_13 : T_api_Manifest) (o_13_2 : Vector UInt8 32) (o_13_3 : Vector UInt8 16) (s2_13 : Int) (s10_13 : Int) (s11_13 : Bool) (s14_13 : Int) (s15_13 : Int) : Option rolodexlaw12_ManifestLike_l13_Y := rolodexlaw12_ManifestLike_l13_n N N (o_13, o_13_2, o_13_3, s2_13, s10_13, s11_13, s14_13) s15_13
def rolodexlaw12_ManifestLike_l13_s (N : Nat) : LEnt := smL rolodexlaw12_ManifestLike_l13_p [t_api_Manifest, (.ba 32), (.ba 16), (.i .i64), (.i .i64), .b, (.i .i64), (.i .i64)] rolodexlaw12_ManifestLike_l13_Y (fun x => rolodexlaw12_ManifestLike_l13 N x.1 x.2.1 x.2.2.1 x.2.2.2.1 x.2.2.2.2.1 x.2.2.2.2.2.1 x.2.2.2.2.2.2.1 x.2.2.2.2.2.2.2.1) (csS cs1) fun x => rolodexlaw12_ManifestLike_l13_o (x.1, x.2.1, x.2.2.1, x.2.2.2.1, x.2.2.2.2.1, x.2.2.2.2.2.1, x.2.2.2.2.2.2.1)
theorem rolodexlaw12_ManifestLike_l13_ok (N : Nat) : LsOK Tryz.prog rolodexlaw12_ManifestLike_H 5 (lookC (lookC Tryz_b5 10) 13) (rolodexlaw12_ManifestLike_l13_s N) := smL_ok fun x z h => rolodexlaw12_ManifestLike_l13_q N (x.1, x.2.1, x.2.2.1, x.2.2.2.1, x.2.2.2.2.1, x.2.2.2.2.2.1, x.2.2.2.2.2.2.1) N x.2.2.2.2.2.2.2.1 z h
abbrev rolodexlaw12_ManifestLike_l10_F := T_api_Manifest × Vector UInt8 32 × Vector UInt8 16 × Int × Int × Bool
abbrev rolodexlaw12_ManifestLike_l10_Y := Bool ⊕ (Int × Bool)
def rolodexlaw12_ManifestLike_l10_o (f : rolodexlaw12_ManifestLike_l10_F) : rolodexlaw12_ManifestLike_l10_Y → Ex × TSt
 | .inl y => (.ret, ⟨0, 147, [], [(6, xb y)], [], false, []⟩)
 | .inr y => (.exit 0, ⟨0, 147, [], [(2, xi f.2.2.2.1), (3, .p 30 [] 0), (4, .p 40 [] 0), (9, .p 90 [] 0), (10, xi f.2.2.2.2.1), (11, xb f.2.2.2.2.2), (14, xi y.1), (68, xb y.2)], [(30, .cell false (.tv t_api_Manifest f.1)), (40, .cell false (.tv (.ba 32) f.2.1)), (90, .cell false (.tv (.ba 16) f.2.2.1))], false, []⟩)
def rolodexlaw12_ManifestLike_l10_L (N : Nat) : List (Nat × LEnt) := [(13, rolodexlaw12_ManifestLike_l13_s N)]
abbrev rolodexlaw12_ManifestLike_l10_V := Int
def rolodexlaw12_ManifestLike_l10_p : SP := ⟨0, 147, [], [(2, .x (.i .i64)), (3, .k (.p 30 [] 0)), (4, .k (.p 40 [] 0)), (9, .k (.p 90 [] 0)), (10, .x (.i .i64)), (11, .x .b), (14, .x (.i .i64))], [(30, .cell false (.x t_api_Manifest)), (40, .cell false (.x (.ba 32))), (90, .cell false (.x (.ba 16)))], false, []⟩
def rolodexlaw12_ManifestLike_l10_h (f : rolodexlaw12_ManifestLike_l10_F) (v : rolodexlaw12_ManifestLike_l10_V) : TSt := fillS rolodexlaw12_ManifestLike_l10_p [dv t_api_Manifest f.1, dv (.ba 32) f.2.1, dv (.ba 16) f.2.2.1, dv (.i .i64) f.2.2.2.1, dv (.i .i64) f.2.2.2.2.1, dv .b f.2.2.2.2.2, dv (.i .i64) v]
def rolodexlaw12_ManifestLike_l10_t (N : Nat) (o_10 : T_api_Manifest) (o_10_2 : Vector UInt8 32) (o_10_3 : Vector UInt8 16) (s2_10 : Int) (s10_10 : Int) (s11_10 : Bool) (v : rolodexlaw12_ManifestLike_l10_V) : Tree (rolodexlaw12_ManifestLike_l10_V ⊕ rolodexlaw12_ManifestLike_l10_Y) :=
 .cond (decide (v < (((T_api_Manifest.L o_10).length : Nat) : Int))) (
 .bind (rolodexlaw12_ManifestLike_l13 N o_10 o_10_2 o_10_3 s2_10 s10_10 s11_10 v 0) fun z1 =>
 .sum z1 (fun z2 =>
 .ret (.inr (.inl z2))) fun z2 =>
 .chk (in64 (v + 1)) <|
 .ret (.inl (v + 1))) <|
 .ret (.inr (.inr ((v, decide (v < (((T_api_Manifest.L o_10).length : Nat) : Int))))))
def rolodexlaw12_ManifestLike_l10_n (N n : Nat) (f : rolodexlaw12_ManifestLike_l10_F) (v : rolodexlaw12_ManifestLike_l10_V) : Option rolodexlaw12_ManifestLike_l10_Y := loopG (rolodexlaw12_ManifestLike_l10_t N f.1 f.2.1 f.2.2.1 f.2.2.2.1 f.2.2.2.2.1 f.2.2.2.2.2) some n v
theorem rolodexlaw12_ManifestLike_l10_q (N : Nat) (f : rolodexlaw12_ManifestLike_l10_F) (n : Nat) (v : rolodexlaw12_ManifestLike_l10_V) (y : rolodexlaw12_ManifestLike_l10_Y) (h : rolodexlaw12_ManifestLike_l10_n N n f v = some y) : LG Tryz.prog rolodexlaw12_ManifestLike_H 5 (lookC Tryz_b5 10) (rolodexlaw12_ManifestLike_l10_h f v) (rolodexlaw12_ManifestLike_l10_o f y) :=
  loop_g Tryz_draw (E := rolodexlaw12_ManifestLike_E N) (L := lenv (rolodexlaw12_ManifestLike_l10_L N)) (st := rolodexlaw12_ManifestLike_l10_o f) (g := some) (R := rolodexlaw12_ManifestLike_l10_o f) (rolodexlaw12_ManifestLike_Eok N) (lenv_ok (by kernel_rfl) ⟨rolodexlaw12_ManifestLike_l13_ok N, trivial⟩) (rg0 (by kernel_rfl)) (fun v => by kernel_rfl) (good_self (st := rolodexlaw12_ManifestLike_l10_o f) fun y => by rcases y with _ | _ <;> rfl) n v y h
def rolodexlaw12_ManifestLike_l10 (N : Nat) (o_10 : T_api_Manifest) (o_10_2 : Vector UInt8 32) (o_10_3 : Vector UInt8 16) (s2_10 : Int) (s10_10 : Int) (s11_10 : Bool) (s14_10 : Int) : Option rolodexlaw12_ManifestLike_l10_Y := rolodexlaw12_ManifestLike_l10_n N N (o_10, o_10_2, o_10_3, s2_10, s10_10, s11_10) s14_10
def rolodexlaw12_ManifestLike_l10_s (N : Nat) : LEnt := smL rolodexlaw12_ManifestLike_l10_p [t_api_Manifest, (.ba 32), (.ba 16), (.i .i64), (.i .i64), .b, (.i .i64)] rolodexlaw12_ManifestLike_l10_Y (fun x => rolodexlaw12_ManifestLike_l10 N x.1 x.2.1 x.2.2.1 x.2.2.2.1 x.2.2.2.2.1 x.2.2.2.2.2.1 x.2.2.2.2.2.2.1) (csS cs1) fun x => rolodexlaw12_ManifestLike_l10_o (x.1, x.2.1, x.2.2.1, x.2.2.2.1, x.2.2.2.2.1, x.2.2.2.2.2.1)
theorem rolodexlaw12_ManifestLike_l10_ok (N : Nat) : LsOK Tryz.prog rolodexlaw12_ManifestLike_H 5 (lookC Tryz_b5 10) (rolodexlaw12_ManifestLike_l10_s N) := smL_ok fun x z h => rolodexlaw12_ManifestLike_l10_q N (x.1, x.2.1, x.2.2.1, x.2.2.2.1, x.2.2.2.2.1, x.2.2.2.2.2.1) N x.2.2.2.2.2.2.1 z h
def rolodexlaw12_ManifestLike_o (z : Bool) : TV × THp := (xb z, [])
def rolodexlaw12_ManifestLike_t (N : Nat) (a0 : T_api_Manifest) (a1 : Vector UInt8 32) (a2 : Int) : Tree (Bool) :=
 .bind (auto9) fun r1 =>
 .bind (rolodexref12_Few N a0) fun r2 =>
 .cond (!r1) (
 .ret r1) <|
 .cond (!r2) (
 .ret r1) <|
 .bind (manifest_May N a0) fun r3 =>
 .cond (!r3) (
 .ret r1) <|
 .bind (manifest_Like N a0 a1 a2) fun r4 =>
 .bind (manifest_Find N a0 r4.1 r4.2.1) fun r5 =>
 .cond r4.2.2 (
 .cond (!r5.2) (
 .ret false) <|
 .cond (!(eqE (.ba 32) (T_api_Entry.D r5.1) a1)) (
 .ret false) <|
 .cond (!decide ((T_api_Entry.Len r5.1) = a2)) (
 .ret false) <|
 .bind (rolodexlaw12_ManifestLike_l10 N a0 a1 r4.1 a2 r4.2.1 r4.2.2 0) fun z6 =>
 .sum z6 (fun z7 =>
 .ret z7) fun z7 =>
 .cond (!r4.2.2) (
 .cond (eqE (.ba 16) r4.1 ((Vector.replicate 16 0))) (
 .ret (decide (r4.2.1 = 0))) <|
 .ret false) <|
 .ret false) <|
 .bind (rolodexlaw12_ManifestLike_l10 N a0 a1 r4.1 a2 r4.2.1 r4.2.2 0) fun z6 =>
 .sum z6 (fun z7 =>
 .ret z7) fun z7 =>
 .cond (!r4.2.2) (
 .cond (eqE (.ba 16) r4.1 ((Vector.replicate 16 0))) (
 .ret (decide (r4.2.1 = 0))) <|
 .ret false) <|
 .ret false
def rolodexlaw12_ManifestLike (N : Nat) (a0 : T_api_Manifest) (a1 : Vector UInt8 32) (a2 : Int) : Option (Bool) := (rolodexlaw12_ManifestLike_t N a0 a1 a2).run some
def rolodexlaw12_ManifestLike_L (N : Nat) : List (Nat × LEnt) := [(10, rolodexlaw12_ManifestLike_l10_s N)]
def rolodexlaw12_ManifestLike_s (N : Nat) : Ent := smF ⟨5, [], [.x t_api_Manifest, .x (.ba 32), .x (.i .i64)], [], []⟩ [t_api_Manifest, (.ba 32), (.i .i64)] (Bool) (fun x => rolodexlaw12_ManifestLike N x.1 x.2.1 x.2.2.1) cs1 fun _ => rolodexlaw12_ManifestLike_o
theorem rolodexlaw12_ManifestLike_val (N : Nat) : FnVal Tryz.prog ⟨5, [], [.x t_api_Manifest, .x (.ba 32), .x (.i .i64)], [], []⟩ [t_api_Manifest, (.ba 32), (.i .i64)] (fun x => rolodexlaw12_ManifestLike_t N x.1 x.2.1 x.2.2.1) (fun _ => rolodexlaw12_ManifestLike_o) :=
  fn_val (H := rolodexlaw12_ManifestLike_H) (L := lenv (rolodexlaw12_ManifestLike_L N)) 0 Tryz_F5 (rolodexlaw12_ManifestLike_Eok N) (lenv_ok (by kernel_rfl) ⟨rolodexlaw12_ManifestLike_l10_ok N, trivial⟩) (rg0 (by kernel_rfl)) fun x => by kernel_rfl
theorem rolodexlaw12_ManifestLike_ok (N : Nat) : SmOK Tryz.prog (rolodexlaw12_ManifestLike_s N) := smF_ok (rolodexlaw12_ManifestLike_val N)
end Go.Rx
end
set_option maxRecDepth 100000
noncomputable section
namespace Go.Rx
open Go.Proofs
abbrev allN (q : Nat → Bool) (n : Nat) : Bool := allF q n 0
theorem allN_iff {q : Nat → Bool} {n : Nat} : allN q n = true ↔ ∀ j, j < n → q j = true := by
  unfold allN; rw [allF_iff]
  exact ⟨fun h j hj => h j (Nat.zero_le _) (by omega), fun h j _ hj => h j (by omega)⟩
theorem scan_none {p q : Nat → Bool} {n : Nat} (h : firstF p n 0 = none) (hq : ∀ j, j < n → p j = !q j) : allN q n = true :=
  allN_iff.2 fun j hj => by
    have := firstF_none h j (Nat.zero_le _) (by omega)
    rw [hq j hj] at this; simpa using this
theorem scan_some {p q : Nat → Bool} {n i : Nat} (h : firstF p n 0 = some i) (hq : ∀ j, j < n → p j = !q j) : allN q n = false := by
  obtain ⟨h1, _, h2, _⟩ := firstF_some h
  cases e : allN q n with
  | false => rfl
  | true =>
    have := allN_iff.1 e i (by omega)
    rw [hq i (by omega), this] at h1; simp at h1
theorem loop_scan {α Y : Type} {B : Int → Tree (Int ⊕ (α ⊕ (Int × Bool)))} {g : α ⊕ (Int × Bool) → Option Y} {q : Nat → Bool} {n : Nat} {hit : α}
    (h1 : ∀ k, k < n → (B (k : Int)).run some = some (if q k then .inl ((k + 1 : Nat) : Int) else .inr (.inl hit))) (h2 : (B (n : Int)).run some = some (.inr (.inr (((n : Nat) : Int), false)))) {N : Nat} (hN : n < N) :
    loopG B g N ((0 : Nat) : Int) = g (if allN q n then .inr (((n : Nat) : Int), false) else .inl hit) := by
  rw [loop_find (p := fun k => !q k) (hit := fun _ => .inl hit) (fin := .inr (((n : Nat) : Int), false)) (n := n) (fun k hk => by rw [h1 k hk]; cases q k <;> rfl) h2 N 0 (Nat.zero_le _) (by omega), Nat.sub_zero]
  cases e : firstF (fun k => !q k) n 0 with
  | none => rw [scan_none e fun _ _ => rfl]; rfl
  | some i => rw [scan_some e fun _ _ => rfl]; rfl
theorem cast0 : ((0 : Nat) : Int) = 0 := rfl
abbrev zSt : T_api_Stamp := ((0 : Int), (0 : Int))
abbrev zE : T_api_Entry := T_api_Entry.mk 0 zSt 0 (Vector.replicate 32 0) []
abbrev zL : T_api_Line := T_api_Line.mk (Vector.replicate 16 0) zSt []
def fewL (x : T_api_Line) : Bool := decide (x.F.length ≤ 12) && allN (fun k => decide ((x.F.getD k zE).B.length ≤ 40)) x.F.length
def fewM (m : T_api_Manifest) : Bool := decide (m.L.length ≤ 14) && allN (fun k => fewL (m.L.getD k zL)) m.L.length
theorem small64 {k : Nat} (h : k ≤ 1000000) : in64 ((k + 1 : Nat) : Int) := by unfold in64; omega
theorem dec_lt12 {c n : Nat} : decide (((c : Nat) : Int) < ((n : Nat) : Int)) = !decide (n ≤ c) := by
  by_cases h : n ≤ c
  · rw [decide_eq_true h, decide_eq_false (by omega)]; rfl
  · rw [decide_eq_false h, decide_eq_true (by omega)]; rfl
theorem few_l9 {m : T_api_Manifest} {i : Nat} (hi : i < m.L.length) (h12 : (m.L.getD i zL).F.length ≤ 12) :
    rolodexref12_Few_l9 700 m (i : Int) 0 = some (if allN (fun k => decide (((m.L.getD i zL).F.getD k zE).B.length ≤ 40)) (m.L.getD i zL).F.length then .inr ((((m.L.getD i zL).F.length : Nat) : Int), false) else .inl ()) := by
  refine loop_scan (B := rolodexref12_Few_l9_t 700 m (i : Int)) (g := some) (q := fun k => decide (((m.L.getD i zL).F.getD k zE).B.length ≤ 40)) (fun k hk => ?_) ?_ (by omega)
  · unfold rolodexref12_Few_l9_t
    have e40 : decide ((40 : Int) < ((((m.L.getD i zL).F.getD k zE).B.length : Nat) : Int)) = !decide (((m.L.getD i zL).F.getD k zE).B.length ≤ 40) := dec_lt12 (c := 40)
    simp only [Tree.run, getI_D (d := zL) hi, Option.bind_some, dec_lt hk, cond_true, getI_D (d := zE) hk, int_succ, chk_pos' (small64 (k := k) (by omega)), e40]
    cases decide (((m.L.getD i zL).F.getD k zE).B.length ≤ 40) <;> rfl
  · unfold rolodexref12_Few_l9_t
    simp only [Tree.run, getI_D (d := zL) hi, Option.bind_some, dec_nlt (Nat.lt_irrefl _), cond_false]
theorem few_l4 {m : T_api_Manifest} (h14 : m.L.length ≤ 14) :
    rolodexref12_Few_l4 700 m 0 = some (if allN (fun k => fewL (m.L.getD k zL)) m.L.length then .inr (((m.L.length : Nat) : Int), false) else .inl ()) := by
  refine loop_scan (B := rolodexref12_Few_l4_t 700 m) (g := some) (q := fun k => fewL (m.L.getD k zL)) (fun k hk => ?_) ?_ (by omega)
  · unfold rolodexref12_Few_l4_t
    have h64 : in64 ((k + 1 : Nat) : Int) := small64 (Nat.le_trans (Nat.le_of_lt hk) (Nat.le_trans h14 (Nat.le_of_ble_eq_true rfl)))
    have e12 : decide ((12 : Int) < (((m.L.getD k zL).F.length : Nat) : Int)) = !decide ((m.L.getD k zL).F.length ≤ 12) := dec_lt12 (c := 12)
    simp only [Tree.run, dec_lt hk, cond_true, getI_D (d := zL) hk, Option.bind_some, e12, int_succ, chk_pos' h64]
    by_cases h : (m.L.getD k zL).F.length ≤ 12
    · simp only [fewL, decide_eq_true h, Bool.not_true, cond_false, few_l9 hk h, Option.bind_some, Bool.true_and]
      cases allN (fun j => decide (((m.L.getD k zL).F.getD j zE).B.length ≤ 40)) (m.L.getD k zL).F.length with
      | false => rfl
      | true => simp only [reduceIte, Tree.run, chk_pos' h64]
    · simp only [fewL, decide_eq_false h]; rfl
  · unfold rolodexref12_Few_l4_t
    simp only [Tree.run, dec_nlt (Nat.lt_irrefl _), cond_false]
theorem few_ok (m : T_api_Manifest) : rolodexref12_Few 700 m = some (fewM m) := by
  unfold rolodexref12_Few rolodexref12_Few_t fewM
  have e14 : decide ((14 : Int) < ((m.L.length : Nat) : Int)) = !decide (m.L.length ≤ 14) := dec_lt12 (c := 14)
  simp only [Tree.run, e14]
  by_cases h : m.L.length ≤ 14
  · simp only [decide_eq_true h, Bool.not_true, cond_false, few_l4 h, Option.bind_some, Bool.true_and]
    cases allN (fun k => fewL (m.L.getD k zL)) m.L.length <;> rfl
  · simp only [decide_eq_false h]; rfl
def stB (a : T_api_Stamp) : Bool := decide (a = zSt) || (decide (0 < a.1) && decide (a.1 ≤ 1099511627776) && decide (0 ≤ a.2) && decide (a.2 < 8))
def slB (a b : T_api_Stamp) : Bool := decide (a.1 < b.1 ∨ (a.1 = b.1 ∧ a.2 < b.2))
theorem eqSt (a b : T_api_Stamp) : eqE t_api_Stamp a b = decide (a = b) := Bool.eq_iff_iff.2 ((eqE_iff t_api_Stamp a b).trans (decide_eq_true_iff (p := (a : Int × Int) = b)).symm)
theorem eqID (a b : Vector UInt8 16) : eqE (.ba 16) a b = decide (a = b) := Bool.eq_iff_iff.2 ((eqE_iff (.ba 16) a b).trans (decide_eq_true_iff (p := (a : Vector UInt8 16) = b)).symm)
theorem stMay_ok (a : T_api_Stamp) : stamp_May a = some (stB a) := by
  unfold stamp_May stamp_May_t
  have e := eqSt a (T_api_Stamp.mk 0 0)
  simp only [Tree.run, e]
  show (bif decide (a = zSt) then _ else _) = some (decide (a = zSt) || _)
  cases decide (a = zSt) with
  | true => rfl
  | false =>
    show (bif decide (0 < a.1) then _ else _) = _
    cases decide (0 < a.1) with
    | false => rfl
    | true =>
      show (bif decide (a.1 ≤ 1099511627776) then _ else _) = _
      cases decide (a.1 ≤ 1099511627776) with
      | false => rfl
      | true =>
        show (bif decide (0 ≤ a.2) then _ else _) = _
        cases decide (0 ≤ a.2) <;> rfl
def sgn (a b : Int) : Int := if a < b then -1 else if b < a then 1 else 0
theorem cmp_ok (a b : Int) : cmp_Compare_int a b = some (sgn a b) := by
  unfold cmp_Compare_int cmp_Compare_int_t cmp_isNaN_int cmp_isNaN_int_t
  simp only [Tree.run, Option.bind_some, decide_true, Bool.not_true, cond_false, sgn]
  by_cases h : a < b
  · simp [h]
  · by_cases h2 : b < a
    · simp [h, h2]
    · simp [h, h2]
theorem or_m (b : Int) (h : b = -1 ∨ b = 0 ∨ b = 1) : cmp_Or_int 700 [-1, b] = some (-1) := by
  rcases h with rfl | rfl | rfl <;> kernel_rfl
theorem or_0 (b : Int) (h : b = -1 ∨ b = 0 ∨ b = 1) : cmp_Or_int 700 [0, b] = some b := by
  rcases h with rfl | rfl | rfl <;> kernel_rfl
theorem or_1 (b : Int) (h : b = -1 ∨ b = 0 ∨ b = 1) : cmp_Or_int 700 [1, b] = some 1 := by
  rcases h with rfl | rfl | rfl <;> kernel_rfl
theorem sgn3 (a b : Int) : sgn a b = -1 ∨ sgn a b = 0 ∨ sgn a b = 1 := by
  unfold sgn; split
  · exact .inl rfl
  · split
    · exact .inr (.inr rfl)
    · exact .inr (.inl rfl)
theorem stLess_ok (a b : T_api_Stamp) : stamp_Less 700 a b = some (slB a b) := by
  obtain ⟨a1, a2⟩ := a
  obtain ⟨b1, b2⟩ := b
  unfold stamp_Less stamp_Less_t
  simp only [Tree.run, eqSt, cmp_ok, Option.bind_some]
  by_cases h : ((a1, a2) : T_api_Stamp) = (b1, b2)
  · cases h
    have : slB ((a1, a2) : T_api_Stamp) (a1, a2) = false := decide_eq_false (by simp only; omega)
    rw [this, decide_eq_true rfl]; rfl
  · rw [decide_eq_false h]
    simp only [Bool.not_false, cond_true]
    show ((cmp_Or_int 700 [sgn a1 b1, sgn a2 b2]).bind _) = _
    have hs := sgn3 a2 b2
    by_cases h1 : a1 < b1
    · rw [show sgn a1 b1 = -1 from if_pos h1, or_m _ hs, show slB ((a1, a2) : T_api_Stamp) (b1, b2) = true from decide_eq_true (.inl h1)]; rfl
    · by_cases h2 : b1 < a1
      · rw [show sgn a1 b1 = 1 by unfold sgn; rw [if_neg h1, if_pos h2], or_1 _ hs, show slB ((a1, a2) : T_api_Stamp) (b1, b2) = false from decide_eq_false (by simp only; omega)]; rfl
      · have he : a1 = b1 := by omega
        rw [show sgn a1 b1 = 0 by unfold sgn; rw [if_neg h1, if_neg h2], or_0 _ hs, Option.bind_some]
        congr 1
        show decide _ = decide _
        rw [decide_eq_decide]
        simp only [he, Int.lt_irrefl, false_or, true_and]
        unfold sgn
        split
        · rename_i h3; simp [h3]
        · rename_i h3
          split
          · simp; omega
          · simp; omega
theorem few_iff {m : T_api_Manifest} : fewM m = true ↔ m.L.length ≤ 14 ∧ ∀ k, k < m.L.length → (m.L.getD k zL).F.length ≤ 12 ∧ ∀ j, j < (m.L.getD k zL).F.length → ((m.L.getD k zL).F.getD j zE).B.length ≤ 40 := by
  unfold fewM
  rw [Bool.and_eq_true, decide_eq_true_iff, allN_iff]
  refine and_congr Iff.rfl (forall_congr' fun k => imp_congr_right fun _ => ?_)
  unfold fewL
  rw [Bool.and_eq_true, decide_eq_true_iff, allN_iff]
  exact and_congr Iff.rfl (forall_congr' fun j => imp_congr_right fun _ => decide_eq_true_iff)
end Go.Rx
end
set_option maxRecDepth 100000
noncomputable section
namespace Go.Rx
open Go.Proofs
def blk (n : Int) : Int := if n < 24 then 0 else n.tdiv 8
def entB (e : T_api_Entry) (dead : T_api_Stamp) : Bool :=
  decide (0 ≤ e.No) && (decide (e.No < 8) && (decide (0 ≤ e.Len) && (decide (e.Len ≤ 200) && (decide (((e.B.length : Nat) : Int) = blk e.Len) && (stB e.S && slB dead e.S)))))
def entQ (l : List T_api_Entry) (dead : T_api_Stamp) (k : Nat) : Bool := entB (l.getD k zE) dead && (decide (k = 0) || !decide ((l.getD k zE).No ≤ (l.getD (k - 1) zE).No))
def lineB (x : T_api_Line) : Bool := allN (entQ x.F x.Dead) x.F.length && (stB x.Dead && (decide (0 < x.F.length) || !decide (x.Dead = zSt)))
def lbB (a b : Vector UInt8 16) : Bool := !decide (a = b) && decide (Go.Lib.compareBytes a.toList b.toList < 0)
def lineQ (l : List T_api_Line) (k : Nat) : Bool := lineB (l.getD k zL) && (decide (k = 0) || lbB (l.getD (k - 1) zL).ID (l.getD k zL).ID)
def mayM (m : T_api_Manifest) : Bool := allN (lineQ m.L) m.L.length && decide (m.L.length ≤ 10)
theorem bif_and {a b : Bool} : (bif a then some b else some false) = some (a && b) := by cases a <;> rfl
theorem blocks_ok {n : Int} (h : n ≤ 200) (h0 : 0 ≤ n) : manifest_blocks n = some (blk n) := by
  unfold manifest_blocks manifest_blocks_t blk
  by_cases h1 : n < 24
  · simp only [Tree.run, decide_eq_true h1, cond_true, if_pos h1]
  · have e : n.tdiv 8 ≤ n := by rw [Int.tdiv_eq_ediv_of_nonneg h0]; omega
    have e0 : 0 ≤ n.tdiv 8 := by rw [Int.tdiv_eq_ediv_of_nonneg h0]; omega
    have h64 : in64 (n.tdiv 8) := by unfold in64; omega
    simp only [Tree.run, decide_eq_false h1, cond_false, if_neg h1, chk_pos' h64]
    exact chk_pos' (by decide)
theorem entry_ok (e : T_api_Entry) (dead : T_api_Stamp) : manifest_entry 700 e dead = some (entB e dead) := by
  unfold manifest_entry manifest_entry_t entB
  simp only [Tree.run]
  by_cases h1 : 0 ≤ e.No
  · rw [decide_eq_true h1]
    by_cases h2 : e.No < 8
    · rw [decide_eq_true h2]
      by_cases h3 : 0 ≤ e.Len
      · rw [decide_eq_true h3]
        by_cases h4 : e.Len ≤ 200
        · rw [decide_eq_true h4, blocks_ok h4 h3]
          simp only [cond_true, Option.bind_some, stMay_ok, stLess_ok, Bool.true_and]
          cases decide (((e.B.length : Nat) : Int) = blk e.Len) with
          | false => rfl
          | true => exact bif_and
        · rw [decide_eq_false h4]; rfl
      · rw [decide_eq_false h3]; rfl
    · rw [decide_eq_false h2]; rfl
  · rw [decide_eq_false h1]; rfl
theorem pred64 {k : Nat} (h : k ≤ 1000000) : in64 ((k : Int) - 1) := by unfold in64; omega
theorem int_pred {k : Nat} (h : 0 < k) : (k : Int) - 1 = ((k - 1 : Nat) : Int) := by omega
theorem dec_pos {k : Nat} : decide ((0 : Int) < (k : Int)) = !decide (k = 0) := by
  by_cases h : k = 0
  · subst h; rfl
  · rw [decide_eq_false h, decide_eq_true (by omega)]; rfl
theorem line_l2 {x : T_api_Line} (h : x.F.length ≤ 600) :
    manifest_line_l2 700 x x.F ((x.F.length : Nat) : Int) 0 = some (if allN (entQ x.F x.Dead) x.F.length then .inr (((x.F.length : Nat) : Int), false) else .inl ()) := by
  refine loop_scan (B := manifest_line_l2_t 700 x x.F ((x.F.length : Nat) : Int)) (g := some) (q := entQ x.F x.Dead) (fun k hk => ?_) ?_ (by omega)
  · unfold manifest_line_l2_t
    have h64 : in64 ((k + 1 : Nat) : Int) := small64 (by omega)
    simp only [Tree.run, dec_lt hk, cond_true, getI_D (d := zE) hk, Option.bind_some, int_succ, chk_pos' h64, entry_ok, dec_pos]
    unfold entQ
    cases entB (x.F.getD k zE) x.Dead with
    | false => rfl
    | true =>
      by_cases h0 : k = 0
      · subst h0; rfl
      · have hp : in64 ((k - 1 : Nat) : Int) := by unfold in64; omega
        have hk1 : k - 1 < x.F.length := by omega
        simp only [decide_eq_false h0, Bool.not_true, Bool.not_false, cond_true, cond_false, chk_pos' hp, int_pred (Nat.pos_of_ne_zero h0), getI_D (d := zE) hk1, Option.bind_some, Bool.false_or, Bool.true_and]
        cases decide ((x.F.getD k zE).No ≤ (x.F.getD (k - 1) zE).No) <;> rfl
  · unfold manifest_line_l2_t
    simp only [Tree.run, dec_nlt (Nat.lt_irrefl _), cond_false]
theorem line_ok {x : T_api_Line} (h : x.F.length ≤ 600) : manifest_line 700 x = some (lineB x) := by
  unfold manifest_line manifest_line_t lineB
  simp only [Tree.run, line_l2 h, Option.bind_some]
  cases allN (entQ x.F x.Dead) x.F.length with
  | false => rfl
  | true =>
    simp only [reduceIte, Tree.run, stMay_ok, Option.bind_some, dec_pos, eqSt, Bool.true_and]
    have e : eqE t_api_Stamp x.Dead (T_api_Stamp.mk 0 0) = decide (x.Dead = zSt) := eqSt x.Dead (T_api_Stamp.mk 0 0)
    have e2 : decide (0 < x.F.length) = !decide (x.F.length = 0) := by
      by_cases h : x.F.length = 0
      · rw [decide_eq_true h, decide_eq_false (by omega)]; rfl
      · rw [decide_eq_false h, decide_eq_true (by omega)]; rfl
    cases stB x.Dead with
    | false => rfl
    | true =>
      rw [e2]
      cases decide (x.F.length = 0) <;> rfl
theorem bless_ok (a b : Vector UInt8 16) : book_Less a b = some (lbB a b) := by
  unfold book_Less book_Less_t bytes_Compare bytes_Compare_t bcmp lbB
  simp only [Tree.run, Option.bind_some, eqID]
  cases decide (a = b) <;> rfl
theorem may_l2 {m : T_api_Manifest} (h : m.L.length ≤ 600) (hF : ∀ k, k < m.L.length → (m.L.getD k zL).F.length ≤ 600) :
    manifest_May_l2 700 m m.L ((m.L.length : Nat) : Int) 0 = some (if allN (lineQ m.L) m.L.length then .inr (((m.L.length : Nat) : Int), false) else .inl ()) := by
  refine loop_scan (B := manifest_May_l2_t 700 m m.L ((m.L.length : Nat) : Int)) (g := some) (q := lineQ m.L) (fun k hk => ?_) ?_ (by omega)
  · unfold manifest_May_l2_t
    have h64 : in64 ((k + 1 : Nat) : Int) := small64 (by omega)
    simp only [Tree.run, dec_lt hk, cond_true, getI_D (d := zL) hk, Option.bind_some, int_succ, chk_pos' h64, line_ok (hF k hk), dec_pos]
    unfold lineQ
    cases lineB (m.L.getD k zL) with
    | false => rfl
    | true =>
      by_cases h0 : k = 0
      · subst h0; rfl
      · have hp : in64 ((k - 1 : Nat) : Int) := by unfold in64; omega
        have hk1 : k - 1 < m.L.length := by omega
        simp only [decide_eq_false h0, Bool.not_true, Bool.not_false, cond_true, cond_false, chk_pos' hp, int_pred (Nat.pos_of_ne_zero h0), getI_D (d := zL) hk1, Option.bind_some, Bool.false_or, Bool.true_and, bless_ok]
        cases lbB (m.L.getD (k - 1) zL).ID (m.L.getD k zL).ID <;> rfl
  · unfold manifest_May_l2_t
    simp only [Tree.run, dec_nlt (Nat.lt_irrefl _), cond_false]
theorem may_ok {m : T_api_Manifest} (h : m.L.length ≤ 600) (hF : ∀ k, k < m.L.length → (m.L.getD k zL).F.length ≤ 600) : manifest_May 700 m = some (mayM m) := by
  unfold manifest_May manifest_May_t mayM
  simp only [Tree.run, may_l2 h hF, Option.bind_some]
  cases allN (lineQ m.L) m.L.length with
  | false => rfl
  | true =>
    simp only [reduceIte, Tree.run, Bool.true_and]
    congr 1
    rw [decide_eq_decide]; omega
theorem mayM_iff {m : T_api_Manifest} : mayM m = true ↔ (∀ k, k < m.L.length → lineB (m.L.getD k zL) = true ∧ (k = 0 ∨ lbB (m.L.getD (k - 1) zL).ID (m.L.getD k zL).ID = true)) ∧ m.L.length ≤ 10 := by
  unfold mayM
  rw [Bool.and_eq_true, decide_eq_true_iff, allN_iff]
  refine and_congr (forall_congr' fun k => imp_congr_right fun _ => ?_) Iff.rfl
  show (lineB (m.L.getD k zL) && (decide (k = 0) || lbB (m.L.getD (k - 1) zL).ID (m.L.getD k zL).ID)) = true ↔ _
  rw [Bool.and_eq_true, Bool.or_eq_true, decide_eq_true_iff]
theorem lbB_self (a : Vector UInt8 16) : lbB a a = false := by unfold lbB; rw [decide_eq_true rfl]; rfl
theorem lineB_iff {x : T_api_Line} : lineB x = true ↔ (∀ k, k < x.F.length → entQ x.F x.Dead k = true) ∧ stB x.Dead = true ∧ (0 < x.F.length ∨ x.Dead ≠ zSt) := by
  unfold lineB
  rw [Bool.and_eq_true, Bool.and_eq_true, Bool.or_eq_true, allN_iff, decide_eq_true_iff, Bool.not_eq_true', decide_eq_false_iff_not]
end Go.Rx
end
set_option maxRecDepth 100000
noncomputable section
namespace Go.Rx
open Go.Proofs
theorem chkT {α : Type} {x : Option α} [Decidable True] : chk True x = x := if_pos trivial
theorem dec_self {n : Nat} [Decidable (((n : Nat) : Int) < ((n : Nat) : Int))] : decide (((n : Nat) : Int) < ((n : Nat) : Int)) = false := decide_eq_false (Int.lt_irrefl _)
theorem cloneS_ok {l : List T_api_Sig} (h : l.length ≤ 1000000) : slices_Clone_SigW l = some () := by
  unfold slices_Clone_SigW
  cases l with
  | nil => kernel_rfl
  | cons x r =>
    show slices_Clone_Sig (x :: r) = _
    unfold slices_Clone_Sig slices_Clone_Sig_t
    have h2 : avOK ([] : List T_api_Sig).length 0 ([] ++ x :: r).length 36 := ⟨rfl, by rw [List.nil_append]; unfold maxBytes; omega⟩
    simp only [Tree.run, chk_pos' h2, List.isEmpty_cons, chkT]
theorem cloneE_ok {l : List T_api_Entry} (h : l.length ≤ 1000000) : slices_Clone_EntryW l = some () := by
  unfold slices_Clone_EntryW
  cases l with
  | nil => kernel_rfl
  | cons x r =>
    show slices_Clone_Entry (x :: r) = _
    unfold slices_Clone_Entry slices_Clone_Entry_t
    have h2 : avOK ([] : List T_api_Entry).length 0 ([] ++ x :: r).length 88 := ⟨rfl, by rw [List.nil_append]; unfold maxBytes; omega⟩
    simp only [Tree.run, chk_pos' h2, List.isEmpty_cons, chkT]
theorem set_selfD {α : Type} {l : List α} {k : Nat} {d : α} (h : k < l.length) : l.set k (l.getD k d) = l := by
  rw [List.getD_eq_getElem?_getD, List.getElem?_eq_getElem h]; simp
theorem own_ok {x : T_api_Line} (h12 : x.F.length ≤ 12) (hB : ∀ j, j < x.F.length → (x.F.getD j zE).B.length ≤ 40) : manifest_own 700 x = some x := by
  unfold manifest_own manifest_own_t
  have key : manifest_own_l3 700 [] x.ID x.Dead x.F.length (Vector.replicate 16 0) (T_api_Stamp.mk 0 0) ((x.F.length : Nat) : Int) x.F 0 = some (x.F, ((x.F.length : Nat) : Int), false) := by
    refine (loop_fold (σ := Unit) (B := manifest_own_l3_t 700 [] x.ID x.Dead x.F.length (Vector.replicate 16 0) (T_api_Stamp.mk 0 0) ((x.F.length : Nat) : Int)) (g := some) (at_ := fun k _ => (x.F, (k : Int))) (I := fun _ _ => True) (f := fun _ s => s) (n := x.F.length)
      (fin := fun _ => (x.F, ((x.F.length : Nat) : Int), false)) (fun k s hk _ => ⟨?_, trivial⟩) (fun s _ => ?_) 700 0 () trivial (Nat.zero_le _) (by omega))
    · unfold manifest_own_l3_t
      have c1 : (0 : Int) ≤ (k : Int) ∧ (k : Int) < ((x.F.length : Nat) : Int) := by omega
      have h64 : in64 ((k + 1 : Nat) : Int) := small64 (by omega)
      have hb := hB k hk
      simp only [Tree.run, dec_lt hk, cond_true, chk_pos' c1, Int.toNat_natCast, getV_D (d := zE) rfl hk, Option.bind_some, cloneS_ok (show (x.F.getD k zE).B.length ≤ 1000000 by omega), int_succ, chk_pos' h64, List.nil_append]
      have e : T_api_Entry.mk (x.F.getD k zE).No (x.F.getD k zE).S (x.F.getD k zE).Len (x.F.getD k zE).D (x.F.getD k zE).B = x.F.getD k zE := rfl
      rw [e, set_selfD hk]
    · unfold manifest_own_l3_t
      simp only [Tree.run, dec_self, cond_false]
  simp only [Tree.run, cloneE_ok (show x.F.length ≤ 1000000 by omega), Option.bind_some, List.nil_append, List.length_nil, chkLs_pos, chkLs_nil, key, chkT]
  rfl
def idxL (l : List T_api_Line) (id : Vector UInt8 16) : Option Nat := firstF (fun k => decide ((l.getD k zL).ID = id)) l.length 0
def idxE (l : List T_api_Entry) (no : Int) : Option Nat := firstF (fun k => decide ((l.getD k zE).No = no)) l.length 0
def ansI : Option Nat → Int
  | some i => (i : Int)
  | none => -1
def lineM (m : T_api_Manifest) (id : Vector UInt8 16) : T_api_Line × Bool := match idxL m.L id with
  | some i => (m.L.getD i zL, true)
  | none => (zL, false)
def findE (m : T_api_Manifest) (id : Vector UInt8 16) (no : Int) : T_api_Entry × Bool := match idxE (lineM m id).1.F no with
  | some i => ((lineM m id).1.F.getD i zE, true)
  | none => (zE, false)
theorem indexL_ok {l : List T_api_Line} {id : Vector UInt8 16} (h : l.length ≤ 600) : slices_IndexFunc_Line 700 id l = some (ansI (idxL l id)) := by
  have key := loop_find (B := slices_IndexFunc_Line_l2_t 700 id l ((l.length : Nat) : Int)) (g := some) (p := fun k => decide ((l.getD k zL).ID = id)) (n := l.length) (hit := fun k => .inl (k : Int)) (fin := .inr (((l.length : Nat) : Int), false)) (fun k hk => by
    unfold slices_IndexFunc_Line_l2_t manifest_Line_1 manifest_Line_1_t
    have h64 : in64 ((k + 1 : Nat) : Int) := small64 (by omega)
    simp only [Tree.run, dec_lt hk, cond_true, getI_D (d := zL) hk, Option.bind_some, int_succ, chk_pos' h64, eqID]
    cases decide ((l.getD k zL).ID = id) <;> rfl) (by
    unfold slices_IndexFunc_Line_l2_t
    simp only [Tree.run, dec_self, cond_false]) 700 0 (Nat.zero_le _) (by omega)
  have e : slices_IndexFunc_Line_l2 700 id l ((l.length : Nat) : Int) 0 = loopG (slices_IndexFunc_Line_l2_t 700 id l ((l.length : Nat) : Int)) some 700 ((0 : Nat) : Int) := rfl
  unfold slices_IndexFunc_Line slices_IndexFunc_Line_t
  simp only [Tree.run]
  rw [e, key, Nat.sub_zero]
  unfold idxL
  cases firstF (fun k => decide ((l.getD k zL).ID = id)) l.length 0 <;> rfl
theorem indexE_ok {l : List T_api_Entry} {no : Int} (h : l.length ≤ 600) : slices_IndexFunc_Entry 700 no l = some (ansI (idxE l no)) := by
  have key := loop_find (B := slices_IndexFunc_Entry_l2_t 700 no l ((l.length : Nat) : Int)) (g := some) (p := fun k => decide ((l.getD k zE).No = no)) (n := l.length) (hit := fun k => .inl (k : Int)) (fin := .inr (((l.length : Nat) : Int), false)) (fun k hk => by
    unfold slices_IndexFunc_Entry_l2_t manifest_Find_1 manifest_Find_1_t
    have h64 : in64 ((k + 1 : Nat) : Int) := small64 (by omega)
    simp only [Tree.run, dec_lt hk, cond_true, getI_D (d := zE) hk, Option.bind_some, int_succ, chk_pos' h64]
    cases decide ((l.getD k zE).No = no) <;> rfl) (by
    unfold slices_IndexFunc_Entry_l2_t
    simp only [Tree.run, dec_self, cond_false]) 700 0 (Nat.zero_le _) (by omega)
  have e : slices_IndexFunc_Entry_l2 700 no l ((l.length : Nat) : Int) 0 = loopG (slices_IndexFunc_Entry_l2_t 700 no l ((l.length : Nat) : Int)) some 700 ((0 : Nat) : Int) := rfl
  unfold slices_IndexFunc_Entry slices_IndexFunc_Entry_t
  simp only [Tree.run]
  rw [e, key, Nat.sub_zero]
  unfold idxE
  cases firstF (fun k => decide ((l.getD k zE).No = no)) l.length 0 <;> rfl
theorem idx_lt {p : Nat → Bool} {n i : Nat} (h : firstF p n 0 = some i) : i < n ∧ p i = true := by
  obtain ⟨h1, _, h2, _⟩ := firstF_some h
  exact ⟨by omega, h1⟩
theorem dec_neg {i : Nat} [Decidable (((i : Nat) : Int) < 0)] : decide (((i : Nat) : Int) < 0) = false := decide_eq_false (by omega)
section f
variable {m : T_api_Manifest} (hf : fewM m = true)
include hf
theorem lineM_ok (id : Vector UInt8 16) : manifest_Line 700 m id = some (lineM m id) := by
  obtain ⟨h14, hF⟩ := few_iff.1 hf
  unfold manifest_Line manifest_Line_t lineM
  simp only [Tree.run, indexL_ok (show m.L.length ≤ 600 by omega), Option.bind_some]
  cases e : idxL m.L id with
  | none => rfl
  | some i =>
    have hi := (idx_lt e).1
    have hx := hF i hi
    have hn : ¬ (((i : Nat) : Int) < 0) := by omega
    show (bif decide (((i : Nat) : Int) < 0) then _ else _) = _
    rw [decide_eq_false hn]
    show ((getI _ ((i : Nat) : Int)).bind _) = _
    simp only [ getI_D (d := zL) hi, Option.bind_some, own_ok hx.1 hx.2]
theorem lineM_few (id : Vector UInt8 16) : (lineM m id).1.F.length ≤ 12 ∧ ∀ j, j < (lineM m id).1.F.length → ((lineM m id).1.F.getD j zE).B.length ≤ 40 := by
  obtain ⟨h14, hF⟩ := few_iff.1 hf
  unfold lineM
  cases e : idxL m.L id with
  | none => exact ⟨Nat.zero_le _, fun j hj => absurd hj (Nat.not_lt_zero _)⟩
  | some i => exact hF i (idx_lt e).1
theorem pmFind_ok (id : Vector UInt8 16) (no : Int) : manifest_Find 700 m id no = some (findE m id no) := by
  have hl := (lineM_few hf id).1
  unfold manifest_Find manifest_Find_t findE
  simp only [Tree.run, lineM_ok hf, Option.bind_some, indexE_ok (show (lineM m id).1.F.length ≤ 600 by omega)]
  cases e : idxE (lineM m id).1.F no with
  | none => rfl
  | some i =>
    have hi := (idx_lt e).1
    have hn : ¬ (((i : Nat) : Int) < 0) := by omega
    show (bif decide (((i : Nat) : Int) < 0) then _ else _) = _
    rw [decide_eq_false hn]
    show ((getI _ ((i : Nat) : Int)).bind _) = _
    simp only [ getI_D (d := zE) hi, Option.bind_some]
end f
abbrev PK := T_manifest_place × T_manifest_kind
def firstP (q : T_manifest_kind) : List PK → Option T_manifest_place
  | [] => none
  | (p, k) :: r => if k = q then some p else firstP q r
def linP (x : T_api_Line) : List PK := x.F.map fun e => ((x.ID, e.No), (e.D, e.Len))
def allP (l : List T_api_Line) : List PK := l.flatMap linP
theorem firstP_app {q : T_manifest_kind} : ∀ {l r : List PK}, firstP q (l ++ r) = match firstP q l with | some x => some x | none => firstP q r
  | [], r => rfl
  | (p, k) :: l, r => by
    show (if k = q then some p else firstP q (l ++ r)) = match (if k = q then some p else firstP q l) with | some x => some x | none => firstP q r
    split
    · rfl
    · exact firstP_app
def valK (q : T_manifest_kind) (M : List (T_manifest_kind × T_manifest_place × Nat)) : Option T_manifest_place := (fnd (β := T_manifest_place) t_manifest_kind q M).map (·.1)
def InvK (M : List (T_manifest_kind × T_manifest_place × Nat)) (l : List PK) : Prop := ∀ q, valK q M = firstP q l
theorem valK_put {q k : T_manifest_kind} {p : T_manifest_place} {c : Nat} {M : List (T_manifest_kind × T_manifest_place × Nat)} : valK q (putE (β := T_manifest_place) t_manifest_kind k p c M).2 = if q = k then some p else valK q M := by
  have := @valM_put (El t_manifest_kind) T_manifest_place (decE t_manifest_kind) k q p c M
  rw [show valK q (putE (β := T_manifest_place) t_manifest_kind k p c M).2 = @valM (El t_manifest_kind) T_manifest_place (decE t_manifest_kind) q (@putM (El t_manifest_kind) T_manifest_place (decE t_manifest_kind) k p c M).2 from rfl, this]
  rfl
theorem round_ok {c : Nat} {M : List (T_manifest_kind × T_manifest_place × Nat)} {l : List PK} (hi : InvK M l) (a2 : Vector UInt8 32) (a3 : Vector UInt8 16) (a4 : Int) (a5 : T_api_Manifest) (p : T_manifest_place) (k : T_manifest_kind) :
    ∃ c' M', round_manifest_Like_3 c M a2 a3 a4 a5 p k = some (c', M') ∧ InvK M' (l ++ [(p, k)]) := by
  unfold round_manifest_Like_3 round_manifest_Like_3_t
  simp only [Tree.run]
  have hk := hi k
  unfold valK at hk
  cases e : fnd (β := T_manifest_place) t_manifest_kind k M with
  | none =>
    rw [e] at hk
    refine ⟨_, _, rfl, fun q => ?_⟩
    rw [valK_put, firstP_app]
    by_cases hq : q = k
    · subst hq
      rw [if_pos rfl, ← hk]
      exact (if_pos rfl).symm
    · rw [if_neg hq, hi q]
      cases firstP q l with
      | some x => rfl
      | none => exact (if_neg (fun h => hq h.symm)).symm
  | some y =>
    rw [e] at hk
    refine ⟨_, _, rfl, fun q => ?_⟩
    rw [hi q, firstP_app]
    cases hq : firstP q l with
    | some x => rfl
    | none =>
      have : k ≠ q := fun h => by subst h; rw [← hk] at hq; cases hq
      exact (if_neg this).symm
theorem linP_at {x : T_api_Line} {k : Nat} (h : k < x.F.length) : (linP x).take (k + 1) = (linP x).take k ++ [((x.ID, (x.F.getD k zE).No), ((x.F.getD k zE).D, (x.F.getD k zE).Len))] := by
  have e : x.F.getD k zE = x.F[k] := by rw [List.getD_eq_getElem?_getD, List.getElem?_eq_getElem h]; rfl
  unfold linP
  rw [← List.map_take, ← List.map_take, List.take_succ_eq_append_getElem h, List.map_append, e]
  rfl
theorem allP_at {l : List T_api_Line} {i : Nat} (h : i < l.length) : allP (l.take (i + 1)) = allP (l.take i) ++ linP (l.getD i zL) := by
  unfold allP
  rw [List.take_succ_eq_append_getElem h, List.flatMap_append, List.getD_eq_getElem?_getD, List.getElem?_eq_getElem h]
  simp
theorem all_l4 {x : T_api_Line} (h12 : x.F.length ≤ 600) {base : List PK} {c : Nat} {M : List (T_manifest_kind × T_manifest_place × Nat)} (hi : InvK M base) (a2 : Vector UInt8 32) (a3 : Vector UInt8 16) (a4 : Int) (a5 : T_api_Manifest) (s8 : List T_api_Line) (s9 s10 : Int) :
    ∃ y, manifest_all_1_l4 700 a2 a3 a4 a5 x s8 s9 s10 x.F ((x.F.length : Nat) : Int) c M 0 = some y ∧ InvK y.2.1 (base ++ linP x) := by
  refine loop_inv (B := manifest_all_1_l4_t 700 a2 a3 a4 a5 x s8 s9 s10 x.F ((x.F.length : Nat) : Int)) (g := some) (I := fun v => ∃ k : Nat, k ≤ x.F.length ∧ v.2.2 = (k : Int) ∧ InvK v.2.1 (base ++ (linP x).take k)) (fun v => x.F.length - v.2.2.toNat) ?_ 700 _
    ⟨0, Nat.zero_le _, rfl, by rw [List.take_zero, List.append_nil]; exact hi⟩ (by omega)
  rintro ⟨c, M, v⟩ ⟨k, hk, hv, hM⟩
  simp only at hv hM
  subst hv
  by_cases h : k < x.F.length
  · left
    obtain ⟨c', M', e, hM'⟩ := round_ok (c := c) hM a2 a3 a4 a5 (T_manifest_place.mk x.ID (x.F.getD k zE).No) (T_manifest_kind.mk (x.F.getD k zE).D (x.F.getD k zE).Len)
    have h64 : in64 ((k + 1 : Nat) : Int) := small64 (by omega)
    refine ⟨(c', M', ((k + 1 : Nat) : Int)), ?_, ⟨k + 1, h, rfl, ?_⟩, ?_⟩
    · unfold manifest_all_1_l4_t
      simp only [Tree.run, dec_lt h, cond_true, getI_D (d := zE) h, Option.bind_some, e, int_succ, chk_pos' h64]
    · rw [linP_at h, ← List.append_assoc]; exact hM'
    · simp only [Int.toNat_natCast]; omega
  · right
    obtain rfl : k = x.F.length := by omega
    refine ⟨(c, M, ((x.F.length : Nat) : Int), false), _, ?_, rfl, ?_⟩
    · unfold manifest_all_1_l4_t
      simp only [Tree.run, dec_self, cond_false]
    · simp only
      rw [List.take_of_length_le (by unfold linP; rw [List.length_map]; exact Nat.le_refl _)] at hM
      exact hM
theorem all_ok {m : T_api_Manifest} (h14 : m.L.length ≤ 600) (hF : ∀ k, k < m.L.length → (m.L.getD k zL).F.length ≤ 600) (a2 : Vector UInt8 32) (a3 : Vector UInt8 16) (a4 : Int) :
    ∃ c M, manifest_all_1 700 0 [] a2 a3 a4 m = some (c, M) ∧ InvK M (allP m.L) := by
  have key : ∃ y, manifest_all_1_l1 700 a2 a3 a4 m m.L ((m.L.length : Nat) : Int) 0 [] 0 = some y ∧ InvK y.2.1 (allP m.L) := by
    refine loop_inv (B := manifest_all_1_l1_t 700 a2 a3 a4 m m.L ((m.L.length : Nat) : Int)) (g := some) (I := fun v => ∃ i : Nat, i ≤ m.L.length ∧ v.2.2 = (i : Int) ∧ InvK v.2.1 (allP (m.L.take i))) (fun v => m.L.length - v.2.2.toNat) ?_ 700 _
      ⟨0, Nat.zero_le _, rfl, fun q => rfl⟩ (by omega)
    rintro ⟨c, M, v⟩ ⟨i, hi, hv, hM⟩
    simp only at hv hM
    subst hv
    by_cases h : i < m.L.length
    · left
      obtain ⟨⟨c', M', _, _⟩, e, hM'⟩ := all_l4 (x := m.L.getD i zL) (hF i h) (c := c) hM a2 a3 a4 m m.L ((m.L.length : Nat) : Int) (i : Int)
      have h64 : in64 ((i + 1 : Nat) : Int) := small64 (by omega)
      refine ⟨(c', M', ((i + 1 : Nat) : Int)), ?_, ⟨i + 1, h, rfl, ?_⟩, ?_⟩
      · unfold manifest_all_1_l1_t
        simp only [Tree.run, dec_lt h, cond_true, getI_D (d := zL) h, Option.bind_some, e, int_succ, chk_pos' h64]
      · rw [allP_at h]; exact hM'
      · simp only [Int.toNat_natCast]; omega
    · right
      obtain rfl : i = m.L.length := by omega
      refine ⟨(c, M, ((m.L.length : Nat) : Int), false), _, ?_, rfl, ?_⟩
      · unfold manifest_all_1_l1_t
        simp only [Tree.run, dec_self, cond_false]
      · simp only
        rw [List.take_of_length_le (Nat.le_refl _)] at hM
        exact hM
  obtain ⟨⟨c, M, a, b⟩, e, hM⟩ := key
  refine ⟨c, M, ?_, hM⟩
  unfold manifest_all_1 manifest_all_1_t
  simp only [Tree.run, e, Option.bind_some]
def likeM (m : T_api_Manifest) (d : Vector UInt8 32) (n : Int) : Vector UInt8 16 × Int × Bool := match firstP (d, n) (allP m.L) with
  | some p => (p.1, p.2, true)
  | none => (Vector.replicate 16 0, 0, false)
theorem like_ok {m : T_api_Manifest} (hf : fewM m = true) (d : Vector UInt8 32) (n : Int) : manifest_Like 700 m d n = some (likeM m d n) := by
  obtain ⟨h14, hF⟩ := few_iff.1 hf
  obtain ⟨c, M, e, hM⟩ := all_ok (m := m) (by omega) (fun k hk => by have := (hF k hk).1; omega) d (Vector.replicate 16 0) n
  have hq := hM (T_manifest_kind.mk d n)
  unfold valK at hq
  unfold manifest_Like manifest_Like_t manifest_all manifest_all_t likeM
  simp only [Tree.run, Option.bind_some, e]
  show _ = some (match firstP (T_manifest_kind.mk d n) (allP m.L) with | some p => _ | none => _)
  rw [← hq]
  cases fnd (β := T_manifest_place) t_manifest_kind (T_manifest_kind.mk d n) M <;> rfl
end Go.Rx
end
set_option maxRecDepth 100000
noncomputable section
namespace Go.Rx
open Go.Proofs
open Go.Lib (compareBytes)
theorem cb_self : ∀ l : List UInt8, compareBytes l l = 0
  | [] => rfl
  | x :: l => by
    unfold compareBytes
    rw [if_neg (UInt8.lt_irrefl x), if_neg (UInt8.lt_irrefl x)]
    exact cb_self l
theorem cb_trans : ∀ a b c : List UInt8, compareBytes a b < 0 → compareBytes b c < 0 → compareBytes a c < 0
  | [], [], _, h, _ => by simp [compareBytes] at h
  | [], _ :: _, [], _, h => by simp [compareBytes] at h
  | [], _ :: _, _ :: _, _, _ => by simp [compareBytes]
  | _ :: _, [], _, h, _ => by simp [compareBytes] at h
  | _ :: _, _ :: _, [], _, h => by simp [compareBytes] at h
  | x :: a, y :: b, z :: c, h1, h2 => by
    unfold compareBytes at h1 h2 ⊢
    simp only [UInt8.lt_iff_toNat_lt] at h1 h2 ⊢
    by_cases hxy : x.toNat < y.toNat
    · by_cases hyz : y.toNat < z.toNat
      · rw [if_pos (by omega)]; decide
      · rw [if_neg hyz] at h2
        by_cases hzy : z.toNat < y.toNat
        · rw [if_pos hzy] at h2; simp at h2
        · rw [if_pos (by omega)]; decide
    · rw [if_neg hxy] at h1
      by_cases hyx : y.toNat < x.toNat
      · rw [if_pos hyx] at h1; simp at h1
      · rw [if_neg hyx] at h1
        by_cases hyz : y.toNat < z.toNat
        · rw [if_pos (by omega)]; decide
        · rw [if_neg hyz] at h2
          by_cases hzy : z.toNat < y.toNat
          · rw [if_pos hzy] at h2; simp at h2
          · rw [if_neg hzy] at h2
            rw [if_neg (by omega), if_neg (by omega)]
            exact cb_trans a b c h1 h2
theorem lbB_iff {a b : Vector UInt8 16} : lbB a b = true ↔ compareBytes a.toList b.toList < 0 := by
  unfold lbB
  rw [Bool.and_eq_true, Bool.not_eq_true', decide_eq_false_iff_not, decide_eq_true_iff]
  refine ⟨fun h => h.2, fun h => ⟨fun e => ?_, h⟩⟩
  subst e
  rw [cb_self] at h; simp at h
theorem ids_lt {m : T_api_Manifest} (hm : mayM m = true) : ∀ (d a : Nat), a + d + 1 < m.L.length → lbB (m.L.getD a zL).ID (m.L.getD (a + d + 1) zL).ID = true
  | 0, a, h => by
    have := ((mayM_iff.1 hm).1 (a + 0 + 1) h).2
    rcases this with e | e
    · omega
    · exact e
  | d + 1, a, h => by
    have h1 := ids_lt hm d a (by omega)
    have := ((mayM_iff.1 hm).1 (a + (d + 1) + 1) h).2
    rcases this with e | e
    · omega
    · rw [lbB_iff] at h1 e ⊢
      exact cb_trans _ _ _ h1 e
theorem ids_ne {m : T_api_Manifest} (hm : mayM m = true) {a b : Nat} (h : a < b) (hb : b < m.L.length) : (m.L.getD a zL).ID ≠ (m.L.getD b zL).ID := fun e => by
  have := ids_lt hm (b - a - 1) a (by omega)
  rw [show a + (b - a - 1) + 1 = b by omega, e, lbB_self] at this
  cases this
theorem nos_lt {x : T_api_Line} (h : lineB x = true) : ∀ (d a : Nat), a + d + 1 < x.F.length → (x.F.getD a zE).No < (x.F.getD (a + d + 1) zE).No
  | 0, a, hl => by
    have := (lineB_iff.1 h).1 (a + 0 + 1) hl
    unfold entQ at this
    rw [Bool.and_eq_true, Bool.or_eq_true, decide_eq_true_iff, Bool.not_eq_true', decide_eq_false_iff_not] at this
    rcases this.2 with e | e
    · omega
    · rw [show a + 0 + 1 - 1 = a by omega] at e; omega
  | d + 1, a, hl => by
    have h1 := nos_lt h d a (by omega)
    have := (lineB_iff.1 h).1 (a + (d + 1) + 1) hl
    unfold entQ at this
    rw [Bool.and_eq_true, Bool.or_eq_true, decide_eq_true_iff, Bool.not_eq_true', decide_eq_false_iff_not] at this
    rcases this.2 with e | e
    · omega
    · rw [show a + (d + 1) + 1 - 1 = a + d + 1 by omega] at e; omega
theorem firstP_mem {q : T_manifest_kind} {p : T_manifest_place} : ∀ {l : List PK}, firstP q l = some p → (p, q) ∈ l
  | [], h => by cases h
  | (p', k) :: r, h => by
    have h : (if k = q then some p' else firstP q r) = some p := h
    split at h
    · rename_i e
      cases h
      subst e
      exact List.mem_cons_self ..
    · exact List.mem_cons_of_mem _ (firstP_mem h)
theorem getD_mem {α : Type} {l : List α} {x d : α} (h : x ∈ l) : ∃ i, i < l.length ∧ l.getD i d = x := by
  obtain ⟨i, hi, e⟩ := List.getElem_of_mem h
  exact ⟨i, hi, by rw [List.getD_eq_getElem?_getD, List.getElem?_eq_getElem hi]; exact e⟩
theorem find_first {m : T_api_Manifest} (hm : mayM m = true) {d : Vector UInt8 32} {n : Int} {p : T_manifest_place} (h : firstP (d, n) (allP m.L) = some p) : ∃ e, findE m p.1 p.2 = (e, true) ∧ e.D = d ∧ e.Len = n := by
  have hmem := firstP_mem h
  obtain ⟨x, hx, hp⟩ := List.mem_flatMap.1 hmem
  obtain ⟨e, he, heq⟩ := List.mem_map.1 hp
  obtain ⟨i, hi, rfl⟩ := getD_mem (d := zL) hx
  obtain ⟨k, hk, rfl⟩ := getD_mem (d := zE) he
  have hlin := ((mayM_iff.1 hm).1 i hi).1
  simp only [Prod.mk.injEq] at heq
  obtain ⟨rfl, h1, h2⟩ := heq
  have e1 : idxL m.L (m.L.getD i zL).ID = some i := firstF_is (decide_eq_true rfl) (Nat.zero_le _) (by omega) fun j _ hj => decide_eq_false (ids_ne hm hj hi)
  have e2 : lineM m (m.L.getD i zL).ID = (m.L.getD i zL, true) := by unfold lineM; rw [e1]
  have e3 : idxE (m.L.getD i zL).F ((m.L.getD i zL).F.getD k zE).No = some k := firstF_is (decide_eq_true rfl) (Nat.zero_le _) (by omega) fun j _ hj => decide_eq_false fun e => by
    have := nos_lt hlin (k - j - 1) j (by omega)
    rw [show j + (k - j - 1) + 1 = k by omega] at this
    omega
  refine ⟨(m.L.getD i zL).F.getD k zE, ?_, h1, h2⟩
  unfold findE
  simp only [e2, e3]
def hitP (q : T_manifest_kind) (l : List PK) (is : Bool) (id : Vector UInt8 16) (no : Int) (y : Bool ⊕ (Int × Bool)) : Prop :=
  (∃ p : T_manifest_place, y = .inl (is && (decide (p.1 = id) && decide (p.2 = no))) ∧ firstP q l = some p) ∨ (∃ z, y = .inr z ∧ firstP q l = none)
theorem firstP_oneK {q : T_manifest_kind} {l : List PK} {p : T_manifest_place} {k : T_manifest_kind} (h : firstP q l = none) : firstP q (l ++ [(p, k)]) = if k = q then some p else none := by
  rw [firstP_app, h]
  rfl
theorem firstP_preK {q : T_manifest_kind} {l r : List PK} {p : T_manifest_place} (h : firstP q l = some p) : firstP q (l ++ r) = some p := by rw [firstP_app, h]
theorem eqDgK (a b : Vector UInt8 32) : eqE (.ba 32) a b = decide (a = b) := Bool.eq_iff_iff.2 ((eqE_iff (.ba 32) a b).trans (decide_eq_true_iff (p := (a : Vector UInt8 32) = b)).symm)
theorem linP_lenK {x : T_api_Line} : (linP x).length = x.F.length := by unfold linP; rw [List.length_map]
theorem kind_eqK {d d' : Vector UInt8 32} {n n' : Int} : ((d, n) : T_manifest_kind) = (d', n') ↔ d = d' ∧ n = n' := Prod.ext_iff
section l13
variable {N : Nat} {m : T_api_Manifest} {i k : Nat} {d : Vector UInt8 32} {n : Int} {id : Vector UInt8 16} {no : Int} {is : Bool}
theorem l13_run (hi : i < m.L.length) (hk : k < (m.L.getD i zL).F.length) (h64 : in64 ((k : Int) + 1)) :
    (rolodexlaw12_ManifestLike_l13_t N m d id n no is (i : Int) (k : Int)).run some = some (if ((((m.L.getD i zL).F.getD k zE).D, ((m.L.getD i zL).F.getD k zE).Len) : T_manifest_kind) = (d, n) then .inr (.inl (is && (decide ((m.L.getD i zL).ID = id) && decide (((m.L.getD i zL).F.getD k zE).No = no)))) else .inl ((k : Int) + 1)) := by
  unfold rolodexlaw12_ManifestLike_l13_t
  simp only [run_bind, run_cond, run_ret, run_chk, getI_D (d := zL) hi, dec_lt hk, cond_true, getI_D (d := zE) hk, Option.bind_some, chk_pos' h64, eqDgK, eqID]
  by_cases h1 : ((m.L.getD i zL).F.getD k zE).D = d
  · by_cases h2 : ((m.L.getD i zL).F.getD k zE).Len = n
    · rw [decide_eq_true h1, decide_eq_true h2, if_pos (kind_eqK.2 ⟨h1, h2⟩)]
      cases is with
      | false => rfl
      | true => cases decide ((m.L.getD i zL).ID = id) <;> rfl
    · rw [decide_eq_true h1, decide_eq_false h2, if_neg (fun e => h2 (kind_eqK.1 e).2)]; rfl
  · rw [decide_eq_false h1, if_neg (fun e => h1 (kind_eqK.1 e).1)]; rfl
theorem l13_end (hi : i < m.L.length) : (rolodexlaw12_ManifestLike_l13_t N m d id n no is (i : Int) (((m.L.getD i zL).F.length : Nat) : Int)).run some = some (.inr (.inr ((((m.L.getD i zL).F.length : Nat) : Int), false))) := by
  unfold rolodexlaw12_ManifestLike_l13_t
  simp only [run_bind, run_cond, run_ret, run_chk, getI_D (d := zL) hi, Option.bind_some, dec_self, cond_false]
theorem l13_ok (hi : i < m.L.length) (h : (m.L.getD i zL).F.length ≤ 600) (hN : 600 < N) :
    ∃ y, loopG (rolodexlaw12_ManifestLike_l13_t N m d id n no is (i : Int)) some N ((0 : Nat) : Int) = some y ∧ hitP (d, n) (linP (m.L.getD i zL)) is id no y := by
  refine loop_inv (I := fun v => ∃ k : Nat, k ≤ (m.L.getD i zL).F.length ∧ v = (k : Int) ∧ firstP (d, n) ((linP (m.L.getD i zL)).take k) = none) (fun v => (m.L.getD i zL).F.length - v.toNat) ?_ N ((0 : Nat) : Int)
    ⟨0, Nat.zero_le _, rfl, rfl⟩ (by omega)
  rintro v ⟨k, hk, rfl, hM⟩
  by_cases hlt : k < (m.L.getD i zL).F.length
  · have hrun := l13_run (N := N) (d := d) (n := n) (id := id) (no := no) (is := is) hi hlt (by unfold in64; omega)
    have hone := firstP_oneK (p := ((m.L.getD i zL).ID, ((m.L.getD i zL).F.getD k zE).No)) (k := (((m.L.getD i zL).F.getD k zE).D, ((m.L.getD i zL).F.getD k zE).Len)) hM
    rw [← linP_at hlt] at hone
    by_cases hq : ((((m.L.getD i zL).F.getD k zE).D, ((m.L.getD i zL).F.getD k zE).Len) : T_manifest_kind) = (d, n)
    · right
      rw [if_pos hq] at hrun hone
      refine ⟨_, _, hrun, rfl, .inl ⟨((m.L.getD i zL).ID, ((m.L.getD i zL).F.getD k zE).No), rfl, ?_⟩⟩
      have := firstP_preK (r := (linP (m.L.getD i zL)).drop (k + 1)) hone
      rw [List.take_append_drop] at this
      exact this
    · left
      rw [if_neg hq] at hrun hone
      rw [int_succ] at hrun
      exact ⟨_, hrun, ⟨k + 1, hlt, rfl, hone⟩, by simp only [Int.toNat_natCast]; omega⟩
  · right
    obtain rfl : k = (m.L.getD i zL).F.length := by omega
    refine ⟨.inr ((((m.L.getD i zL).F.length : Nat) : Int), false), _, l13_end hi, rfl, .inr ⟨_, rfl, ?_⟩⟩
    rw [List.take_of_length_le (by rw [linP_lenK]; exact Nat.le_refl _)] at hM
    exact hM
theorem l10_hit {b : Bool} (h : i < m.L.length) (e : loopG (rolodexlaw12_ManifestLike_l13_t N m d id n no is (i : Int)) some N ((0 : Nat) : Int) = some (.inl b)) :
    (rolodexlaw12_ManifestLike_l10_t N m d id n no is (i : Int)).run some = some (.inr (.inl b)) := by
  have e' : rolodexlaw12_ManifestLike_l13 N m d id n no is (i : Int) 0 = some (.inl b) := e
  unfold rolodexlaw12_ManifestLike_l10_t
  rw [run_cond, dec_lt h, cond_true, run_bind, e', Option.bind_some, run_suml, run_ret]
theorem l10_next {z : Int × Bool} (h : i < m.L.length) (h64 : in64 ((i : Int) + 1)) (e : loopG (rolodexlaw12_ManifestLike_l13_t N m d id n no is (i : Int)) some N ((0 : Nat) : Int) = some (.inr z)) :
    (rolodexlaw12_ManifestLike_l10_t N m d id n no is (i : Int)).run some = some (.inl ((i + 1 : Nat) : Int)) := by
  have e' : rolodexlaw12_ManifestLike_l13 N m d id n no is (i : Int) 0 = some (.inr z) := e
  unfold rolodexlaw12_ManifestLike_l10_t
  rw [run_cond, dec_lt h, cond_true, run_bind, e', Option.bind_some, run_sumr, run_chk, chk_pos' h64, run_ret, int_succ]
theorem l10_end : (rolodexlaw12_ManifestLike_l10_t N m d id n no is ((m.L.length : Nat) : Int)).run some = some (.inr (.inr (((m.L.length : Nat) : Int), false))) := by
  unfold rolodexlaw12_ManifestLike_l10_t
  simp only [run_cond, run_ret, dec_self, cond_false]
theorem l10_ok (h14 : m.L.length ≤ 600) (hF : ∀ k, k < m.L.length → (m.L.getD k zL).F.length ≤ 600) (hN : 600 < N) :
    ∃ y, loopG (rolodexlaw12_ManifestLike_l10_t N m d id n no is) some N ((0 : Nat) : Int) = some y ∧ hitP (d, n) (allP m.L) is id no y := by
  refine loop_inv (I := fun v => ∃ i : Nat, i ≤ m.L.length ∧ v = (i : Int) ∧ firstP (d, n) (allP (m.L.take i)) = none) (fun v => m.L.length - v.toNat) ?_ N ((0 : Nat) : Int)
    ⟨0, Nat.zero_le _, rfl, rfl⟩ (by omega)
  rintro v ⟨i, hi, rfl, hM⟩
  by_cases h : i < m.L.length
  · obtain ⟨y, e, hy⟩ := l13_ok (N := N) (d := d) (n := n) (id := id) (no := no) (is := is) h (hF i h) hN
    have hall := allP_at h
    rcases hy with ⟨p, rfl, hp⟩ | ⟨z, rfl, hp⟩
    · right
      refine ⟨_, _, l10_hit h e, rfl, .inl ⟨p, rfl, ?_⟩⟩
      have h1 : firstP (d, n) (allP (m.L.take (i + 1))) = some p := by rw [hall, firstP_app, hM]; exact hp
      have h2 : allP m.L = allP (m.L.take (i + 1)) ++ allP (m.L.drop (i + 1)) := by
        unfold allP
        rw [← List.flatMap_append, List.take_append_drop]
      rw [h2]; exact firstP_preK h1
    · left
      exact ⟨((i + 1 : Nat) : Int), l10_next h (by unfold in64; omega) e, ⟨i + 1, h, rfl, by rw [hall, firstP_app, hM]; exact hp⟩, by simp only [Int.toNat_natCast]; omega⟩
  · right
    obtain rfl : i = m.L.length := by omega
    refine ⟨.inr (((m.L.length : Nat) : Int), false), _, l10_end, rfl, .inr ⟨_, rfl, ?_⟩⟩
    rw [List.take_of_length_le (Nat.le_refl _)] at hM
    exact hM
end l13
theorem manifestLike (m : T_api_Manifest) (d : Vector UInt8 32) (n : Int) : ∃ N : Nat, rolodexlaw12_ManifestLike N m d n = some true := by
  refine ⟨700, ?_⟩
  unfold rolodexlaw12_ManifestLike rolodexlaw12_ManifestLike_t
  simp only [run_bind, run_cond, run_ret, show auto9 = some true from rfl, Option.bind_some, few_ok, Bool.not_true, cond_false]
  cases hf : fewM m with
  | false => rfl
  | true =>
    obtain ⟨h14, hF'⟩ := few_iff.1 hf
    have hF : ∀ k, k < m.L.length → (m.L.getD k zL).F.length ≤ 600 := fun k hk => by have := (hF' k hk).1; omega
    simp only [Bool.not_true, cond_false, may_ok (show m.L.length ≤ 600 by omega) hF, Option.bind_some]
    cases hm : mayM m with
    | false => rfl
    | true =>
      simp only [Bool.not_true, cond_false, like_ok hf, pmFind_ok hf, Option.bind_some]
      obtain ⟨y, e, hy⟩ := l10_ok (N := 700) (d := d) (n := n) (id := (likeM m d n).1) (no := (likeM m d n).2.1) (is := (likeM m d n).2.2) (show m.L.length ≤ 600 by omega) hF (by omega)
      have e' : rolodexlaw12_ManifestLike_l10 700 m d (likeM m d n).1 n (likeM m d n).2.1 (likeM m d n).2.2 0 = some y := e
      rw [e']
      cases hq : firstP (d, n) (allP m.L) with
      | some p =>
        have hl : likeM m d n = (p.1, p.2, true) := by unfold likeM; rw [hq]
        obtain ⟨en, h1, h2, h3⟩ := find_first hm hq
        rcases hy with ⟨p', rfl, hp⟩ | ⟨z, rfl, hp⟩
        · rw [hq] at hp
          obtain rfl := Option.some.inj hp
          simp only [hl, h1, cond_true, Bool.not_true, cond_false, eqDgK, h2, h3, decide_true, Option.bind_some, run_suml, run_ret, Bool.and_self]
        · rw [hq] at hp; cases hp
      | none =>
        have hl : likeM m d n = (Vector.replicate 16 0, 0, false) := by unfold likeM; rw [hq]
        rcases hy with ⟨p', rfl, hp⟩ | ⟨z, rfl, hp⟩
        · rw [hq] at hp; cases hp
        · simp only [hl, cond_false, Option.bind_some, run_sumr, run_cond, run_ret, Bool.not_false, cond_true, eqID, decide_true]
end Go.Rx
end
