/- A part of the proof of OrderBatches: the law returns true for every input, and its arguments read as before. No condition. -/
import Derived.Orders
import Derived.KernelRfl
import Derived.IntWalk
import Derived.Test.YtlfoomimcbobbaaOrderBatchesB
set_option linter.unusedSimpArgs false
set_option linter.unusedVariables false
set_option linter.unusedSectionVars false
namespace Go.Rx
section g
variable {P : Program} {hn : Hint} {K : FuncId} {O : Orc}
def Run (P : Program) (hn : Hint) (K : FuncId) (O : Orc) (ops : Array Oper) (base : Nat) (lab : Nat → List Nat) : List Nat → St → St → Prop
  | [], σ, σ' => σ = σ'
  | i :: l, σ, σ' => ∃ o D ps, ops[i]? = some o ∧ stepD P hn (Valid P) K O (base + i) ops o σ = some ((D, lab i), ps) ∧ All ps ∧ D.ok σ.ob = true ∧ dstOK σ o.dst = true ∧ Run P hn K O ops base lab l (D.app o.dst σ) σ'
def Apt (ops : Array Oper) (lab : Nat → List Nat) (i j : Nat) : Prop := ∀ x y, ops[i]? = some x → ops[j]? = some y → slotsApart ops x y = true ∧
  (heapless x.op = true ∨ heapless y.op = true ∨ (onlyReads x.op = true ∧ onlyReads y.op = true) ∨ disj (lab i) (lab j) = true)
theorem slotsApart_spec {ops : Array Oper} {x y : Oper} (h : slotsApart ops x y = true) :
    (∀ t, x.dst = some t → t ∉ looks ops y) ∧ (∀ t, x.dst = some t → y.dst ≠ some t) ∧ (∀ t, y.dst = some t → t ∉ looks ops x) := by
  unfold slotsApart at h
  simp only [Bool.and_eq_true] at h
  refine ⟨fun t ht => ?_, fun t ht => ?_, fun t ht => ?_⟩
  · have := h.1; simp only [ht, Bool.and_eq_true, Bool.not_eq_true'] at this
    intro hm; rw [(has_iff _ _).2 hm] at this; simp at this
  · have := h.1; simp only [ht, Bool.and_eq_true, Bool.not_eq_true'] at this
    intro hm; simp [hm] at this
  · have := h.2; simp only [ht, Bool.not_eq_true'] at this
    intro hm; rw [(has_iff _ _).2 hm] at this; simp at this
theorem app_looks {D : Dl} {d : Option Tmp} {σ : St} {ts : List Tmp} (h : ∀ t, d = some t → t ∉ ts) : ∀ t ∈ ts, get (D.app d σ).sl t = get σ.sl t := by
  intro t ht
  simp only [Dl.app, get_put]
  rw [if_neg (fun e => h t e ht)]
theorem Run.swap {ops : Array Oper} {base : Nat} {lab : Nat → List Nat} {i j : Nat} {l : List Nat} {σ σ' : St} (ha : Apt ops lab i j) (h1 : Srt σ.sl) (h2 : Srt σ.ob)
    (h : Run P hn K O ops base lab (i :: j :: l) σ σ') : Run P hn K O ops base lab (j :: i :: l) σ σ' := by
  obtain ⟨x, D, p, hx, sx, px, okx, dx, y, E, q, hy, sy, py, oky, dy, rest⟩ := h
  obtain ⟨hsl, hheap⟩ := ha x y hx hy
  obtain ⟨c1, c2, c3⟩ := slotsApart_spec hsl
  have hM : Meek D (lab i) E (lab j) := by
    rcases hheap with h | h | ⟨h, h'⟩ | h
    · have := stepD_heapless sx h; exact .inl ⟨this.1, .inl this.2⟩
    · have := stepD_heapless sy h; exact .inr (.inl ⟨this.1, .inl this.2⟩)
    · exact .inl ⟨stepD_reads sx h, .inr (stepD_reads sy h')⟩
    · exact .inr (.inr h)
  have lD := stepD_lab sx
  have lE := stepD_lab sy
  have s1 := Dl.app_srt (D := D) (d := x.dst) h1 h2
  have s2 := Dl.app_srt (D := E) (d := y.dst) h1 h2
  have agE := hM.agree lD (d := x.dst) (σ := σ)
  have agD := hM.symm.agree lE (d := y.dst) (σ := σ)
  refine ⟨y, E, q, hy, ?_, py, ?_, dy, x, D, p, hx, ?_, px, ?_, dx, ?_⟩
  · exact stepD_agree sy rfl (fun t ht => (app_looks c1 t ht).symm) s1.2 h2 (fun n hn => (agE n hn).symm)
  · rw [← Dl.ok_agree lE agE]; exact oky
  · exact stepD_agree sx rfl (app_looks c3) h2 s2.2 agD
  · rw [Dl.ok_agree lD agD]; exact okx
  · rw [← app_comm hM lD lE (fun t e => c2 t e) h1 h2]; exact rest
theorem Run.front {ops : Array Oper} {base : Nat} {lab : Nat → List Nat} {j : Nat} {l₂ : List Nat} {σ' : St} : ∀ (l₁ : List Nat) (σ : St), (∀ i ∈ l₁, Apt ops lab i j) → Srt σ.sl → Srt σ.ob →
    Run P hn K O ops base lab (l₁ ++ j :: l₂) σ σ' → Run P hn K O ops base lab (j :: (l₁ ++ l₂)) σ σ'
  | [], _, _, _, _, h => h
  | i :: l₁, σ, ha, h1, h2, h => by
    refine Run.swap (ha i (by simp)) h1 h2 ?_
    obtain ⟨x, D, p, hx, sx, px, okx, dx, rest⟩ := h
    have s1 := Dl.app_srt (D := D) (d := x.dst) h1 h2
    exact ⟨x, D, p, hx, sx, px, okx, dx, Run.front l₁ _ (fun k hk => ha k (by simp [hk])) s1.1 s1.2 rest⟩
theorem opsA_run {ops : Array Oper} {base : Nat} {lab : Nat → List Nat} : ∀ (l : List Oper) (k : Nat) (σ : St) (e : Ex) (σ' : St) (labs : List (List Nat)) (ps : List Prop), (∀ j, l[j]? = ops[k + j]?) → (∀ j, lab (k + j) = labs.getD j []) →
    opsA P hn (Valid P) K O ops (base + k) l σ = some ((e, σ', labs), ps) → All ps → Run P hn K O ops base lab (List.range' k l.length) σ σ'
  | [], k, σ, e, σ', labs, ps, hl, hb, hs, hp => by
    have := pure0_some hs
    simp only [Prod.mk.injEq] at this
    exact this.2.1.symm
  | o :: l, k, σ, e, σ', labs, ps, hl, hb, hs, hp => by
    simp only [opsA] at hs
    obtain ⟨s, p1, p2, e1, e2, hp1, hp2⟩ := with_some hs hp
    obtain ⟨D, lb, hD, ok1, ok2, rfl⟩ := stepA_form.1 e1
    simp only at e2
    obtain ⟨⟨e', σ2, labs'⟩, p3, p4, e3, e4, hp3, hp4⟩ := with_some e2 hp2
    have := pure0_some e4
    simp only [Prod.mk.injEq] at this
    obtain ⟨rfl, rfl, rfl⟩ := this
    have h0 : ops[k]? = some o := by simpa using (hl 0).symm
    have hlab : lab k = lb := by simpa using hb 0
    simp only [List.length_cons, List.range'_succ]
    refine ⟨o, D, p1, h0, by rw [hlab]; exact hD, hp1, ok1, ok2, ?_⟩
    refine opsA_run l (k + 1) _ e σ' labs' p3 (fun j => ?_) (fun j => ?_) e3 hp3
    · have := hl (j + 1); simpa [Nat.add_assoc, Nat.add_comm 1 j] using this
    · have := hb (j + 1); simpa [Nat.add_assoc, Nat.add_comm 1 j] using this
def aheadOf (acc : List (List Nat)) (o : Oper) : List Nat := o.after.toList.foldl (fun s e => if Region.binds .any e then (e.on :: (acc.getD e.on [])) ++ s else s) []
theorem fold_prefix (l : List Oper) : ∀ acc : List (List Nat), ∃ post, l.foldl (fun acc o => acc ++ [aheadOf acc o]) acc = acc ++ post := by
  induction l with
  | nil => exact fun acc => ⟨[], by simp⟩
  | cons o l ih =>
    intro acc
    obtain ⟨post, h⟩ := ih (acc ++ [aheadOf acc o])
    exact ⟨aheadOf acc o :: post, by simp only [List.foldl_cons, h]; simp⟩
theorem fold_at : ∀ (l : List Oper) (acc : List (List Nat)) (j : Nat) (o : Oper), l[j]? = some o → ∃ pre post, l.foldl (fun acc o => acc ++ [aheadOf acc o]) acc = pre ++ aheadOf pre o :: post ∧ pre.length = acc.length + j
  | [], _, _, _, h => by simp at h
  | o' :: l, acc, 0, o, h => by
    simp only [List.length_cons, Nat.zero_lt_succ, List.getElem?_cons_zero, Option.some.injEq] at h
    subst h
    obtain ⟨post, h⟩ := fold_prefix l (acc ++ [aheadOf acc o'])
    exact ⟨acc, post, by simp only [List.foldl_cons, h]; simp, rfl⟩
  | o' :: l, acc, j + 1, o, h => by
    obtain ⟨pre, post, h1, h2⟩ := fold_at l (acc ++ [aheadOf acc o']) j o (by simpa using h)
    exact ⟨pre, post, by simp only [List.foldl_cons, h1], by simp at h2; omega⟩
theorem mem_fold {acc : List (List Nat)} {k : Nat} (es : List Edge) : ∀ s, k ∈ es.foldl (fun s e => if Region.binds .any e then (e.on :: (acc.getD e.on [])) ++ s else s) s → k ∈ s ∨ ∃ e ∈ es, Region.binds .any e = true ∧ (k = e.on ∨ k ∈ acc.getD e.on []) := by
  induction es with
  | nil => intro s h; exact .inl h
  | cons e es ih =>
    intro s h
    simp only [List.foldl_cons] at h
    rcases ih _ h with h | ⟨e', h1, h2⟩
    · split at h
      · rename_i hb
        simp only [List.cons_append, List.mem_cons, List.mem_append] at h
        rcases h with h | h | h
        · exact .inr ⟨e, by simp, hb, .inl h⟩
        · exact .inr ⟨e, by simp, hb, .inr h⟩
        · exact .inl h
      · exact .inl h
    · exact .inr ⟨e', by simp [h1], h2⟩
theorem mem_aheads {ops : Array Oper} {i k : Nat} {o : Oper} (ho : ops[i]? = some o) (h : k ∈ (aheads ops).getD i []) : ∃ e ∈ o.after.toList, Region.binds .any e = true ∧ (k = e.on ∨ k ∈ (aheads ops).getD e.on []) := by
  obtain ⟨pre, post, h1, h2⟩ := fold_at ops.toList [] i o (by simpa using ho)
  have h1 : aheads ops = pre ++ aheadOf pre o :: post := h1
  simp only [List.length_nil, Nat.zero_add] at h2
  rw [h1] at h
  have : (pre ++ aheadOf pre o :: post).getD i [] = aheadOf pre o := by
    rw [List.getD_eq_getElem?_getD, List.getElem?_append_right (by omega)]; simp [h2]
  rw [this] at h
  rcases mem_fold _ _ h with h | ⟨e, he, hb, h⟩
  · simp at h
  · refine ⟨e, he, hb, h.imp id fun h => ?_⟩
    rw [h1, List.getD_eq_getElem?_getD]
    rw [List.getD_eq_getElem?_getD] at h
    by_cases hlt : e.on < pre.length
    · rw [List.getElem?_append_left hlt]; exact h
    · rw [List.getElem?_eq_none (by omega)] at h; simp at h
theorem getD_set {a : Array Bool} {i k : Nat} {d : Bool} (hi : i < a.size) : (a.setIfInBounds i true).getD k d = if k = i then true else a.getD k d := by
  rw [Array.getD_eq_getD_getElem?, Array.getD_eq_getD_getElem?, Array.getElem?_setIfInBounds]
  by_cases h : i = k
  · subst h; simp [hi]
  · rw [if_neg h, if_neg (fun e => h e.symm)]
theorem getD_free {a : Array Bool} {k : Nat} (hk : k < a.size) : a.getD k true = a.getD k false := by
  rw [Array.getD_eq_getD_getElem?, Array.getD_eq_getD_getElem?, Array.getElem?_eq_getElem hk]; rfl
def rest (n : Nat) (listed : Array Bool) : List Nat := (List.range n).filter fun i => !listed.getD i true
theorem mem_rest {n : Nat} {listed : Array Bool} {i : Nat} : i ∈ rest n listed ↔ i < n ∧ listed.getD i true = false := by
  simp [rest]
theorem rest_sorted (n : Nat) (listed : Array Bool) : (rest n listed).Pairwise (· < ·) := List.Pairwise.filter _ List.pairwise_lt_range
theorem rest_set {n i : Nat} {listed : Array Bool} {l₁ l₂ : List Nat} (hi : i < listed.size) (h : rest n listed = l₁ ++ i :: l₂) : rest n (listed.setIfInBounds i true) = l₁ ++ l₂ := by
  have h1 : rest n (listed.setIfInBounds i true) = (rest n listed).filter fun k => decide (k ≠ i) := by
    unfold rest
    rw [List.filter_filter]
    congr 1
    funext k
    rw [getD_set hi]
    by_cases e : k = i <;> simp [e]
  have hs := rest_sorted n listed
  rw [h] at hs
  rw [h1, h, List.filter_append, List.filter_cons]
  simp only [ne_eq, not_true_eq_false, decide_false, Bool.false_eq_true, if_false]
  rw [List.pairwise_append] at hs
  have f1 : l₁.filter (fun k => decide (¬ k = i)) = l₁ := List.filter_eq_self.2 fun k hk => by
    have := hs.2.2 k hk i (by simp); simp; omega
  have f2 : l₂.filter (fun k => decide (¬ k = i)) = l₂ := List.filter_eq_self.2 fun k hk => by
    have := (List.pairwise_cons.1 hs.2.1).1 k hk; simp; omega
  rw [f1, f2]
section any
variable {ops : Array Oper} {base : Nat} {lab : Nat → List Nat}
theorem apt_of {labs : List (List Nat)} {i j : Nat} (hd : drawOK ops = true) (hap : apartAll labs (askPairs ops) = true) (hlab : ∀ k, lab k = labs.getD k [])
    (hij : i < j) (hj : j < ops.size) (hun : ¬ i ∈ (aheads ops).getD j []) : Apt ops lab i j := by
  have hmem : (i, j) ∈ unordered ops := by
    unfold unordered pairsOf
    rw [List.mem_filter]
    refine ⟨List.mem_flatMap.2 ⟨j, List.mem_range.2 hj, List.mem_map.2 ⟨i, List.mem_range.2 hij, rfl⟩⟩, ?_⟩
    simp only [Bool.not_eq_true']
    cases hb : has ((aheads ops).getD j []) i
    · rfl
    · exact absurd ((has_iff _ _).1 hb) hun
  intro x y hx hy
  unfold drawOK at hd
  simp only [Bool.and_eq_true] at hd
  have h1 := List.all_eq_true.1 hd.1 (i, j) hmem
  simp only [hx, hy] at h1
  refine ⟨h1, ?_⟩
  by_cases c1 : heapless x.op = true
  · exact .inl c1
  by_cases c2 : heapless y.op = true
  · exact .inr (.inl c2)
  by_cases c3 : onlyReads x.op = true ∧ onlyReads y.op = true
  · exact .inr (.inr (.inl c3))
  refine .inr (.inr (.inr ?_))
  have hask : (i, j) ∈ askPairs ops := by
    unfold askPairs
    rw [List.mem_filter]
    refine ⟨hmem, ?_⟩
    simp only [hx, hy]
    simp only [Bool.not_eq_true', Bool.or_eq_false_iff, Bool.and_eq_false_iff]
    refine ⟨⟨by simpa using c1, by simpa using c2⟩, ?_⟩
    by_cases c4 : onlyReads x.op = true
    · right; by_cases c5 : onlyReads y.op = true
      · exact absurd ⟨c4, c5⟩ c3
      · simpa using c5
    · left; simpa using c4
  have := List.all_eq_true.1 hap (i, j) hask
  rw [hlab, hlab]; exact this
theorem any_sound {h₀ : Ob} {γ₀ : Hm} {G₀ : Gh} {w₀ : World} {labs : List (List Nat)} {σ' : St} {Q : Exit → Act → World → Prop} {ro : Option Nat} {nn : Nat} (hd : drawOK ops = true) (hap : apartAll labs (askPairs ops) = true) (hlab : ∀ k, lab k = labs.getD k [])
    (hq : ∀ a' w', Fits h₀ γ₀ G₀ w₀ σ' a' w' → Q .normal a' w') : ∀ (fuel : Nat) (listed : Array Bool) (σ : St) (a : Act) (w : World), listed.size = ops.size → (rest ops.size listed).length = fuel →
    (∀ m < ops.size, listed.getD m false = true → ∀ k ∈ (aheads ops).getD m [], listed.getD k false = true) →
    Run P hn K O ops base lab (rest ops.size listed) σ σ' → Srt σ.sl → Srt σ.ob → Fits h₀ γ₀ G₀ w₀ σ a w → wpAnyIn (FW ro) nn P .any ops Q fuel listed a w := by
  intro fuel
  induction fuel with
  | zero =>
    intro listed σ a w hsz hlen hcl hrun h1 h2 hf
    have hnil := List.length_eq_zero_iff.1 hlen
    rw [hnil] at hrun
    have : σ = σ' := hrun
    subst this
    refine ⟨?_, hq _ _ hf⟩
    unfold Region.ready
    rw [List.filter_eq_nil_iff]
    intro i hi hc
    simp only [Bool.and_eq_true, Bool.not_eq_true'] at hc
    have : i ∈ rest ops.size listed := mem_rest.2 ⟨List.mem_range.1 hi, hc.1⟩
    rw [hnil] at this; simp at this
  | succ fuel ih =>
    intro listed σ a w hsz hlen hcl hrun h1 h2 hf
    refine ⟨fun hnone => ?_, fun i hi => ?_⟩
    ·
      exfalso
      obtain ⟨j, l, hr⟩ : ∃ j l, rest ops.size listed = j :: l := by
        cases hr : rest ops.size listed with
        | nil => rw [hr] at hlen; simp at hlen
        | cons j l => exact ⟨j, l, rfl⟩
      have hj : j ∈ rest ops.size listed := by rw [hr]; simp
      obtain ⟨hjn, hju⟩ := mem_rest.1 hj
      have hmin : ∀ k < j, listed.getD k false = true := by
        intro k hk
        cases hb : listed.getD k false with
        | true => rfl
        | false =>
          have : k ∈ rest ops.size listed := mem_rest.2 ⟨by omega, by rw [getD_free (by omega)]; exact hb⟩
          have hs := rest_sorted ops.size listed
          rw [hr] at this hs
          rcases List.mem_cons.1 this with e | e
          · omega
          · have := (List.pairwise_cons.1 hs).1 k e; omega
      have : j ∈ Region.ready .any ops listed := by
        unfold Region.ready
        rw [List.mem_filter]
        refine ⟨List.mem_range.2 hjn, ?_⟩
        rw [hju, Array.getElem?_eq_getElem hjn]
        simp only [Bool.not_false, Bool.true_and, Option.map_some, Option.getD_some]
        rw [Array.all_eq_true]
        intro e he
        unfold drawOK at hd
        simp only [Bool.and_eq_true] at hd
        have := List.all_eq_true.1 hd.2 (ops[j], j) (by
          rw [List.mem_zipIdx_iff_getElem?]; simp [hjn])
        simp only [Bool.and_eq_true] at this
        have := List.all_eq_true.1 this.1 (ops[j].after[e]) (by simp)
        simp only [Bool.or_eq_true, Bool.not_eq_true', Nat.blt_eq] at this ⊢
        rcases this with h | h
        · exact .inl h
        · exact .inr (hmin _ h)
      rw [hnone] at this; simp at this
    · have hi' := hi
      unfold Region.ready at hi'
      rw [List.mem_filter] at hi'
      obtain ⟨hin, hc⟩ := hi'
      have hin := List.mem_range.1 hin
      simp only [Bool.and_eq_true, Bool.not_eq_true'] at hc
      obtain ⟨hun, hc⟩ := hc
      rw [Array.getElem?_eq_getElem hin] at hc
      simp only [Option.map_some, Option.getD_some] at hc
      rw [Array.all_eq_true] at hc
      have hoi : ops[i]? = some ops[i] := Array.getElem?_eq_getElem hin
      have hed : ∀ e ∈ ops[i].after.toList, Region.binds .any e = true → listed.getD e.on false = true := by
        intro e he hb
        obtain ⟨k, hk, rfl⟩ := Array.mem_iff_getElem.1 (Array.mem_toList_iff.1 he)
        have := hc k hk
        simp only [Bool.or_eq_true, Bool.not_eq_true'] at this
        rcases this with h | h
        · rw [hb] at h; simp at h
        · exact h
      have hal : ∀ k ∈ (aheads ops).getD i [], listed.getD k false = true := by
        intro k hk
        obtain ⟨e, he, hb, h⟩ := mem_aheads hoi hk
        have h3 := hed e he hb
        rcases h with rfl | h
        · exact h3
        · refine hcl e.on ?_ h3 k h
          have hne : listed.getD e.on false ≠ false := by rw [h3]; simp
          by_cases hlt : e.on < listed.size
          · omega
          · exfalso; apply hne; rw [Array.getD_eq_getD_getElem?, Array.getElem?_eq_none (by omega)]; rfl
      have hir : i ∈ rest ops.size listed := mem_rest.2 ⟨hin, hun⟩
      obtain ⟨l₁, l₂, hl⟩ := List.append_of_mem hir
      have hs := rest_sorted ops.size listed
      rw [hl] at hrun hs
      have hapt : ∀ k ∈ l₁, Apt ops lab k i := by
        intro k hk
        have hki : k < i := (List.pairwise_append.1 hs).2.2 k hk i (by simp)
        refine apt_of hd hap hlab hki hin fun hm => ?_
        have h3 := hal k hm
        have : k ∈ rest ops.size listed := by rw [hl]; simp [hk]
        have := (mem_rest.1 this).2
        rw [getD_free (by omega)] at this
        rw [this] at h3; simp at h3
      have hrun := Run.front l₁ σ hapt h1 h2 hrun
      obtain ⟨o, D, ps, ho, hstep, hps, hok, hds, hrest⟩ := hrun
      rw [hoi] at ho
      simp only [Option.some.injEq] at ho
      subst ho
      have hisz : i < listed.size := by omega
      have hset := rest_set hisz hl
      have s1 := Dl.app_srt (D := D) (d := ops[i].dst) h1 h2
      have hA := stepA_form.2 ⟨D, lab i, hstep, hok, hds, rfl⟩
      obtain ⟨γ, G, hst⟩ := hf
      obtain ⟨σ1, lab1, heq, hgo⟩ := stepA_sound hst hA hps
      simp only [SR.next.injEq] at heq
      obtain ⟨rfl, _⟩ := heq
      have hnext : ∀ a' w', Fits h₀ γ₀ G₀ w₀ (D.app ops[i].dst σ) a' w' → wpAnyIn (FW ro) nn P .any ops Q fuel (listed.setIfInBounds i true) a' w' := by
        intro a' w' hf'
        refine ih (listed.setIfInBounds i true) _ a' w' (by simpa using hsz) ?_ ?_ (by rw [hset]; exact hrest) s1.1 s1.2 hf'
        · rw [hset]
          have := congrArg List.length hl
          simp only [List.length_append, List.length_cons] at this ⊢
          omega
        · intro m hm hlm k hk
          rw [getD_set hisz] at hlm ⊢
          by_cases e : m = i
          · subst e
            split
            · rfl
            · exact hal k hk
          · rw [if_neg e] at hlm
            split
            · rfl
            · exact hcl m hm hlm k hk
      unfold wpOpIn
      rw [hoi]
      simp only
      have := hgo (wpAnyIn (FW ro) nn P .any ops Q fuel (listed.setIfInBounds i true)) Q hnext
      split
      · rename_i hw; rw [if_pos hw] at this; exact this
      · rename_i hw; rw [if_neg hw] at this; exact this
end any
theorem srtB_srt {α : Type} : ∀ {l : List (Nat × α)}, srtB l = true → Srt l
  | [], _ => List.Pairwise.nil
  | [e], _ => List.pairwise_singleton _ _
  | e :: e' :: r, h => by
    simp only [srtB, Bool.and_eq_true, Nat.blt_eq] at h
    have ih := srtB_srt h.2
    refine List.Pairwise.cons (fun x hx => ?_) ih
    rcases List.mem_cons.1 hx with rfl | hx
    · exact h.1
    · exact Nat.lt_trans h.1 ((List.pairwise_cons.1 ih).1 x hx)
theorem fits_drawn {h₀ : Ob} {γ₀ : Hm} {G₀ : Gh} {w₀ : World} {σ : St} {a : Act} {w : World} (h : Fits h₀ γ₀ G₀ w₀ σ a w) : Fits h₀ γ₀ G₀ w₀ σ a { w with drawn := w.drawn + 1 } := by
  obtain ⟨γ, G, h⟩ := h
  obtain ⟨h1, h2⟩ := grow_ok h.heap G { w with drawn := w.drawn + 1 } (Nat.le_refl _) (fun _ _ => rfl) (fun _ _ h => h) (fun b o h k => absurd h k)
  exact ⟨γ, G, h1, fun t x hx => by
    obtain ⟨v, hv, hr⟩ := h.slots t x hx
    exact ⟨v, hv, RepV.step h2 _ _ hr⟩, h.size, h.tr.then h2, h.keep, h.defers, h.dfr, h.dfk⟩
theorem draw_ok (hm : P.follows .mixedOrders = true) : DrawOK P hn K := by
  intro O id ops σ σ' e ps hs hp h₀ γ₀ G₀ w₀ a w Q hf hq ro nn
  unfold regionA at hs
  obtain ⟨⟨e1, σ1, labs⟩, p1, p2, g1, g2, hp1, hp2⟩ := with_some hs hp
  have hnorm := opsA_normal _ _ _ _ _ _ _ g1
  subst hnorm
  simp only at g2
  obtain ⟨hc, g2⟩ := need_some g2
  simp only [Bool.not_true, Bool.false_or, Bool.and_eq_true] at hc
  obtain ⟨⟨⟨hd, hap⟩, hs1⟩, hs2⟩ := hc
  split at g2
  · rename_i σ2 hgc
    have := pure0_some g2
    simp only [Prod.mk.injEq] at this
    obtain ⟨rfl, rfl⟩ := this
    refine wpIn_region_any hm ?_
    have hrest : rest ops.size (Array.replicate ops.size false) = List.range ops.size := by
      unfold rest
      rw [List.filter_eq_self]
      intro i hi
      rw [Array.getD_eq_getD_getElem?, Array.getElem?_eq_getElem (by simpa using List.mem_range.1 hi)]
      simp
    have hrun := opsA_run (ops := ops) (base := id * 1000) (lab := fun k => labs.getD k []) ops.toList 0 σ .normal σ1 labs p1 (fun j => by simp) (fun j => by simp only [Nat.zero_add]) (by rw [Nat.add_zero]; exact g1) hp1
    refine any_sound (ro := ro) (nn := nn) (hn := hn) (K := K) (O := O) (base := id * 1000) hd hap (fun _ => rfl) (fun a' w' hf' => hq _ _ (gc_sound hgc hf')) ops.size _ σ a _ (by simp) (by rw [hrest]; simp) (fun m _ h => ?_) ?_ (srtB_srt hs1) (srtB_srt hs2) (fits_drawn hf)
    · rw [Array.getD_eq_getD_getElem?] at h
      by_cases hlt : m < ops.size
      · rw [Array.getElem?_eq_getElem (by simpa using hlt)] at h; simp at h
      · rw [Array.getElem?_eq_none (by simpa using hlt)] at h; simp at h
    · rw [hrest, List.range_eq_range']; simpa using hrun
  · simp at g2
end g
end Go.Rx
namespace Go.Rx
section g
variable {P : Program} {hn : Hint} {K : FuncId}
theorem setAll_ok {ob : Ob} {γ : Hm} {G : Gh} {w : World} : ∀ (ps : List Tmp) (args : List AV) (vs : List Value) (sl : Sl) (tmps : Array Value), ps.length = args.length → (∀ t ∈ ps, t < tmps.size) → RepL ob γ G w args vs →
    (∀ t x, get sl t = some x → ∃ v, tmps[t]? = some v ∧ RepV ob γ G w x v) →
    (∀ t x, get (setAll ps args sl) t = some x → ∃ v, ((ps.zip vs).foldl (fun tmps (p : Nat × Value) => tmps.setIfInBounds p.1 p.2) tmps)[t]? = some v ∧ RepV ob γ G w x v) ∧ ((ps.zip vs).foldl (fun tmps (p : Nat × Value) => tmps.setIfInBounds p.1 p.2) tmps).size = tmps.size
  | [], [], vs, sl, tmps, _, _, _, h => ⟨by simpa [setAll] using h, by simp⟩
  | [], _ :: _, _, _, _, hl, _, _, _ => by simp at hl
  | _ :: _, [], _, _, _, hl, _, _, _ => by simp at hl
  | p :: ps, x :: xs, vs, sl, tmps, hl, hp, hr, h => by
    simp only [RepL] at hr
    obtain ⟨c, v, r, rfl, h1, h2, h3⟩ := hr
    have ih := setAll_ok ps xs r (ins p x sl) (tmps.setIfInBounds p v) (by simpa using hl) (fun t ht => by simpa using hp t (by simp [ht])) h3 (fun t y hy => by
      rw [get_ins] at hy
      split at hy
      · rename_i e; subst e; cases hy
        exact ⟨v, set_same _ _ _ (hp _ (by simp)), RepV_of h1 h2⟩
      · rename_i e
        obtain ⟨u, g1, g2⟩ := h t y hy
        exact ⟨u, by rw [set_other _ _ _ _ (fun q => e q.symm)]; exact g1, g2⟩)
    simp only [setAll, List.zip_cons_cons, List.foldl_cons]
    exact ⟨ih.1, by rw [ih.2]; simp⟩
theorem zip_fold (ps : List Tmp) (vs : List Value) (tmps : Array Value) : (ps.toArray.zip vs.toArray).foldl (fun tmps (t, a) => tmps.setIfInBounds t a) tmps = (ps.zip vs).foldl (fun tmps (p : Nat × Value) => tmps.setIfInBounds p.1 p.2) tmps := by
  simp
theorem valid_round (hD : DrawOK P hn K) (hR : RangeOK P hn K) {lvl l : Nat} {args : List AV} {h h' : Ob} {O : Orc} {out : Out} {qs : List Prop} (hs : roundO P hn (Valid P) K lvl l args h O = some ((out, h'), qs)) (hp : All qs) (lv : Nat) : Valid P lv (.yl l) args h out h' := by
  intro γ G w vf vas H hvf hva
  have h1 := RepV_one rfl rfl hvf
  simp only [RepC] at h1
  obtain ⟨h1, _⟩ := h1
  simp only [List.cons.injEq, and_true] at h1
  subst h1
  unfold roundO at hs
  split at hs
  case h_2 => simp at hs
  rename_i ps n sl as bd fn d hg
  obtain ⟨hc, hs⟩ := need_some hs
  simp only [Bool.and_eq_true] at hc
  obtain ⟨⟨hlen, hps⟩, hsol⟩ := hc
  have hlen := Nat.eq_of_beq_eq_true hlen
  obtain ⟨⟨e1, σ1⟩, p1, p2, g1, g2, hp1, hp2⟩ := with_some hs hp
  cases e1 <;> simp only at g2 <;> try (simp at g2; done)
  split at g2
  case h_2 => simp at g2
  rename_i ps1 n1 sl1 as1 bd1 fn1 d1 hg1
  obtain ⟨⟨e2, σ2⟩, p3, p4, g3, g4, hp3, hp4⟩ := with_some g2 hp2
  simp only at g4
  split at g4
  case h_2 => simp at g4
  rename_i ps2 n2 sl2 as2 bd2 fn2 st2 pe2 d2 j hg2 hj
  obtain ⟨hcl, g4⟩ := need_some g4
  simp only [Bool.and_eq_true] at hcl
  have g4 := pure0_some g4
  simp only [Prod.mk.injEq] at g4
  obtain ⟨rfl, rfl⟩ := g4
  refine ⟨_, rfl, ?_⟩
  have h0 := H.obj _ _ hg
  simp only [ObjOK] at h0
  obtain ⟨tmps, fn', k1, k2, k3, k4, k5⟩ := h0
  have hvl := RepL_len hva
  have hpsl : vas.toArray.size = ps.toArray.size := by simp; omega
  have hrun : (do let d ← Deferred.ofValue (.func (.yield (γ l).1) #[] #[]) vas.toArray; invoke d.target d.args : Sem Next).run P w = .ok (.round (γ l).1 fn' ((ps.zip vas).foldl (fun tmps (p : Nat × Value) => tmps.setIfInBounds p.1 p.2) tmps) as bd) w := by
    have := run_yield (P := P) (args := vas.toArray) k1 hpsl
    simp only [Deferred.ofValue, Sem.run_bind, Sem.run_pure, Result.andThen_ok, invoke, Array.empty_append]
    rw [this, zip_fold]
  unfold CallsV
  rw [hrun]
  simp only
  have hset := setAll_ok ps args vas sl tmps hlen (fun t ht => by rw [k2]; exact Nat.le_of_ble_eq_true (List.all_eq_true.1 hps t ht)) hva k3
  refine roundIn_of_wpIn (F := Fence.wide) trivial ?_
  have hfit0 : Fits h γ G w { lvl := lvl, n := n, keep := dom h, sl := setAll ps args sl, ob := h, rnd := true } { tmps := (ps.zip vas).foldl (fun tmps (p : Nat × Value) => tmps.setIfInBounds p.1 p.2) tmps, defers := [] } w :=
    ⟨γ, G, H, hset.1, by rw [hset.2]; exact k2, Trans.refl H, fun l o hl => (mem_dom h l).2 ⟨o, hl⟩, rfl, fun d hd => by simp at hd, fun d hd => by simp at hd⟩
  refine codeO_sound hD hR (some (γ l).1) 0 as O _ σ1 .normal p1 g1 hp1 (fun hh => by simp at hh) _ w _ hfit0 fun a1 w1 hf1 => ?_
  obtain ⟨γ1, G1, st1⟩ := hf1
  have hγ1 : γ1 l = γ l := by
    obtain ⟨o', q1, q2⟩ := st1.tr.kept l _ hg
    rw [hg1] at q1; cases q1
    exact q2
  have o1 := st1.heap.obj _ _ hg1
  have lt1 := o1.lt
  simp only [ObjOK] at o1
  obtain ⟨tmps1, fn1', m1, m2, m3, m4, m5⟩ := o1
  rw [hγ1] at m1 m5 lt1
  have hT1 := turn_ok st1.heap hg1 (.loop ps1 n1 sl1 as1 bd1 fn1 .busy none d1) G1 (w1.putObj (γ l).1 (.loop { state := .busy, pending := none, fn := fn1', tmps := tmps1, params := ps1.toArray, assign := as1, body := bd1, defers := (γ1 d1).1 }))
    (by simp [World.putObj]) (fun b hb => World.putObj_heap_other (by rw [hγ1] at hb; exact hb)) (keeps_block m5 fun b' hb' => World.putObj_heap_other hb') (fun _ _ h h' => absurd h h') rfl
    (fun m hm => by
      obtain ⟨o, ho⟩ := st1.heap.closed l _ hg1 m (by simpa [AObj.names] using hm)
      by_cases e : l = m
      · exact ⟨_, by rw [get_ins, if_pos e]⟩
      · exact ⟨o, by rw [get_ins, if_neg e]; exact ho⟩) (fun T => by
      simp only [ObjOK]
      refine ⟨tmps1, fn1', by rw [hγ1]; exact World.putObj_heap_same lt1, m2, fun t x hx => ?_, ?_, by rw [hγ1]; exact m5⟩
      · obtain ⟨v, q1, q2⟩ := m3 t x hx
        exact ⟨v, q1, RepV.step T _ _ q2⟩
      · exact dfr_kept T m4)
  refine ⟨_, run_beginRound m1 rfl, ?_⟩
  have hfit1 : Fits h γ G w { σ1 with ob := ins l (.loop ps1 n1 sl1 as1 bd1 fn1 .busy none d1) σ1.ob } a1 (w1.putObj (γ l).1 (.loop { state := .busy, pending := none, fn := fn1', tmps := tmps1, params := ps1.toArray, assign := as1, body := bd1, defers := (γ1 d1).1 })) :=
    ⟨γ1, G1, hT1.1, fun t x hx => by
      obtain ⟨v, q1, q2⟩ := st1.slots t x hx
      exact ⟨v, q1, RepV.step hT1.2 _ _ q2⟩, st1.size, st1.tr.then hT1.2, st1.keep, st1.defers, fun d hd => ⟨dfr_kept hT1.2 (st1.dfr d hd).1, (st1.dfr d hd).2⟩, st1.dfk⟩
  have hrnd1 : σ1.rnd = true := codeO_rnd _ _ _ _ _ _ g1
  refine codeO_sound hD hR (some (γ l).1) 0 bd O _ σ2 e2 p3 g3 hp3 (fun hh => by simp only at hh; rw [hrnd1] at hh; simp at hh) _ _ _ hfit1 fun a2 w2 hf2 => ?_
  obtain ⟨γ2, G2, st2⟩ := hf2
  have hγ2 : γ2 l = γ l := by
    obtain ⟨o', q1, q2⟩ := st2.tr.kept l _ hg
    rw [hg2] at q1; cases q1
    exact q2
  have o2 := st2.heap.obj _ _ hg2
  have lt2 := o2.lt
  simp only [ObjOK] at o2
  obtain ⟨tmps2, fn2', q1, q2, q3, q4, q5⟩ := o2
  rw [hγ2] at q1 q5 lt2
  have hT2 := turn_ok st2.heap hg2 (.loop ps2 n2 sl2 as2 bd2 fn2 (match (generalizing := false) j with | none => .ready | some _ => .done) j d2) G2 (w2.putObj (γ l).1 (.loop { state := if j.isNone then .ready else .done, pending := j, fn := fn2', tmps := tmps2, params := ps2.toArray, assign := as2, body := bd2, defers := (γ2 d2).1 }))
    (by simp [World.putObj]) (fun b hb => World.putObj_heap_other (by rw [hγ2] at hb; exact hb)) (keeps_block q5 fun b' hb' => World.putObj_heap_other hb') (fun _ _ h h' => absurd h h') rfl
    (fun m hm => by
      obtain ⟨o, ho⟩ := st2.heap.closed l _ hg2 m (by simpa [AObj.names] using hm)
      by_cases e : l = m
      · exact ⟨_, by rw [get_ins, if_pos e]⟩
      · exact ⟨o, by rw [get_ins, if_neg e]; exact ho⟩) (fun T => by
      simp only [ObjOK]
      refine ⟨tmps2, fn2', ?_, q2, fun t x hx => ?_, ?_, by rw [hγ2]; exact q5⟩
      · rw [hγ2, World.putObj_heap_same lt2]
        cases j <;> rfl
      · obtain ⟨v, r1, r2⟩ := q3 t x hx
        exact ⟨v, r1, RepV.step T _ _ r2⟩
      · exact dfr_kept T q4)
  have hend := run_endRound (P := P) j q1
  obtain ⟨hcn, hco⟩ := closedB_some hcl.1
  have hsub : ∀ l' o, get (keepOnly (reach (ins l (.loop ps2 n2 sl2 as2 bd2 fn2 (match (generalizing := false) j with | none => .ready | some _ => .done) j d2) σ2.ob) 500 (dom h) []) (ins l (.loop ps2 n2 sl2 as2 bd2 fn2 (match (generalizing := false) j with | none => .ready | some _ => .done) j d2) σ2.ob)) l' = some o →
      get (ins l (.loop ps2 n2 sl2 as2 bd2 fn2 (match (generalizing := false) j with | none => .ready | some _ => .done) j d2) σ2.ob) l' = some o := fun l' o hl => (get_only hl).2
  have HK := hT2.1.sub hsub hco
  have TK := (st2.tr.then hT2.2).drop hsub fun l' o hl => (has_dom _ l').1 (List.all_eq_true.1 hcl.2 l' ((mem_dom h l').2 ⟨o, hl⟩))
  have hres : ∃ v, (Value.bool j.isNone) = v ∧ RepV (keepOnly (reach (ins l (.loop ps2 n2 sl2 as2 bd2 fn2 (match (generalizing := false) j with | none => .ready | some _ => .done) j d2) σ2.ob) 500 (dom h) []) (ins l (.loop ps2 n2 sl2 as2 bd2 fn2 (match (generalizing := false) j with | none => .ready | some _ => .done) j d2) σ2.ob)) γ2 G2 (w2.putObj (γ l).1 (.loop { state := if j.isNone then .ready else .done, pending := j, fn := fn2', tmps := tmps2, params := ps2.toArray, assign := as2, body := bd2, defers := (γ2 d2).1 })) (.pv (.b (match (generalizing := false) j with | none => true | some _ => false))) v :=
    ⟨_, rfl, RepV_b.2 (by cases j <;> rfl)⟩
  obtain ⟨v, hv, hrep⟩ := hres
  cases e2 with
  | normal =>
    simp only [jumpOf, Option.some.injEq] at hj; subst hj
    exact ⟨_, _, hend, _, rfl, γ2, G2, HK, TK, by rw [hv]; exact hrep⟩
  | ret =>
    simp only [jumpOf, Option.some.injEq] at hj; subst hj
    exact ⟨_, _, hend, _, rfl, γ2, G2, HK, TK, by rw [hv]; exact hrep⟩
  | exit i =>
    simp only [jumpOf, Option.some.injEq] at hj; subst hj
    exact ⟨_, _, hend, _, rfl, γ2, G2, HK, TK, by rw [hv]; exact hrep⟩
  | goto t => simp [jumpOf] at hj
  | pan v => simp [jumpOf] at hj
end g
end Go.Rx
namespace Go.Rx
section g
variable {P : Program} {hn : Hint} {K : FuncId}
theorem new_ok2 {ob : Ob} {γ : Hm} {G : Gh} {w : World} (H : HeapOK ob γ G w) {l : Nat} (hl : get ob l = none) (o' : AObj) (cap : Nat) {w' : World} {obj : Obj} (hw : w'.heap = w.heap.push obj) (hcl : ∀ n ∈ o'.names, ∃ x, get (ins l o' ob) n = some x)
    (hobj : Trans ob γ G w (ins l o' ob) (upd γ l (w.heap.size, cap)) G w' → (∀ i, ¬ G w.heap.size i) → ObjOK (ins l o' ob) (upd γ l (w.heap.size, cap)) G w' l o') (hio : SameIO w w' := by exact ⟨rfl, rfl⟩) :
    HeapOK (ins l o' ob) (upd γ l (w.heap.size, cap)) G w' ∧ Trans ob γ G w (ins l o' ob) (upd γ l (w.heap.size, cap)) G w' :=
  put_ok H l o' (w.heap.size, cap) G w' (by rw [hw]; simp) (fun b hb _ => by rw [hw]; exact heap_push w _ b hb) ⟨fun _ _ h => h, fun b i h => by simp only [World.cell?, hw, heap_push w _ b (H.gok b i h)]⟩ (fun _ _ h h' => absurd h h')
    (by rw [hw]; simp) (.inl (Nat.le_refl _)) (fun o ho => by rw [hl] at ho; cases ho) hcl (fun T => hobj T fun i hi => by have := H.gok _ _ hi; omega) hio
theorem get_drop (l : Nat) (ob : Ob) (n : Nat) : get (dropOb l ob) n = if n = l then none else get ob n := by
  unfold dropOb
  rw [get_filter ob (fun n => !Nat.beq n l)]
  by_cases e : n = l
  · subst e; simp [Nat.beq_refl]
  · rw [if_neg e]
    cases hb : Nat.beq n l
    · simp
    · exact absurd (Nat.eq_of_beq_eq_true hb) e
theorem not_busy {st : LoopState} (h : notBusy st = true) : st ≠ .busy := by cases st <;> simp [notBusy] at h ⊢
theorem range_core {g : Operand} {ps : Array Tmp} {as bd : Code} {σ : St} {h₀ : Ob} {γ₀ : Hm} {G₀ : Gh} {w₀ : World} {a : Act} {w : World} {Q : Exit → Act → World → Prop} {γ : Hm} {G : Gh} (h : StOK h₀ γ₀ G₀ w₀ σ γ G a w) (nn : Nat) (L D : Nat) (T : List Nat)
    {k : FuncId} {first cap : List AV} (hg : opdA σ g = .fn (.func k) first cap) {r : AV} {h' : Ob} (hL : get σ.ob L = none) (hD : get σ.ob D = none) {ps' : List Tmp} {n' : Nat} {sl' : List (Nat × AV)} {as' bd' : Code} {fn' : FuncId} {st : LoopState} {pe : Option Code} {d' : Nat}
    (hgl : get h' L = some (.loop ps' n' sl' as' bd' fn' st pe d')) (hcl : closedB (L :: (AV.namesL first ++ AV.namesL cap)) (keepOnly T (ins L (.loop ps.toList σ.n σ.sl as bd K .ready none D) (ins D (.dfr true) σ.ob))) = true)
    (hcl2 : closedB [] (dropOb L (merge T h' (ins L (.loop ps.toList σ.n σ.sl as bd K .ready none D) (ins D (.dfr true) σ.ob)))) = true)
    (hnew : (dom h').all (fun n => has T n || !has (dom (ins L (.loop ps.toList σ.n σ.sl as bd K .ready none D) (ins D (.dfr true) σ.ob))) n) = true) (hst : notBusy st = true) (hcb : callable P k = true) (hkD : has σ.keep D = false) (hLD : Nat.beq L D = false)
    {ee : Ex} (hee : (match (generalizing := false) pe with | none => some Ex.normal | some .ret => some .ret | some (.exit i) => some (.exit i) | _ => none) = some ee)
    (hval : Valid P σ.lvl (.fn (.func k) first cap) [.yl L] (keepOnly T (ins L (.loop ps.toList σ.n σ.sl as bd K .ready none D) (ins D (.dfr true) σ.ob))) (.ret r) h')
    (hq : ∀ a' w', Fits h₀ γ₀ G₀ w₀ { σ with ob := dropOb L (merge T h' (ins L (.loop ps.toList σ.n σ.sl as bd K .ready none D) (ins D (.dfr true) σ.ob))), keep := D :: σ.keep, dfs := D :: σ.dfs } a' w' → Q (exOf ee) a' w') :
    (Code.rangeFunc g ps as bd).wpIn (FW none) nn P Q a w := by
  have hne : L ≠ D := fun e => by subst e; simp [Nat.beq_refl] at hLD
  have hA := new_ok2 h.heap hD (.dfr true) 0 (w' := w.alloc (.deferred (some []))) (obj := .deferred (some [])) rfl (fun n hn => by simp [AObj.names] at hn) (fun T hG => by
    simp only [ObjOK, upd_same]
    exact ⟨World.alloc_heap_new w _, hG⟩)
  have hvg := RepV_one rfl rfl (by have := h.stands g; rw [hg] at this; exact this)
  simp only [RepC] at hvg
  obtain ⟨va, vc, hvg, hva, hvc⟩ := hvg
  simp only [List.cons.injEq, and_true] at hvg
  refine wpIn_rangeFunc fun fn _ => ?_
  obtain ⟨hcn, hco⟩ := closedB_some hcl
  obtain ⟨oL, hoL⟩ := hcn L (by simp)
  obtain ⟨hTL, hoL'⟩ := get_only hoL
  rw [get_ins, if_pos rfl] at hoL'
  cases hoL'
  have hLA : get (ins D (.dfr true) σ.ob) L = none := by rw [get_ins, if_neg (fun e => hne e.symm)]; exact hL
  have hB := new_ok2 hA.1 hLA (.loop ps.toList σ.n σ.sl as bd K .ready none D) 0 (w' := (w.alloc (.deferred (some []))).alloc (.loop { state := .ready, pending := none, fn, tmps := a.tmps, params := ps, assign := as, body := bd, defers := w.heap.size })) (obj := .loop { state := .ready, pending := none, fn, tmps := a.tmps, params := ps, assign := as, body := bd, defers := w.heap.size }) rfl
    (fun n hn => by
      obtain ⟨x, hx⟩ := hco L _ hoL n hn
      exact ⟨x, (get_only hx).2⟩) (fun TB hG => by
    simp only [ObjOK, upd_same, upd_other _ _ (fun e => hne e.symm)]
    refine ⟨a.tmps, fn, World.alloc_heap_new _ _, h.size, fun t x hx => ?_, ⟨true, by rw [get_ins, if_neg hne, get_ins, if_pos rfl]⟩, hG⟩
    obtain ⟨v, q1, q2⟩ := h.slots t x hx
    exact ⟨v, q1, RepV.step TB _ _ (RepV.step hA.2 _ _ q2)⟩)
  have hAB := hA.2.trans h.heap hB.2
  revert hB hAB
  generalize hw2 : (w.alloc (.deferred (some []))).alloc (.loop { state := .ready, pending := none, fn, tmps := a.tmps, params := ps, assign := as, body := bd, defers := w.heap.size }) = w2
  have hszA : (w.alloc (.deferred (some []))).heap.size = w.heap.size + 1 := World.size_alloc _ _
  generalize hγ2 : upd (upd γ D (w.heap.size, 0)) L ((w.alloc (.deferred (some []))).heap.size, 0) = γ2
  intro hB hAB
  have hγL : (γ2 L).1 = w.heap.size + 1 := by rw [← hγ2, upd_same, hszA]
  have hγD : (γ2 D).1 = w.heap.size := by rw [← hγ2, upd_other _ _ (fun e => hne e.symm), upd_same]
  have hsub : ∀ l o, get (keepOnly T (ins L (.loop ps.toList σ.n σ.sl as bd K .ready none D) (ins D (.dfr true) σ.ob))) l = some o → get (ins L (.loop ps.toList σ.n σ.sl as bd K .ready none D) (ins D (.dfr true) σ.ob)) l = some o := fun l o hl => (get_only hl).2
  have HR := hB.1.sub hsub hco
  have hfv : RepV (keepOnly T (ins L (.loop ps.toList σ.n σ.sl as bd K .ready none D) (ins D (.dfr true) σ.ob))) γ2 G w2 (.fn (.func k) first cap) (a.eval g) := by
    have := h.stands g
    rw [hg] at this
    refine RepV_sub hsub (fun n hn => hcn n ?_) (RepV.step hAB _ _ this)
    simp only [AV.names] at hn
    exact List.mem_cons_of_mem _ hn
  have hyv : RepL (keepOnly T (ins L (.loop ps.toList σ.n σ.sl as bd K .ready none D) (ins D (.dfr true) σ.ob))) γ2 G w2 [.yl L] [.func (.yield (w.heap.size + 1)) #[] #[]] := by
    simp only [RepL]
    exact ⟨_, _, _, rfl, by simp only [RepC]; exact ⟨by rw [hγL], _, _, _, _, _, _, _, _, _, hoL⟩, rfl, rfl⟩
  obtain ⟨r', er, hcall⟩ := hval γ2 G w2 _ _ HR hfv hyv
  cases er
  obtain ⟨fk, hfk, hbk, hnk⟩ : ∃ fk, P.funcs[k]? = some fk ∧ fk.body.isSome = true ∧ (fk.name == "runtime.NumGoroutine") = false := by
    unfold callable at hcb
    split at hcb
    · rename_i fk hfk
      simp only [Bool.and_eq_true, Bool.not_eq_true'] at hcb
      exact ⟨fk, hfk, hcb.1, hcb.2⟩
    · simp at hcb
  have hinv : (invoke (.fn (.func k) vc.toArray) (va.toArray ++ #[Value.func (.yield (w.heap.size + 1)) #[] #[]])).run P w2 = .ok (.enter k (va.toArray ++ #[Value.func (.yield (w.heap.size + 1)) #[] #[]] ++ vc.toArray)) w2 := by
    have hbn : fk.body.isNone = false := by cases hq : fk.body <;> simp [hq] at hbk ⊢
    simp only [invoke, callFunc, Sem.run_bind, run_program, Result.andThen_ok, hfk, hnk, hbn, Bool.false_eq_true, if_false, Sem.run_pure]
  have hC : Calls P k (va.toArray ++ #[Value.func (.yield (w.heap.size + 1)) #[] #[]] ++ vc.toArray) w2 fun e w'' => ∃ v, e = .returned v ∧ ∃ γ' G', HeapOK h' γ' G' w'' ∧ Trans (keepOnly T (ins L (.loop ps.toList σ.n σ.sl as bd K .ready none D) (ins D (.dfr true) σ.ob))) γ2 G w2 h' γ' G' w'' ∧ RepV h' γ' G' w'' r v := by
    unfold CallsV at hcall
    have : (do let d ← Deferred.ofValue (a.eval g) [Value.func (.yield (w.heap.size + 1)) #[] #[]].toArray; invoke d.target d.args : Sem Next).run P w2 = .ok (.enter k (va.toArray ++ #[Value.func (.yield (w.heap.size + 1)) #[] #[]] ++ vc.toArray)) w2 := by
      rw [hvg]
      simp only [Deferred.ofValue, Sem.run_bind, Sem.run_pure, Result.andThen_ok]
      exact hinv
    rw [this] at hcall
    exact hcall
  refine ⟨w.heap.size + 1, [{ target := .collected w.heap.size, args := #[] }], w2, { target := .fn (.func k) vc.toArray, args := va.toArray ++ #[Value.func (.yield (w.heap.size + 1)) #[] #[]] }, w2, k, _, w2, ?_, ?_, fun _ _ => trivial, hinv, fun hd => by simp [FW, Fence.wide] at hd, ?_⟩
  · rw [← hw2]; exact run_enterLoop_outer _ _ _ _ _
  · have he : (a.eval g) = .func (.func k) va.toArray vc.toArray := hvg
    simp only [resolve, he, Deferred.ofValue, Sem.run_pure]
    simp [Act.eval]
  refine (callsIn_wide (n := nn - 1)).2 (hC.mono fun e w3 ⟨v, ev, γ', G', HC, TC, _⟩ => ?_)
  subst ev
  have hM := merge_ok hB.1 HC TC (fun n x hx => by
    have := all_dom hnew (n := n) (x := x) hx
    simp only [Bool.or_eq_true, Bool.not_eq_true'] at this
    exact this.imp id (not_has_dom _ n).1)
  revert hM
  generalize hγ3 : joinM h' γ' γ2 = γ3
  generalize hmob : merge T h' (ins L (.loop ps.toList σ.n σ.sl as bd K .ready none D) (ins D (.dfr true) σ.ob)) = mob at hcl2 hq ⊢
  intro hM
  have hmL : get mob L = some (.loop ps' n' sl' as' bd' fn' st pe d') := by rw [← hmob, get_merge, hgl]
  have hγ3L : γ3 L = γ2 L := by
    obtain ⟨o', q1, q2⟩ := hM.2.kept L (.loop ps.toList σ.n σ.sl as bd K .ready none D) (by rw [get_ins, if_pos rfl])
    rw [hmL] at q1; cases q1
    exact q2
  have o3 := hM.1.obj _ _ hmL
  have lt3 := o3.lt
  simp only [ObjOK] at o3
  obtain ⟨tmps3, fn3, m1, m2, m3, m4, m5⟩ := o3
  have hγ3L1 : (γ3 L).1 = w.heap.size + 1 := by rw [hγ3L, hγL]
  have hend := run_endLoop (P := P) m1 (by simpa using not_busy hst)
  have hTd := turn_ok hM.1 hmL (.loop ps' n' sl' as' bd' fn' .exhausted pe d') G' (w3.putObj (γ3 L).1 (.loop { state := .exhausted, pending := pe, fn := fn3, tmps := tmps3, params := ps'.toArray, assign := as', body := bd', defers := (γ3 d').1 }))
    (by simp [World.putObj]) (fun b hb => World.putObj_heap_other hb) (keeps_block m5 fun b' hb' => World.putObj_heap_other hb') (fun _ _ h h' => absurd h h') rfl
    (fun m hm => by
      obtain ⟨o, ho⟩ := hM.1.closed L _ hmL m (by simpa [AObj.names] using hm)
      by_cases e : L = m
      · exact ⟨_, by rw [get_ins, if_pos e]⟩
      · exact ⟨o, by rw [get_ins, if_neg e]; exact ho⟩) (fun T => by
      simp only [ObjOK]
      refine ⟨tmps3, fn3, World.putObj_heap_same lt3, m2, fun t x hx => ?_, dfr_kept T m4, m5⟩
      obtain ⟨v, r1, r2⟩ := m3 t x hx
      exact ⟨v, r1, RepV.step T _ _ r2⟩)
  have hall := (hAB.then hM.2).then hTd.2
  have hsub2 : ∀ l o, get (dropOb L mob) l = some o → get (ins L (.loop ps' n' sl' as' bd' fn' .exhausted pe d') mob) l = some o := fun l o hl => by
    rw [get_drop] at hl
    split at hl
    · simp at hl
    · rename_i e
      rw [get_ins, if_neg (fun q => e q.symm)]; exact hl
  obtain ⟨_, hco2⟩ := closedB_some hcl2
  have HF := hTd.1.sub hsub2 hco2
  have hthere : ∀ l o, get σ.ob l = some o → ∃ x, get (dropOb L mob) l = some x := fun l o hl => by
    obtain ⟨o', q1, _⟩ := hall.kept l o hl
    have hlL : l ≠ L := fun e => by rw [e, hL] at hl; cases hl
    rw [get_ins, if_neg (fun q => hlL q.symm)] at q1
    exact ⟨o', by rw [get_drop, if_neg hlL]; exact q1⟩
  have hDk : ∃ b, get (dropOb L mob) D = some (.dfr b) := by
    obtain ⟨b, hb⟩ := dfr_kept (hM.2.then hTd.2) (d := D) ⟨true, by rw [get_ins, if_neg hne, get_ins, if_pos rfl]⟩
    rw [get_ins, if_neg hne] at hb
    exact ⟨b, by rw [get_drop, if_neg (fun e => hne e.symm)]; exact hb⟩
  have hγ3D : (γ3 D).1 = w.heap.size := by
    rw [(dfr_home (hM.2.then hTd.2) (d := D) ⟨true, by rw [get_ins, if_neg hne, get_ins, if_pos rfl]⟩).1, hγD]
  have hfin : Fits h₀ γ₀ G₀ w₀ { σ with ob := dropOb L mob, keep := D :: σ.keep, dfs := D :: σ.dfs } { a with defers := [{ target := .collected w.heap.size, args := #[] }] ++ a.defers } (w3.putObj (γ3 L).1 (.loop { state := .exhausted, pending := pe, fn := fn3, tmps := tmps3, params := ps'.toArray, assign := as', body := bd', defers := (γ3 d').1 })) := by
    refine ⟨γ3, G', HF, fun t x hx => ?_, h.size, (h.tr.then hall).drop hsub2 fun l o hl => ?_, fun l o hl => List.mem_cons_of_mem _ (h.keep l o hl), ?_, fun d hd => ?_, fun d hd => ?_⟩
    · obtain ⟨v, q1, q2⟩ := h.slots t x hx
      refine ⟨v, q1, RepV_sub hsub2 (fun n hn => ?_) (RepV.step hall _ _ q2)⟩
      obtain ⟨o, ho⟩ := RepV_names q2 n hn
      exact hthere n o ho
    · obtain ⟨o', q1, _⟩ := h.tr.kept l o hl
      exact hthere l o' q1
    · simp only [List.map_cons, List.singleton_append, hγ3D]
      rw [h.defers]
      exact congrArg _ (dfr_map hall fun d hd => (h.dfr d hd).1)
    · rcases List.mem_cons.1 hd with rfl | hd
      · refine ⟨hDk, ?_⟩
        cases hq : get h₀ d with
        | none => rfl
        | some o =>
          have := h.keep d o hq
          rw [(has_iff _ _).2 this] at hkD; cases hkD
      · obtain ⟨⟨b, hb⟩, h2⟩ := h.dfr d hd
        refine ⟨?_, h2⟩
        obtain ⟨b', hb'⟩ := dfr_kept hall ⟨b, hb⟩
        have hlL : d ≠ L := fun e => by rw [e, hL] at hb; cases hb
        rw [get_ins, if_neg (fun q => hlL q.symm)] at hb'
        exact ⟨b', by rw [get_drop, if_neg hlL]; exact hb'⟩
    · rcases List.mem_cons.1 hd with rfl | hd
      · exact List.mem_cons_self
      · exact List.mem_cons_of_mem _ (h.dfk d hd)
  have hQ := hq _ _ hfin
  refine ⟨pe, _, by rw [← hγ3L1]; exact hend, ?_⟩
  cases pe with
  | none =>
    simp only [Option.some.injEq] at hee; subst hee
    exact hQ
  | some c =>
    simp only
    cases c <;> simp only [Option.some.injEq] at hee <;> try (simp at hee; done)
    · subst hee; exact wpIn_exit hQ
    · subst hee; exact wpIn_ret hQ
theorem range_ok : RangeOK P hn K := by
  intro O g ps as bd σ σ' e qs hs hp h₀ γ₀ G₀ w₀ a w Q hf hq nn
  obtain ⟨γ, G, h⟩ := hf
  unfold rangeA at hs
  split at hs
  case h_2 => simp at hs
  rename_i k first cap hrnd hg
  split at hs
  case h_2 => simp at hs
  rename_i r h' hL hD hAn
  split at hs
  case h_2 => simp at hs
  rename_i ps' n' sl' as' bd' fn' st pe d' hgl
  obtain ⟨hc, hs⟩ := need_some hs
  simp only [Bool.and_eq_true, Bool.not_eq_true'] at hc
  obtain ⟨⟨⟨⟨⟨⟨hcl, hcl2⟩, hnew⟩, hst⟩, hcb⟩, hkD⟩, hLD⟩ := hc
  split at hs
  case h_2 => simp at hs
  rename_i ee hee
  simp only [Option.some.injEq, Prod.mk.injEq] at hs
  obtain ⟨⟨rfl, rfl⟩, rfl⟩ := hs
  exact range_core h nn _ _ _ hg hL hD hgl hcl hcl2 hnew hst hcb hkD hLD hee hp hq
end g
end Go.Rx
namespace Go.Rx
def chk {α : Type} (p : Prop) [Decidable p] (x : Option α) : Option α := if p then x else none
theorem chk_some {α : Type} {p : Prop} [Decidable p] {x : Option α} {y : α} (h : chk p x = some y) : p ∧ x = some y := by
  unfold chk at h; split at h
  · exact ⟨by assumption, h⟩
  · simp at h
theorem chk_pos {α : Type} {p : Prop} [Decidable p] {x : Option α} (h : p) : chk p x = x := by simp [chk, h]
theorem cond_some {α : Type} {b : Bool} {x y : Option α} {z : α} (h : cond b x y = some z) : (b = true ∧ x = some z) ∨ (b = false ∧ y = some z) := by
  cases b
  · exact .inr ⟨rfl, h⟩
  · exact .inl ⟨rfl, h⟩
theorem bind_some {α β : Type} {x : Option α} {f : α → Option β} {z : β} (h : x.bind f = some z) : ∃ y, x = some y ∧ f y = some z := by
  cases x with
  | none => simp at h
  | some y => exact ⟨y, rfl, h⟩
def getI {α : Type} (xs : List α) (i : Int) : Option α := if 0 ≤ i then xs[i.toNat]? else none
def in64 (n : Int) : Prop := -9223372036854775808 ≤ n ∧ n ≤ 9223372036854775807
instance (n : Int) : Decidable (in64 n) := by unfold in64; infer_instance
theorem wrap64 {n : Int} (h : in64 n) : IntKind.i64.wrap n = n := IntWalk.i64_in n h
def encL {α : Type} (sz : Nat) (f : α → PV) (xs : List α) : PV := .l sz (xs.map f)
theorem All.nil : All [] := trivial
theorem All.cons {p : Prop} {ps : List Prop} (h : p) (hs : All ps) : All (p :: ps) := by
  cases ps with
  | nil => exact h
  | cons q qs => exact ⟨h, hs⟩
theorem getI_ok {α : Type} {xs : List α} {i : Int} {y : α} (h : getI xs i = some y) (sz : Nat) (f : α → PV) : 0 ≤ i ∧ (encL sz f xs).getI i.toNat = some (f y) := by
  unfold getI at h; split at h
  · refine ⟨by assumption, ?_⟩
    simp only [encL, PV.getI, List.getElem?_map, h, Option.map_some]
  · simp at h
theorem getI_bl {xs : List UInt8} {i : Int} {y : UInt8} (h : getI xs i = some y) : 0 ≤ i ∧ (PV.bl xs).getI i.toNat = some (u8 y) := by
  unfold getI at h; split at h
  · refine ⟨by assumption, ?_⟩
    simp only [PV.getI, h, Option.map_some]
  · simp at h
theorem nv_b {b c : Bool} (h : b = c) : AV.pv (.b b) = AV.pv (.b c) := by rw [h]
theorem nv_wrap {n : Int} (h : in64 n) : AV.pv (.i .i64 (IntKind.i64.wrap n)) = AV.pv (.i .i64 n) := by rw [wrap64 h]
theorem nv_len {α : Type} (f : α → PV) (xs : List α) : AV.pv (.i .i64 ((xs.map f).length : Nat)) = AV.pv (.i .i64 (xs.length : Nat)) := by rw [List.length_map]
theorem nv_sub {α : Type} (sz : Nat) (f : α → PV) (xs : List α) (l h : Nat) : AV.pv ((encL sz f xs).sub l h) = AV.pv (encL sz f ((xs.take h).drop l)) := by
  simp only [encL, PV.sub, List.map_drop, List.map_take]
theorem len_ok {α : Type} (sz : Nat) (f : α → PV) (xs : List α) : (encL sz f xs).len = xs.length := by simp only [encL, PV.len, List.length_map]
theorem ob_app {α : Type} (fz : Bool) (sz : Nat) (f : α → PV) (xs ys : List α) : AObj.vec fz sz (.l sz (xs.map f ++ ys.map f)) = AObj.vec fz sz (encL sz f (xs ++ ys)) := by
  simp only [encL, List.map_append]
theorem nv_app {α : Type} (l : Nat) (f : α → PV) (xs ys : List α) : AV.v l (xs.map f ++ ys.map f).length = AV.v l (xs ++ ys).length := by
  simp only [← List.map_append, List.length_map]
theorem ob_set {α : Type} (fz : Bool) (sz : Nat) (f : α → PV) (xs : List α) (k : Nat) (y : α) : AObj.vec fz sz (.l sz ((xs.map f).set k (f y))) = AObj.vec fz sz (encL sz f (xs.set k y)) := by
  simp only [encL, List.map_set]
theorem LoopP.next {f : Orc → St → CR} {O : Orc} {σ σ₁ σ' : St} {e : Ex} {ps : List Prop} (h : f O σ = some ((.normal, σ₁), ps)) (hp : All ps) (hl : LoopP f σ₁ e σ') : LoopP f σ e σ' := by
  obtain ⟨n, hn⟩ := hl
  exact ⟨n + 1, O, .normal, σ₁, ps, h, hp, hn⟩
theorem LoopP.exit {f : Orc → St → CR} {O : Orc} {σ σ' : St} {i : Nat} {ps : List Prop} (h : f O σ = some ((.exit i, σ'), ps)) (hp : All ps) : LoopP f σ (.exit i) σ' :=
  ⟨1, O, .exit i, σ', ps, h, hp, rfl, rfl⟩
theorem LoopP.ret {f : Orc → St → CR} {O : Orc} {σ σ' : St} {ps : List Prop} (h : f O σ = some ((.ret, σ'), ps)) (hp : All ps) : LoopP f σ .ret σ' :=
  ⟨1, O, .ret, σ', ps, h, hp, rfl, rfl⟩
def sub : List Nat → Code → Code
  | [], c => c
  | 0 :: r, .seq a _ => sub r a
  | _ :: r, .seq _ b => sub r b
  | 0 :: r, .cond _ a _ => sub r a
  | _ :: r, .cond _ _ b => sub r b
  | _ :: r, .block _ a => sub r a
  | _ :: r, .loop a => sub r a
  | _ :: r, .scope a => sub r a
  | 0 :: r, .rangeFunc _ _ a _ => sub r a
  | _ :: r, .rangeFunc _ _ _ b => sub r b
  | _ :: _, c => c
end Go.Rx
namespace Go.Rx
section g
variable {P : Program} {ob : Ob} {γ : Hm} {G : Gh} {w : World}
theorem Valid.frame (T : List Nat) {l : Nat} {f : AV} {args : List AV} {h h1 : Ob} {r : AV} (hv : Valid P l f args (keepOnly T h) (.ret r) h1)
    (hc : closedB (f.names ++ AV.namesL args) (keepOnly T h) = true) (hn : (dom h1).all (fun n => has T n || !has (dom h) n) = true) : Valid P l f args h (.ret r) (merge T h1 h) := by
  intro γ G w vf vas H hvf hva
  have hsub : ∀ l o, get (keepOnly T h) l = some o → get h l = some o := fun l o hl => (get_only hl).2
  obtain ⟨hcn, hco⟩ := closedB_some hc
  have H1 := H.sub hsub hco
  obtain ⟨r', he, hcall⟩ := hv γ G w vf vas H1 (RepV_sub hsub (fun n hn => hcn n (List.mem_append_left _ hn)) hvf) (RepL_sub hsub (fun n hn => hcn n (List.mem_append_right _ hn)) hva)
  cases he
  refine ⟨r, rfl, hcall.mono fun v w' ⟨γ', G', g1, g2, g3⟩ => ?_⟩
  have := merge_ok H g1 g2 (fun n x hx => by
    have := all_dom hn (n := n) (x := x) hx
    simp only [Bool.or_eq_true, Bool.not_eq_true'] at this
    exact this.imp id (not_has_dom _ n).1)
  exact ⟨_, G', this.1, this.2, merge_val g3⟩
theorem RepL_maybe {x : AV} (hx : x = .pv (.bl []) ∨ ∃ sz, x = .pv (.l sz [])) : ∀ (pre : List AV) (post : List AV) (vs : List Value), RepL ob γ G w (pre ++ x :: post) vs → RepL ob γ G w (pre ++ .es 0 :: post) vs ∨ RepL ob γ G w (pre ++ .es 1 :: post) vs
  | [], post, vs, h => by
    simp only [List.nil_append, RepL] at h ⊢
    obtain ⟨c, v, r, rfl, h1, h2, h3⟩ := h
    have key : ∃ a cap, c = [.slice a 0 cap] := by
      rcases hx with rfl | ⟨sz, rfl⟩
      · simp only [RepC, RepP] at h1; obtain ⟨a, cap, h, _⟩ := h1; exact ⟨a, cap, h⟩
      · simp only [RepC, RepP] at h1; obtain ⟨a, cap, h, _⟩ := h1; exact ⟨a, cap, h⟩
    have hag : x.isAgg = false := by rcases hx with rfl | ⟨sz, rfl⟩ <;> rfl
    obtain ⟨a, cap, rfl⟩ := key
    rw [hag] at h2
    cases a with
    | none => exact .inr ⟨_, v, r, rfl, by simp only [RepC]; exact ⟨_, _, rfl, rfl⟩, h2, h3⟩
    | some a => exact .inl ⟨_, v, r, rfl, by simp only [RepC]; exact ⟨_, _, rfl, rfl⟩, h2, h3⟩
  | y :: pre, post, vs, h => by
    simp only [List.cons_append, RepL] at h ⊢
    obtain ⟨c, v, r, rfl, h1, h2, h3⟩ := h
    rcases RepL_maybe hx pre post r h3 with h | h
    · exact .inl ⟨c, v, r, rfl, h1, h2, h⟩
    · exact .inr ⟨c, v, r, rfl, h1, h2, h⟩
theorem Valid.maybe {l : Nat} {f x : AV} {h h' : Ob} {o : Out} (hx : x = .pv (.bl []) ∨ ∃ sz, x = .pv (.l sz [])) (pre post : List AV) (h0 : Valid P l f (pre ++ .es 0 :: post) h o h') (h1 : Valid P l f (pre ++ .es 1 :: post) h o h') : Valid P l f (pre ++ x :: post) h o h' := by
  intro γ G w vf vas H hvf hva
  rcases RepL_maybe hx pre post vas hva with h | h
  · exact h0 γ G w vf vas H hvf h
  · exact h1 γ G w vf vas H hvf h
end g
def vb (b : Bool) : AV := .pv (.b b)
def vi (n : Int) : AV := .pv (.i .i64 n)
def vs (x : List UInt8) : AV := .pv (.s x)
def S5 (lvl n : Nat) (keep : List Nat) (sl : Sl) (ob : Ob) : St := ⟨lvl, n, keep, sl, ob, false, []⟩
def S7 (lvl n : Nat) (keep : List Nat) (sl : Sl) (ob : Ob) (rnd : Bool) (dfs : List Nat) : St := ⟨lvl, n, keep, sl, ob, rnd, dfs⟩
def EB (b c : Bool) : Prop := AV.pv (.b b) = AV.pv (.b c)
def EW (n : Int) : Prop := AV.pv (.i .i64 (IntKind.i64.wrap n)) = AV.pv (.i .i64 n)
def EG (x : PV) (i : Int) (y : PV) : Prop := 0 ≤ i ∧ x.getI i.toNat = some y
abbrev Vd (P : Program) (l : Nat) (f : AV) (args : List AV) (h : Ob) (r : AV) (h' : Ob) : Prop := Valid P l f args h (.ret r) h'
theorem Vd.frame (T : List Nat) {P : Program} {l : Nat} {f : AV} {args : List AV} {h h0 h1 h2 : Ob} {r : AV} (hv : Vd P l f args h0 r h1) (e0 : keepOnly T h = h0)
    (hc : closedB (f.names ++ AV.namesL args) h0 = true) (hn : (dom h1).all (fun n => has T n || !has (dom h) n) = true) (e1 : merge T h1 h = h2) : Vd P l f args h r h2 := by
  subst e0; subst e1
  exact Valid.frame T hv hc hn
theorem Ac {p : Prop} {ps : List Prop} (h : p) (hs : All ps) : All (p :: ps) := All.cons h hs
theorem An : All [] := trivial
def Step (f : Orc → St → CR) (σ : St) (e : Ex) (σ' : St) : Prop := ∃ O ps, f O σ = some ((e, σ'), ps) ∧ All ps
theorem Step.next {f : Orc → St → CR} {σ σ₁ σ' : St} {e : Ex} (h : Step f σ .normal σ₁) (hl : LoopP f σ₁ e σ') : LoopP f σ e σ' := by
  obtain ⟨O, ps, h, hp⟩ := h
  exact LoopP.next h hp hl
theorem Step.exit {f : Orc → St → CR} {σ σ' : St} {i : Nat} (h : Step f σ (.exit i) σ') : LoopP f σ (.exit i) σ' := by
  obtain ⟨O, ps, h, hp⟩ := h
  exact LoopP.exit h hp
theorem Step.ret {f : Orc → St → CR} {σ σ' : St} (h : Step f σ .ret σ') : LoopP f σ .ret σ' := by
  obtain ⟨O, ps, h, hp⟩ := h
  exact LoopP.ret h hp
def capOK (n b : Nat) : Prop := n * b ≤ 140737488355328
instance (n b : Nat) : Decidable (capOK n b) := by unfold capOK; infer_instance
def lenOK (n : Nat) : Prop := n ≤ 140737488355328
instance (n : Nat) : Decidable (lenOK n) := by unfold lenOK; infer_instance
def strOK (n : Nat) : Prop := n ≤ 9223372036854775807
instance (n : Nat) : Decidable (strOK n) := by unfold strOK; infer_instance
def optcase {α β : Type} (x : Option α) (a : Option β) (f : α → Option β) : Option β := match x with
  | none => a
  | some y => f y
theorem optcase_some {α β : Type} {x : Option α} {a : Option β} {f : α → Option β} {z : β} (h : optcase x a f = some z) : (x = none ∧ a = some z) ∨ ∃ y, x = some y ∧ f y = some z := by
  cases x with
  | none => exact .inl ⟨rfl, h⟩
  | some y => exact .inr ⟨y, rfl, h⟩
theorem getI_okN {α : Type} {xs : List α} {i : Int} {y : α} (h : getI xs i = some y) (sz : Nat) (f : α → PV) : 0 ≤ (((i.toNat : Nat) : Int) : Int) ∧ (encL sz f xs).getI ((((i.toNat : Nat) : Int) : Int)).toNat = some (f y) := by
  have := getI_ok h sz f
  exact ⟨Int.natCast_nonneg _, by rw [Int.toNat_natCast]; exact this.2⟩
theorem getI_blN {xs : List UInt8} {i : Int} {y : UInt8} (h : getI xs i = some y) : 0 ≤ (((i.toNat : Nat) : Int) : Int) ∧ (PV.bl xs).getI ((((i.toNat : Nat) : Int) : Int)).toNat = some (u8 y) := by
  have := getI_bl h
  exact ⟨Int.natCast_nonneg _, by rw [Int.toNat_natCast]; exact this.2⟩
theorem map_ne {α β : Type} {f : α → β} {xs : List α} (h : xs ≠ []) : xs.map f ≠ [] := by simpa using h
theorem idx_below {i : Int} {n : Nat} (h : 0 ≤ i ∧ i < (n : Int)) : i.toNat < n := by omega
theorem bounds_ok {α : Type} {sz : Nat} {f : α → PV} {xs : List α} {l h : Int} (hh : 0 ≤ l ∧ l ≤ h ∧ h ≤ ((xs.length : Nat) : Int)) : 0 ≤ l ∧ l ≤ h ∧ h ≤ (((encL sz f xs).len : Nat) : Int) := by rw [len_ok]; exact hh
theorem bounds_ok2 {α : Type} {sz : Nat} {f : α → PV} {xs : List α} {l : Int} (hh : 0 ≤ l ∧ l ≤ ((xs.length : Nat) : Int) ∧ ((xs.length : Nat) : Int) ≤ ((xs.length : Nat) : Int)) :
    0 ≤ l ∧ l ≤ (((encL sz f xs).len : Nat) : Int) ∧ (((encL sz f xs).len : Nat) : Int) ≤ (((encL sz f xs).len : Nat) : Int) := by rw [len_ok]; exact hh
theorem slice3_ok {α : Type} {sz : Nat} {f : α → PV} {xs : List α} {l h m : Int} (hb : 0 ≤ l ∧ l ≤ h ∧ h ≤ ((xs.length : Nat) : Int)) (hm : h ≤ m ∧ m ≤ ((xs.length : Nat) : Int)) : ((h.toNat : Nat) : Int) ≤ m ∧ m ≤ (((encL sz f xs).len : Nat) : Int) := by
  rw [len_ok]; omega
theorem slice3_bl {xs : List UInt8} {l h m : Int} (hb : 0 ≤ l ∧ l ≤ h ∧ h ≤ ((xs.length : Nat) : Int)) (hm : h ≤ m ∧ m ≤ ((xs.length : Nat) : Int)) : ((h.toNat : Nat) : Int) ≤ m ∧ m ≤ (((PV.bl xs).len : Nat) : Int) := by
  simp only [PV.len]; omega
theorem nv_sub2 {α : Type} (sz : Nat) (f : α → PV) (xs : List α) (l : Nat) : AV.pv ((encL sz f xs).sub l (((encL sz f xs).len : Nat) : Int).toNat) = AV.pv (encL sz f (xs.drop l)) := by
  rw [nv_sub, len_ok, Int.toNat_natCast, List.take_length]
theorem len_le {α : Type} {sz b : Nat} {f : α → PV} {xs : List α} (h : xs.length * b ≤ 140737488355328) : (encL sz f xs).len * b ≤ 140737488355328 := by rw [len_ok]; exact h
theorem len_le2 {α : Type} {sz b : Nat} {f : α → PV} {xs ys : List α} (h : (xs ++ ys).length * b ≤ 140737488355328) : (PV.l sz (xs.map f ++ ys.map f)).len * b ≤ 140737488355328 := by
  simp only [PV.len, ← List.map_append, List.length_map]; exact h
theorem len_ne {α : Type} {sz : Nat} {f : α → PV} {xs : List α} (h : xs.isEmpty = false) : (encL sz f xs).len ≠ 0 := by
  rw [len_ok]; cases xs <;> simp at h ⊢
theorem len_ne_bl {xs : List UInt8} (h : xs.isEmpty = false) : (PV.bl xs).len ≠ 0 := by
  cases xs <;> simp [PV.len] at h ⊢
theorem len_e {α : Type} {sz : Nat} {f : α → PV} {xs : List α} (h : xs.isEmpty = true) : (encL sz f xs).len = 0 := by
  rw [len_ok]; cases xs <;> simp at h ⊢
theorem len_e_bl {xs : List UInt8} (h : xs.isEmpty = true) : (PV.bl xs).len = 0 := by
  cases xs <;> simp [PV.len] at h ⊢
theorem nv_len1 {α : Type} (l : Nat) (f : α → PV) (xs : List α) : AV.v l (xs.map f).length = AV.v l xs.length := by rw [List.length_map]
theorem ob_rep {α : Type} (sz : Nat) (f : α → PV) (k : Nat) (z : α) : AObj.vec false sz (.l sz (List.replicate k (f z))) = AObj.vec false sz (encL sz f (List.replicate k z)) := by
  simp only [encL, List.map_replicate]
def encM {κ ν : Type} (fk : κ → PV) (fv : ν → AV) (es : List (κ × ν × Nat)) : Ents := es.map fun e => (fk e.1, fv e.2.1, e.2.2)
section maps
variable {κ ν : Type} [DecidableEq κ] {fk : κ → PV} {fv : ν → AV}
def findM (k : κ) : List (κ × ν × Nat) → Option (ν × Nat)
  | [] => none
  | e :: r => if k = e.1 then some e.2 else findM k r
def putM (k : κ) (x : ν) (c : Nat) : List (κ × ν × Nat) → Nat × List (κ × ν × Nat)
  | [] => (c + 1, [(k, x, c)])
  | e :: r => if k = e.1 then (c, (k, x, e.2.2) :: r) else ((putM k x c r).1, e :: (putM k x c r).2)
def delM (k : κ) : List (κ × ν × Nat) → List (κ × ν × Nat)
  | [] => []
  | e :: r => if k = e.1 then r else e :: delM k r
def atM (born : Int) (x : ν) : List (κ × ν × Nat) → Option (List (κ × ν × Nat))
  | [] => none
  | e :: r => if (e.2.2 : Int) = born then some ((e.1, x, e.2.2) :: r) else (atM born x r).map (e :: ·)
def KeyOK (fk : κ → PV) : Prop := ∀ a b, keyEq (fk a) (fk b) = some (decide (a = b))
theorem findM_ok (hk : KeyOK fk) (k : κ) : ∀ es : List (κ × ν × Nat), mapFind (fk k) (encM fk fv es) = some ((findM k es).map fun e => (fv e.1, e.2))
  | [] => rfl
  | e :: r => by
    have ih := findM_ok hk k r
    simp only [encM] at ih
    simp only [encM, List.map_cons, mapFind, hk k e.1, findM]
    by_cases h : k = e.1
    · simp [h]
    · simp only [h, decide_false, if_false]; exact ih
theorem findM_none (hk : KeyOK fk) {k : κ} {es : List (κ × ν × Nat)} (h : findM k es = none) : mapFind (fk k) (encM fk fv es) = some none := by rw [findM_ok hk, h]; rfl
theorem findM_some (hk : KeyOK fk) {k : κ} {es : List (κ × ν × Nat)} {e : ν × Nat} (h : findM k es = some e) : mapFind (fk k) (encM fk fv es) = some (some (fv e.1, e.2)) := by rw [findM_ok hk, h]; rfl
theorem putM_ok (hk : KeyOK fk) (k : κ) (x : ν) (c : Nat) : ∀ es : List (κ × ν × Nat), mapPut (fk k) (fv x) c (encM fk fv es) = some ((putM k x c es).1, encM fk fv (putM k x c es).2)
  | [] => rfl
  | e :: r => by
    have ih := putM_ok hk k x c r
    simp only [encM] at ih
    simp only [encM, List.map_cons, mapPut, hk k e.1, putM]
    by_cases h : k = e.1
    · simp [h]
    · simp only [h, decide_false, if_false, ih]; rfl
theorem delM_ok (hk : KeyOK fk) (k : κ) : ∀ es : List (κ × ν × Nat), mapDel (fk k) (encM fk fv es) = some (encM fk fv (delM k es))
  | [] => rfl
  | e :: r => by
    have ih := delM_ok hk k r
    simp only [encM] at ih
    simp only [encM, List.map_cons, mapDel, hk k e.1, delM]
    by_cases h : k = e.1
    · simp [h]
    · simp only [h, decide_false, if_false, ih]; rfl
omit [DecidableEq κ] in
theorem atM_ok {born : Int} {x : ν} : ∀ {es es' : List (κ × ν × Nat)}, atM born x es = some es' → mapAt born (fv x) (encM fk fv es) = some (encM fk fv es')
  | [], _, h => by simp [atM] at h
  | e :: r, es', h => by
    simp only [atM] at h
    simp only [encM, List.map_cons, mapAt]
    by_cases hb : (e.2.2 : Int) = born
    · simp only [hb, if_true, Option.some.injEq] at h
      subst h
      simp only [hb, decide_true, List.map_cons]
    · simp only [hb, if_false] at h
      simp only [hb, decide_false]
      cases hr : atM born x r with
      | none => simp [hr] at h
      | some t =>
        simp only [hr, Option.map_some, Option.some.injEq] at h
        subst h
        have := atM_ok hr
        simp only [encM] at this
        simp only [this, List.map_cons]
omit [DecidableEq κ] in
theorem nv_lenM (fk : κ → PV) (fv : ν → AV) (es : List (κ × ν × Nat)) : AV.pv (.i .i64 ((encM fk fv es).length : Nat)) = AV.pv (.i .i64 (es.length : Nat)) := by simp only [encM, List.length_map]
end maps
theorem key_i64 : KeyOK (PV.i .i64) := fun _ _ => rfl
theorem key_u8 : KeyOK (PV.i .u8) := fun _ _ => rfl
theorem key_s : KeyOK PV.s := fun _ _ => rfl
theorem key_ba (n : Nat) : KeyOK (PV.ba n) := fun a b => by
  simp only [keyEq, PV.alike, Nat.beq_refl, PV.eqb]
  congr 1
  exact decide_eq_decide.2 Vector.toList_inj
end Go.Rx
namespace Go.Rx
structure T_api_Stamp where
  N : Int
  Rep : Int
  deriving DecidableEq, Inhabited
def T_api_Stamp.enc (x : T_api_Stamp) : PV := .ag [.i .i64 x.N, .i .i64 x.Rep]
structure T_api_Piece where
  Copy : Bool
  From : Int
  Len : Int
  Lit : List UInt8
  deriving DecidableEq, Inhabited
def T_api_Piece.enc (x : T_api_Piece) : PV := .ag [.b x.Copy, .i .i64 x.From, .i .i64 x.Len, .s x.Lit]
structure T_api_Op where
  Kind : Int
  ID : Vector UInt8 16
  S : T_api_Stamp
  No : Int
  V : List UInt8
  P : List T_api_Piece
  From : Vector UInt8 16
  FromNo : Int
  D : Vector UInt8 32
  deriving DecidableEq, Inhabited
def T_api_Op.enc (x : T_api_Op) : PV := .ag [.i .i64 x.Kind, PV.ba 16 x.ID, T_api_Stamp.enc x.S, .i .i64 x.No, .s x.V, encL 4 T_api_Piece.enc x.P, PV.ba 16 x.From, .i .i64 x.FromNo, PV.ba 32 x.D]
structure T_order_place where
  id : Vector UInt8 16
  no : Int
  deriving DecidableEq, Inhabited
def T_order_place.enc (x : T_order_place) : PV := .ag [PV.ba 16 x.id, .i .i64 x.no]
def p0 (x : List T_api_Op) : PV := encL 71 T_api_Op.enc x
def v0 (x : List T_api_Op) : AV := .pv (p0 x)
def w0 (x : List T_api_Op) : AObj := .vec false 71 (p0 x)
def p1 (x : T_api_Op) : PV := T_api_Op.enc x
def v1 (x : T_api_Op) : AV := .pv (p1 x)
def p2 (x : T_order_place) : PV := T_order_place.enc x
def v2 (x : T_order_place) : AV := .pv (p2 x)
def p3 (x : List T_api_Piece) : PV := encL 4 T_api_Piece.enc x
def v3 (x : List T_api_Piece) : AV := .pv (p3 x)
def w3 (x : List T_api_Piece) : AObj := .vec false 4 (p3 x)
def p4 (x : List (List T_api_Op)) : PV := encL 1 (encL 71 T_api_Op.enc) x
def v4 (x : List (List T_api_Op)) : AV := .pv (p4 x)
def w4 (x : List (List T_api_Op)) : AObj := .vec false 1 (p4 x)
def p5 (x : T_api_Piece) : PV := T_api_Piece.enc x
def v5 (x : T_api_Piece) : AV := .pv (p5 x)
def m0 (c : Nat) (x : List (Int × Bool × Nat)) : AObj := .map c (encM (PV.i .i64) (fun x => AV.pv (.b x)) x)
end Go.Rx
