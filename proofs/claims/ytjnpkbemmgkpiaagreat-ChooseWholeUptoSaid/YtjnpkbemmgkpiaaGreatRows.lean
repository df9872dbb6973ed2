/-
  No cell of these rows narrows 'for every input' (looked for: loops, veiled, ifaces, maps, wideKeys, modest, calm, conditions, laid).
  DERIVED. THE GIVEN ROWS OF THIS SEAT. 7 by the template 'for every input the law returns true; each argument reads behind the call as it read before'; 0 by the template 'total and deterministic' (their statements: YtjnpkbemmgkpiaaGreatTotals.lean).
  GIVEN WITH THE SEED: the statements are not yours to turn. If you find one false, say at which input.
  Laid BY PROGRAM, IN A SANDBOX (cutbox-rows.mjs): the forced cells as the released guide's own fill.sh prints them over the translation 41382c3a21487769… (all of the seat's roots in one cut). By AI agents, Wed Nov 11 2026. No macro, syntax, notation, axiom, sorry.
-/
import Derived.Test.YtjnpkbemmgkpiaaGreatChecked
import GoSem.Claim
import GoSem.ClaimJoined
import GoSem.ClaimMapViews
import Derived.JoinedTies
import Derived.KernelRfl
namespace Go.Proofs.YtjnpkbemmgkpiaaGreat
/- THE CELL 'sum', in the pinned program and in every row, IS THE sha256 OF THE DUMP (.gsa) THAT YtjnpkbemmgkpiaaGreatProg.lean LOADS. Nothing in Lean hashes anything: it is a label: what it is worth is what the hold of that sum in a sandbox is worth. -/
noncomputable def Tryz.pinned : Pinned := { name := "ytjnpkbemmgkpiaagreat", sum := "41382c3a21487769a07b29b6f1eef43afd329b667ef4f1c3a947f99a5a380324", checked := Tryz.checked }
namespace Rows
def none {H : Type} : Left H := { results := [], args := [] }

/-- 'rolodexlaw16.ChooseTells': WHATEVER THE INPUT: true; the input reads as it did. -/
def chooseTellsSpec : ChangeSpec := { name := "chooseTells", fn := fun _ => fun
  | [d1, d2, d3, d4] => { results := [.lit (.bool true)], args := [d1, d2, d3, d4] }
  | _ => none }
def chooseTellsRow : OpenClaim := { program := "ytjnpkbemmgkpiaagreat", sum := "41382c3a21487769a07b29b6f1eef43afd329b667ef4f1c3a947f99a5a380324", func := "rolodex/rolodexlaw16.ChooseTells", spec := "chooseTells", inPlace := ["internal/bytealg.Compare"], unfollowed := true, recurses := true, plainKeys := false, apart := false }
def ChooseTellsSaid : Prop := chooseTellsRow.holds Tryz.pinned (OpenSpec.ofChange chooseTellsSpec)

/-- ITS FALSE NEIGHBOUR: 'it returns false'. Refute it at one input. -/
def chooseTellsWrong : ChangeSpec := { name := "chooseTells", fn := fun _ => fun
  | [d1, d2, d3, d4] => { results := [.lit (.bool false)], args := [d1, d2, d3, d4] }
  | _ => none }
def ChooseTellsWrongFalsely : Prop := chooseTellsRow.holds Tryz.pinned (OpenSpec.ofChange chooseTellsWrong)

/-- 'rolodexlaw16.ChooseSame': WHATEVER THE INPUT: true; the input reads as it did. -/
def chooseSameSpec : ChangeSpec := { name := "chooseSame", fn := fun _ => fun
  | [d1, d2] => { results := [.lit (.bool true)], args := [d1, d2] }
  | _ => none }
def chooseSameRow : OpenClaim := { program := "ytjnpkbemmgkpiaagreat", sum := "41382c3a21487769a07b29b6f1eef43afd329b667ef4f1c3a947f99a5a380324", func := "rolodex/rolodexlaw16.ChooseSame", spec := "chooseSame", inPlace := ["internal/bytealg.Compare"], unfollowed := true, recurses := true, plainKeys := false, apart := false }
def ChooseSameSaid : Prop := chooseSameRow.holds Tryz.pinned (OpenSpec.ofChange chooseSameSpec)

/-- ITS FALSE NEIGHBOUR: 'it returns false'. Refute it at one input. -/
def chooseSameWrong : ChangeSpec := { name := "chooseSame", fn := fun _ => fun
  | [d1, d2] => { results := [.lit (.bool false)], args := [d1, d2] }
  | _ => none }
def ChooseSameWrongFalsely : Prop := chooseSameRow.holds Tryz.pinned (OpenSpec.ofChange chooseSameWrong)

/-- 'rolodexlaw16.ChooseBest': WHATEVER THE INPUT: true; the input reads as it did. -/
def chooseBestSpec : ChangeSpec := { name := "chooseBest", fn := fun _ => fun
  | [d1, d2, d3] => { results := [.lit (.bool true)], args := [d1, d2, d3] }
  | _ => none }
def chooseBestRow : OpenClaim := { program := "ytjnpkbemmgkpiaagreat", sum := "41382c3a21487769a07b29b6f1eef43afd329b667ef4f1c3a947f99a5a380324", func := "rolodex/rolodexlaw16.ChooseBest", spec := "chooseBest", inPlace := ["internal/bytealg.Compare"], unfollowed := true, recurses := true, plainKeys := false, apart := false }
def ChooseBestSaid : Prop := chooseBestRow.holds Tryz.pinned (OpenSpec.ofChange chooseBestSpec)

/-- ITS FALSE NEIGHBOUR: 'it returns false'. Refute it at one input. -/
def chooseBestWrong : ChangeSpec := { name := "chooseBest", fn := fun _ => fun
  | [d1, d2, d3] => { results := [.lit (.bool false)], args := [d1, d2, d3] }
  | _ => none }
def ChooseBestWrongFalsely : Prop := chooseBestRow.holds Tryz.pinned (OpenSpec.ofChange chooseBestWrong)

/-- 'rolodexlaw16.ChooseShort': WHATEVER THE INPUT: true; the input reads as it did. -/
def chooseShortSpec : ChangeSpec := { name := "chooseShort", fn := fun _ => fun
  | [d1, d2] => { results := [.lit (.bool true)], args := [d1, d2] }
  | _ => none }
def chooseShortRow : OpenClaim := { program := "ytjnpkbemmgkpiaagreat", sum := "41382c3a21487769a07b29b6f1eef43afd329b667ef4f1c3a947f99a5a380324", func := "rolodex/rolodexlaw16.ChooseShort", spec := "chooseShort", inPlace := ["internal/bytealg.Compare"], unfollowed := true, recurses := true, plainKeys := false, apart := false }
def ChooseShortSaid : Prop := chooseShortRow.holds Tryz.pinned (OpenSpec.ofChange chooseShortSpec)

/-- ITS FALSE NEIGHBOUR: 'it returns false'. Refute it at one input. -/
def chooseShortWrong : ChangeSpec := { name := "chooseShort", fn := fun _ => fun
  | [d1, d2] => { results := [.lit (.bool false)], args := [d1, d2] }
  | _ => none }
def ChooseShortWrongFalsely : Prop := chooseShortRow.holds Tryz.pinned (OpenSpec.ofChange chooseShortWrong)

/-- 'rolodexlaw16.ChooseWhole': WHATEVER THE INPUT: true; the input reads as it did. -/
def chooseWholeSpec : ChangeSpec := { name := "chooseWhole", fn := fun _ => fun
  | [d1, d2] => { results := [.lit (.bool true)], args := [d1, d2] }
  | _ => none }
def chooseWholeRow : OpenClaim := { program := "ytjnpkbemmgkpiaagreat", sum := "41382c3a21487769a07b29b6f1eef43afd329b667ef4f1c3a947f99a5a380324", func := "rolodex/rolodexlaw16.ChooseWhole", spec := "chooseWhole", inPlace := ["internal/bytealg.Compare", "internal/abi.NoEscape"], unfollowed := true, recurses := true, plainKeys := false, apart := false }
def ChooseWholeSaid : Prop := chooseWholeRow.holds Tryz.pinned (OpenSpec.ofChange chooseWholeSpec)

/-- ITS FALSE NEIGHBOUR: 'it returns false'. Refute it at one input. -/
def chooseWholeWrong : ChangeSpec := { name := "chooseWhole", fn := fun _ => fun
  | [d1, d2] => { results := [.lit (.bool false)], args := [d1, d2] }
  | _ => none }
def ChooseWholeWrongFalsely : Prop := chooseWholeRow.holds Tryz.pinned (OpenSpec.ofChange chooseWholeWrong)

/-- 'rolodexlaw16.ChooseEach': WHATEVER THE INPUT: true; the input reads as it did. -/
def chooseEachSpec : ChangeSpec := { name := "chooseEach", fn := fun _ => fun
  | [d1, d2, d3] => { results := [.lit (.bool true)], args := [d1, d2, d3] }
  | _ => none }
def chooseEachRow : OpenClaim := { program := "ytjnpkbemmgkpiaagreat", sum := "41382c3a21487769a07b29b6f1eef43afd329b667ef4f1c3a947f99a5a380324", func := "rolodex/rolodexlaw16.ChooseEach", spec := "chooseEach", inPlace := ["internal/bytealg.Compare", "internal/abi.NoEscape"], unfollowed := true, recurses := true, plainKeys := false, apart := false }
def ChooseEachSaid : Prop := chooseEachRow.holds Tryz.pinned (OpenSpec.ofChange chooseEachSpec)

/-- ITS FALSE NEIGHBOUR: 'it returns false'. Refute it at one input. -/
def chooseEachWrong : ChangeSpec := { name := "chooseEach", fn := fun _ => fun
  | [d1, d2, d3] => { results := [.lit (.bool false)], args := [d1, d2, d3] }
  | _ => none }
def ChooseEachWrongFalsely : Prop := chooseEachRow.holds Tryz.pinned (OpenSpec.ofChange chooseEachWrong)

/-- 'rolodexlaw17.OrderWorks': WHATEVER THE INPUT: true; the input reads as it did. -/
def orderWorksSpec : ChangeSpec := { name := "orderWorks", fn := fun _ => fun
  | [d1, d2] => { results := [.lit (.bool true)], args := [d1, d2] }
  | _ => none }
def orderWorksRow : OpenClaim := { program := "ytjnpkbemmgkpiaagreat", sum := "41382c3a21487769a07b29b6f1eef43afd329b667ef4f1c3a947f99a5a380324", func := "rolodex/rolodexlaw17.OrderWorks", spec := "orderWorks", inPlace := ["internal/bytealg.Compare", "internal/abi.NoEscape"], unfollowed := true, recurses := true, plainKeys := false, apart := false }
def OrderWorksSaid : Prop := orderWorksRow.holds Tryz.pinned (OpenSpec.ofChange orderWorksSpec)

/-- ITS FALSE NEIGHBOUR: 'it returns false'. Refute it at one input. -/
def orderWorksWrong : ChangeSpec := { name := "orderWorks", fn := fun _ => fun
  | [d1, d2] => { results := [.lit (.bool false)], args := [d1, d2] }
  | _ => none }
def OrderWorksWrongFalsely : Prop := orderWorksRow.holds Tryz.pinned (OpenSpec.ofChange orderWorksWrong)

/- THE SECOND FORM. 'bulk': how many values and letters a reading holds, each counted each time it is reached (what is shared counts as often as it is met; a slice's spare places count too). A statement '..UptoSaid' is the law's where the arguments, and the package variables that the reading takes, are together of bulk at most 1048576: NARROWER than '..Said'. Prove '..Said' where nothing that the law and all that it calls make is longer than what came in: it says more and counts as full. Else prove '..UptoSaid'. A law counts once. -/
mutual
def uptoBulk {H : Type} : DataW H → Nat
  | .lit (.string bytes) => bytes.length + 1
  | .lit _ => 1
  | .nil => 1
  | .ptr d => uptoBulk d + 1
  | .slice elems spare => uptoBulkAll elems + uptoBulkAll spare + 1
  | .agg parts => uptoBulkAll parts + 1
  | .iface _ d => uptoBulk d + 1
  | .map entries => uptoBulkEntries entries + 1
  | .held _ => 1
def uptoBulkAll {H : Type} : List (DataW H) → Nat
  | [] => 0
  | d :: r => uptoBulk d + uptoBulkAll r
def uptoBulkEntries {H : Type} : List (Lit × DataW H) → Nat
  | [] => 0
  | x :: r => uptoBulkEntry x + uptoBulkEntries r
def uptoBulkEntry {H : Type} : Lit × DataW H → Nat
  | (.string bytes, d) => bytes.length + uptoBulk d + 1
  | (_, d) => uptoBulk d + 1
 end
def uptoSmall : (H : Type) → List (DataW H) → Bool := fun _ ds => decide (uptoBulkAll ds ≤ 1048576)
def OpenSpec.upto (s : _root_.Go.ChangeSpec) : _root_.Go.OpenSpec := { _root_.Go.OpenSpec.ofChange s with cond := some uptoSmall }

/-- 'rolodexlaw16.ChooseTells', WHERE WHAT IT READS IS OF BULK AT MOST 1048576: true; the input reads as it did. -/
def chooseTellsUptoRow : OpenClaim := { program := "ytjnpkbemmgkpiaagreat", sum := "41382c3a21487769a07b29b6f1eef43afd329b667ef4f1c3a947f99a5a380324", func := "rolodex/rolodexlaw16.ChooseTells", spec := "chooseTells", inPlace := ["internal/bytealg.Compare"], unfollowed := true, recurses := true, plainKeys := false, apart := false, narrowed := true }
def ChooseTellsUptoSaid : Prop := chooseTellsUptoRow.holds Tryz.pinned (OpenSpec.upto chooseTellsSpec)

/-- 'rolodexlaw16.ChooseSame', WHERE WHAT IT READS IS OF BULK AT MOST 1048576: true; the input reads as it did. -/
def chooseSameUptoRow : OpenClaim := { program := "ytjnpkbemmgkpiaagreat", sum := "41382c3a21487769a07b29b6f1eef43afd329b667ef4f1c3a947f99a5a380324", func := "rolodex/rolodexlaw16.ChooseSame", spec := "chooseSame", inPlace := ["internal/bytealg.Compare"], unfollowed := true, recurses := true, plainKeys := false, apart := false, narrowed := true }
def ChooseSameUptoSaid : Prop := chooseSameUptoRow.holds Tryz.pinned (OpenSpec.upto chooseSameSpec)

/-- 'rolodexlaw16.ChooseBest', WHERE WHAT IT READS IS OF BULK AT MOST 1048576: true; the input reads as it did. -/
def chooseBestUptoRow : OpenClaim := { program := "ytjnpkbemmgkpiaagreat", sum := "41382c3a21487769a07b29b6f1eef43afd329b667ef4f1c3a947f99a5a380324", func := "rolodex/rolodexlaw16.ChooseBest", spec := "chooseBest", inPlace := ["internal/bytealg.Compare"], unfollowed := true, recurses := true, plainKeys := false, apart := false, narrowed := true }
def ChooseBestUptoSaid : Prop := chooseBestUptoRow.holds Tryz.pinned (OpenSpec.upto chooseBestSpec)

/-- 'rolodexlaw16.ChooseShort', WHERE WHAT IT READS IS OF BULK AT MOST 1048576: true; the input reads as it did. -/
def chooseShortUptoRow : OpenClaim := { program := "ytjnpkbemmgkpiaagreat", sum := "41382c3a21487769a07b29b6f1eef43afd329b667ef4f1c3a947f99a5a380324", func := "rolodex/rolodexlaw16.ChooseShort", spec := "chooseShort", inPlace := ["internal/bytealg.Compare"], unfollowed := true, recurses := true, plainKeys := false, apart := false, narrowed := true }
def ChooseShortUptoSaid : Prop := chooseShortUptoRow.holds Tryz.pinned (OpenSpec.upto chooseShortSpec)

/-- 'rolodexlaw16.ChooseWhole', WHERE WHAT IT READS IS OF BULK AT MOST 1048576: true; the input reads as it did. -/
def chooseWholeUptoRow : OpenClaim := { program := "ytjnpkbemmgkpiaagreat", sum := "41382c3a21487769a07b29b6f1eef43afd329b667ef4f1c3a947f99a5a380324", func := "rolodex/rolodexlaw16.ChooseWhole", spec := "chooseWhole", inPlace := ["internal/bytealg.Compare", "internal/abi.NoEscape"], unfollowed := true, recurses := true, plainKeys := false, apart := false, narrowed := true }
def ChooseWholeUptoSaid : Prop := chooseWholeUptoRow.holds Tryz.pinned (OpenSpec.upto chooseWholeSpec)

/-- 'rolodexlaw16.ChooseEach', WHERE WHAT IT READS IS OF BULK AT MOST 1048576: true; the input reads as it did. -/
def chooseEachUptoRow : OpenClaim := { program := "ytjnpkbemmgkpiaagreat", sum := "41382c3a21487769a07b29b6f1eef43afd329b667ef4f1c3a947f99a5a380324", func := "rolodex/rolodexlaw16.ChooseEach", spec := "chooseEach", inPlace := ["internal/bytealg.Compare", "internal/abi.NoEscape"], unfollowed := true, recurses := true, plainKeys := false, apart := false, narrowed := true }
def ChooseEachUptoSaid : Prop := chooseEachUptoRow.holds Tryz.pinned (OpenSpec.upto chooseEachSpec)

/-- 'rolodexlaw17.OrderWorks', WHERE WHAT IT READS IS OF BULK AT MOST 1048576: true; the input reads as it did. -/
def orderWorksUptoRow : OpenClaim := { program := "ytjnpkbemmgkpiaagreat", sum := "41382c3a21487769a07b29b6f1eef43afd329b667ef4f1c3a947f99a5a380324", func := "rolodex/rolodexlaw17.OrderWorks", spec := "orderWorks", inPlace := ["internal/bytealg.Compare", "internal/abi.NoEscape"], unfollowed := true, recurses := true, plainKeys := false, apart := false, narrowed := true }
def OrderWorksUptoSaid : Prop := orderWorksUptoRow.holds Tryz.pinned (OpenSpec.upto orderWorksSpec)

end Rows
end Go.Proofs.YtjnpkbemmgkpiaaGreat
