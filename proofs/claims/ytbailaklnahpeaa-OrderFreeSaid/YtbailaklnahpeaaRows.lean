/-
  No cell of these rows narrows 'for every input' (looked for: loops, veiled, ifaces, maps, wideKeys, modest, calm, conditions, laid).
  DERIVED. THE GIVEN ROWS OF THIS SEAT. 6 by the template 'for every input the law returns true; each argument reads behind the call as it read before'; 0 by the template 'total and deterministic' (their statements: YtbailaklnahpeaaTotals.lean).
  GIVEN WITH THE SEED: the statements are not yours to turn. If you find one false, say at which input.
  Laid BY PROGRAM, IN A SANDBOX (cutbox-rows.mjs): the forced cells as the released guide's own fill.sh prints them over the translation 6356022ddb9c369a… (all of the seat's roots in one cut). By AI agents, Wed Nov 11 2026. No macro, syntax, notation, axiom, sorry.
-/
import Derived.Test.YtbailaklnahpeaaChecked
import GoSem.Claim
import GoSem.ClaimJoined
import GoSem.ClaimMapViews
import Derived.JoinedTies
import Derived.KernelRfl
namespace Go.Proofs.Ytbailaklnahpeaa
/- THE CELL 'sum', in the pinned program and in every row, IS THE sha256 OF THE DUMP (.gsa) THAT YtbailaklnahpeaaProg.lean LOADS. Nothing in Lean hashes anything: it is a label: what it is worth is what the hold of that sum in a sandbox is worth. -/
noncomputable def Try.pinned : Pinned := { name := "ytbailaklnahpeaa", sum := "6356022ddb9c369a59969c7b91b9e6dbb2d3b7fecec12be48b9197aa96ca8fb3", checked := Try.checked }
namespace Rows
def none {H : Type} : Left H := { results := [], args := [] }

/-- 'rolodexlaw17.OrderTells': WHATEVER THE INPUT: true; the input reads as it did. -/
def orderTellsSpec : ChangeSpec := { name := "orderTells", fn := fun _ => fun
  | [d1, d2, d3, d4] => { results := [.lit (.bool true)], args := [d1, d2, d3, d4] }
  | _ => none }
def orderTellsRow : OpenClaim := { program := "ytbailaklnahpeaa", sum := "6356022ddb9c369a59969c7b91b9e6dbb2d3b7fecec12be48b9197aa96ca8fb3", func := "rolodex/rolodexlaw17.OrderTells", spec := "orderTells", unfollowed := true, recurses := true, apart := false }
def OrderTellsSaid : Prop := orderTellsRow.holds Try.pinned (OpenSpec.ofChange orderTellsSpec)

/-- ITS FALSE NEIGHBOUR: 'it returns false'. Refute it at one input. -/
def orderTellsWrong : ChangeSpec := { name := "orderTells", fn := fun _ => fun
  | [d1, d2, d3, d4] => { results := [.lit (.bool false)], args := [d1, d2, d3, d4] }
  | _ => none }
def OrderTellsWrongFalsely : Prop := orderTellsRow.holds Try.pinned (OpenSpec.ofChange orderTellsWrong)

/-- 'rolodexlaw17.OrderReads': WHATEVER THE INPUT: true; the input reads as it did. -/
def orderReadsSpec : ChangeSpec := { name := "orderReads", fn := fun _ => fun
  | [d1, d2] => { results := [.lit (.bool true)], args := [d1, d2] }
  | _ => none }
def orderReadsRow : OpenClaim := { program := "ytbailaklnahpeaa", sum := "6356022ddb9c369a59969c7b91b9e6dbb2d3b7fecec12be48b9197aa96ca8fb3", func := "rolodex/rolodexlaw17.OrderReads", spec := "orderReads", unfollowed := true, recurses := true, apart := false }
def OrderReadsSaid : Prop := orderReadsRow.holds Try.pinned (OpenSpec.ofChange orderReadsSpec)

/-- ITS FALSE NEIGHBOUR: 'it returns false'. Refute it at one input. -/
def orderReadsWrong : ChangeSpec := { name := "orderReads", fn := fun _ => fun
  | [d1, d2] => { results := [.lit (.bool false)], args := [d1, d2] }
  | _ => none }
def OrderReadsWrongFalsely : Prop := orderReadsRow.holds Try.pinned (OpenSpec.ofChange orderReadsWrong)

/-- 'rolodexlaw17.OrderAll': WHATEVER THE INPUT: true; the input reads as it did. -/
def orderAllSpec : ChangeSpec := { name := "orderAll", fn := fun _ => fun
  | [d1, d2] => { results := [.lit (.bool true)], args := [d1, d2] }
  | _ => none }
def orderAllRow : OpenClaim := { program := "ytbailaklnahpeaa", sum := "6356022ddb9c369a59969c7b91b9e6dbb2d3b7fecec12be48b9197aa96ca8fb3", func := "rolodex/rolodexlaw17.OrderAll", spec := "orderAll", unfollowed := true, recurses := true, apart := false }
def OrderAllSaid : Prop := orderAllRow.holds Try.pinned (OpenSpec.ofChange orderAllSpec)

/-- ITS FALSE NEIGHBOUR: 'it returns false'. Refute it at one input. -/
def orderAllWrong : ChangeSpec := { name := "orderAll", fn := fun _ => fun
  | [d1, d2] => { results := [.lit (.bool false)], args := [d1, d2] }
  | _ => none }
def OrderAllWrongFalsely : Prop := orderAllRow.holds Try.pinned (OpenSpec.ofChange orderAllWrong)

/-- 'rolodexlaw17.OrderBatches': WHATEVER THE INPUT: true; the input reads as it did. -/
def orderBatchesSpec : ChangeSpec := { name := "orderBatches", fn := fun _ => fun
  | [d] => { results := [.lit (.bool true)], args := [d] }
  | _ => none }
def orderBatchesRow : OpenClaim := { program := "ytbailaklnahpeaa", sum := "6356022ddb9c369a59969c7b91b9e6dbb2d3b7fecec12be48b9197aa96ca8fb3", func := "rolodex/rolodexlaw17.OrderBatches", spec := "orderBatches", unfollowed := true, recurses := true, apart := false }
def OrderBatchesSaid : Prop := orderBatchesRow.holds Try.pinned (OpenSpec.ofChange orderBatchesSpec)

/-- ITS FALSE NEIGHBOUR: 'it returns false'. Refute it at one input. -/
def orderBatchesWrong : ChangeSpec := { name := "orderBatches", fn := fun _ => fun
  | [d] => { results := [.lit (.bool false)], args := [d] }
  | _ => none }
def OrderBatchesWrongFalsely : Prop := orderBatchesRow.holds Try.pinned (OpenSpec.ofChange orderBatchesWrong)

/-- 'rolodexlaw17.OrderFree': WHATEVER THE INPUT: true; the input reads as it did. -/
def orderFreeSpec : ChangeSpec := { name := "orderFree", fn := fun _ => fun
  | [d1, d2, d3, d4] => { results := [.lit (.bool true)], args := [d1, d2, d3, d4] }
  | _ => none }
def orderFreeRow : OpenClaim := { program := "ytbailaklnahpeaa", sum := "6356022ddb9c369a59969c7b91b9e6dbb2d3b7fecec12be48b9197aa96ca8fb3", func := "rolodex/rolodexlaw17.OrderFree", spec := "orderFree", unfollowed := true, recurses := true, apart := false }
def OrderFreeSaid : Prop := orderFreeRow.holds Try.pinned (OpenSpec.ofChange orderFreeSpec)

/-- ITS FALSE NEIGHBOUR: 'it returns false'. Refute it at one input. -/
def orderFreeWrong : ChangeSpec := { name := "orderFree", fn := fun _ => fun
  | [d1, d2, d3, d4] => { results := [.lit (.bool false)], args := [d1, d2, d3, d4] }
  | _ => none }
def OrderFreeWrongFalsely : Prop := orderFreeRow.holds Try.pinned (OpenSpec.ofChange orderFreeWrong)

/-- 'rolodexlaw17.OrderNone': WHATEVER THE INPUT: true; the input reads as it did. -/
def orderNoneSpec : ChangeSpec := { name := "orderNone", fn := fun _ => fun
  | [d1, d2] => { results := [.lit (.bool true)], args := [d1, d2] }
  | _ => none }
def orderNoneRow : OpenClaim := { program := "ytbailaklnahpeaa", sum := "6356022ddb9c369a59969c7b91b9e6dbb2d3b7fecec12be48b9197aa96ca8fb3", func := "rolodex/rolodexlaw17.OrderNone", spec := "orderNone", unfollowed := true, recurses := true, apart := false }
def OrderNoneSaid : Prop := orderNoneRow.holds Try.pinned (OpenSpec.ofChange orderNoneSpec)

/-- ITS FALSE NEIGHBOUR: 'it returns false'. Refute it at one input. -/
def orderNoneWrong : ChangeSpec := { name := "orderNone", fn := fun _ => fun
  | [d1, d2] => { results := [.lit (.bool false)], args := [d1, d2] }
  | _ => none }
def OrderNoneWrongFalsely : Prop := orderNoneRow.holds Try.pinned (OpenSpec.ofChange orderNoneWrong)

/- THE SECOND FORM. 'bulk': how many values and letters a reading holds, each counted each time it is reached (what is shared counts as often as it is met; a slice's spare places count too). A statement '..UptoSaid' is the law's where the arguments, and the package variables that the reading takes, are together of bulk at most 1048576: NARROWER than '..Said'. Prove '..Said' where nothing that the law and all that it calls make is longer than what came in: it says more and counts as full. Else prove '..UptoSaid'. A law counts once. -/
mutual
def uptoBulk {H : Type} : DataW H → Nat
  | .lit (.string bytes) => bytes.length + 1
  | .lit _ => 1
  | .nil => 1
  | .ptr d => uptoBulk d + 1
  | .slice elems spare => uptoBulkAll elems + uptoBulkAll spare + 1
  | .agg parts => uptoBulkAll parts + 1
  | .iface _ d => uptoBulk d + 1
  | .map entries => uptoBulkEntries entries + 1
  | .held _ => 1
def uptoBulkAll {H : Type} : List (DataW H) → Nat
  | [] => 0
  | d :: r => uptoBulk d + uptoBulkAll r
def uptoBulkEntries {H : Type} : List (Lit × DataW H) → Nat
  | [] => 0
  | x :: r => uptoBulkEntry x + uptoBulkEntries r
def uptoBulkEntry {H : Type} : Lit × DataW H → Nat
  | (.string bytes, d) => bytes.length + uptoBulk d + 1
  | (_, d) => uptoBulk d + 1
 end
def uptoSmall : (H : Type) → List (DataW H) → Bool := fun _ ds => decide (uptoBulkAll ds ≤ 1048576)
def OpenSpec.upto (s : _root_.Go.ChangeSpec) : _root_.Go.OpenSpec := { _root_.Go.OpenSpec.ofChange s with cond := some uptoSmall }

/-- 'rolodexlaw17.OrderTells', WHERE WHAT IT READS IS OF BULK AT MOST 1048576: true; the input reads as it did. -/
def orderTellsUptoRow : OpenClaim := { program := "ytbailaklnahpeaa", sum := "6356022ddb9c369a59969c7b91b9e6dbb2d3b7fecec12be48b9197aa96ca8fb3", func := "rolodex/rolodexlaw17.OrderTells", spec := "orderTells", unfollowed := true, recurses := true, apart := false, narrowed := true }
def OrderTellsUptoSaid : Prop := orderTellsUptoRow.holds Try.pinned (OpenSpec.upto orderTellsSpec)

/-- 'rolodexlaw17.OrderReads', WHERE WHAT IT READS IS OF BULK AT MOST 1048576: true; the input reads as it did. -/
def orderReadsUptoRow : OpenClaim := { program := "ytbailaklnahpeaa", sum := "6356022ddb9c369a59969c7b91b9e6dbb2d3b7fecec12be48b9197aa96ca8fb3", func := "rolodex/rolodexlaw17.OrderReads", spec := "orderReads", unfollowed := true, recurses := true, apart := false, narrowed := true }
def OrderReadsUptoSaid : Prop := orderReadsUptoRow.holds Try.pinned (OpenSpec.upto orderReadsSpec)

/-- 'rolodexlaw17.OrderAll', WHERE WHAT IT READS IS OF BULK AT MOST 1048576: true; the input reads as it did. -/
def orderAllUptoRow : OpenClaim := { program := "ytbailaklnahpeaa", sum := "6356022ddb9c369a59969c7b91b9e6dbb2d3b7fecec12be48b9197aa96ca8fb3", func := "rolodex/rolodexlaw17.OrderAll", spec := "orderAll", unfollowed := true, recurses := true, apart := false, narrowed := true }
def OrderAllUptoSaid : Prop := orderAllUptoRow.holds Try.pinned (OpenSpec.upto orderAllSpec)

/-- 'rolodexlaw17.OrderBatches', WHERE WHAT IT READS IS OF BULK AT MOST 1048576: true; the input reads as it did. -/
def orderBatchesUptoRow : OpenClaim := { program := "ytbailaklnahpeaa", sum := "6356022ddb9c369a59969c7b91b9e6dbb2d3b7fecec12be48b9197aa96ca8fb3", func := "rolodex/rolodexlaw17.OrderBatches", spec := "orderBatches", unfollowed := true, recurses := true, apart := false, narrowed := true }
def OrderBatchesUptoSaid : Prop := orderBatchesUptoRow.holds Try.pinned (OpenSpec.upto orderBatchesSpec)

/-- 'rolodexlaw17.OrderFree', WHERE WHAT IT READS IS OF BULK AT MOST 1048576: true; the input reads as it did. -/
def orderFreeUptoRow : OpenClaim := { program := "ytbailaklnahpeaa", sum := "6356022ddb9c369a59969c7b91b9e6dbb2d3b7fecec12be48b9197aa96ca8fb3", func := "rolodex/rolodexlaw17.OrderFree", spec := "orderFree", unfollowed := true, recurses := true, apart := false, narrowed := true }
def OrderFreeUptoSaid : Prop := orderFreeUptoRow.holds Try.pinned (OpenSpec.upto orderFreeSpec)

/-- 'rolodexlaw17.OrderNone', WHERE WHAT IT READS IS OF BULK AT MOST 1048576: true; the input reads as it did. -/
def orderNoneUptoRow : OpenClaim := { program := "ytbailaklnahpeaa", sum := "6356022ddb9c369a59969c7b91b9e6dbb2d3b7fecec12be48b9197aa96ca8fb3", func := "rolodex/rolodexlaw17.OrderNone", spec := "orderNone", unfollowed := true, recurses := true, apart := false, narrowed := true }
def OrderNoneUptoSaid : Prop := orderNoneUptoRow.holds Try.pinned (OpenSpec.upto orderNoneSpec)

end Rows
end Go.Proofs.Ytbailaklnahpeaa
