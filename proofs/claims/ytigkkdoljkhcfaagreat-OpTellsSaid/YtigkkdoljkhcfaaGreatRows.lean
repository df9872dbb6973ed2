/-
  No cell of these rows narrows 'for every input' (looked for: loops, veiled, ifaces, maps, wideKeys, modest, calm, conditions, laid).
  DERIVED. THE GIVEN ROWS OF THIS SEAT. 8 by the template 'for every input the law returns true; each argument reads behind the call as it read before'; 0 by the template 'total and deterministic' (their statements: YtigkkdoljkhcfaaGreatTotals.lean).
  GIVEN WITH THE SEED: the statements are not yours to turn. If you find one false, say at which input.
  Laid BY PROGRAM, IN A SANDBOX (cutbox-rows.mjs): the forced cells as the released guide's own fill.sh prints them over the translation 473c632e2c8e402f… (all of the seat's roots in one cut). By AI agents, Wed Nov 11 2026. No macro, syntax, notation, axiom, sorry.
-/
import Derived.Test.YtigkkdoljkhcfaaGreatChecked
import GoSem.Claim
import GoSem.ClaimJoined
import GoSem.ClaimMapViews
import Derived.JoinedTies
import Derived.KernelRfl
namespace Go.Proofs.YtigkkdoljkhcfaaGreat
/- THE CELL 'sum', in the pinned program and in every row, IS THE sha256 OF THE DUMP (.gsa) THAT YtigkkdoljkhcfaaGreatProg.lean LOADS. Nothing in Lean hashes anything: it is a label: what it is worth is what the hold of that sum in a sandbox is worth. -/
noncomputable def Tryz.pinned : Pinned := { name := "ytigkkdoljkhcfaagreat", sum := "473c632e2c8e402f7e7e5d76ea79ae8177cac2c6864c0b23cd10565862eca7d8", checked := Tryz.checked }
namespace Rows
def none {H : Type} : Left H := { results := [], args := [] }

/-- 'rolodexlaw15.OpTells': WHATEVER THE INPUT: true; the input reads as it did. -/
def opTellsSpec : ChangeSpec := { name := "opTells", fn := fun _ => fun
  | [d1, d2, d3] => { results := [.lit (.bool true)], args := [d1, d2, d3] }
  | _ => none }
def opTellsRow : OpenClaim := { program := "ytigkkdoljkhcfaagreat", sum := "473c632e2c8e402f7e7e5d76ea79ae8177cac2c6864c0b23cd10565862eca7d8", func := "rolodex/rolodexlaw15.OpTells", spec := "opTells", inPlace := ["internal/bytealg.Compare", "internal/abi.NoEscape"], unfollowed := true, recurses := true, plainKeys := false, apart := false }
def OpTellsSaid : Prop := opTellsRow.holds Tryz.pinned (OpenSpec.ofChange opTellsSpec)

/-- ITS FALSE NEIGHBOUR: 'it returns false'. Refute it at one input. -/
def opTellsWrong : ChangeSpec := { name := "opTells", fn := fun _ => fun
  | [d1, d2, d3] => { results := [.lit (.bool false)], args := [d1, d2, d3] }
  | _ => none }
def OpTellsWrongFalsely : Prop := opTellsRow.holds Tryz.pinned (OpenSpec.ofChange opTellsWrong)

/-- 'rolodexlaw15.OpDoes': WHATEVER THE INPUT: true; the input reads as it did. -/
def opDoesSpec : ChangeSpec := { name := "opDoes", fn := fun _ => fun
  | [d1, d2] => { results := [.lit (.bool true)], args := [d1, d2] }
  | _ => none }
def opDoesRow : OpenClaim := { program := "ytigkkdoljkhcfaagreat", sum := "473c632e2c8e402f7e7e5d76ea79ae8177cac2c6864c0b23cd10565862eca7d8", func := "rolodex/rolodexlaw15.OpDoes", spec := "opDoes", inPlace := ["internal/bytealg.Compare", "internal/abi.NoEscape"], unfollowed := true, recurses := true, plainKeys := false, apart := false }
def OpDoesSaid : Prop := opDoesRow.holds Tryz.pinned (OpenSpec.ofChange opDoesSpec)

/-- ITS FALSE NEIGHBOUR: 'it returns false'. Refute it at one input. -/
def opDoesWrong : ChangeSpec := { name := "opDoes", fn := fun _ => fun
  | [d1, d2] => { results := [.lit (.bool false)], args := [d1, d2] }
  | _ => none }
def OpDoesWrongFalsely : Prop := opDoesRow.holds Tryz.pinned (OpenSpec.ofChange opDoesWrong)

/-- 'rolodexlaw15.OpValue': WHATEVER THE INPUT: true; the input reads as it did. -/
def opValueSpec : ChangeSpec := { name := "opValue", fn := fun _ => fun
  | [d1, d2] => { results := [.lit (.bool true)], args := [d1, d2] }
  | _ => none }
def opValueRow : OpenClaim := { program := "ytigkkdoljkhcfaagreat", sum := "473c632e2c8e402f7e7e5d76ea79ae8177cac2c6864c0b23cd10565862eca7d8", func := "rolodex/rolodexlaw15.OpValue", spec := "opValue", inPlace := ["internal/bytealg.Compare", "internal/abi.NoEscape"], unfollowed := true, recurses := true, plainKeys := false, apart := false }
def OpValueSaid : Prop := opValueRow.holds Tryz.pinned (OpenSpec.ofChange opValueSpec)

/-- ITS FALSE NEIGHBOUR: 'it returns false'. Refute it at one input. -/
def opValueWrong : ChangeSpec := { name := "opValue", fn := fun _ => fun
  | [d1, d2] => { results := [.lit (.bool false)], args := [d1, d2] }
  | _ => none }
def OpValueWrongFalsely : Prop := opValueRow.holds Tryz.pinned (OpenSpec.ofChange opValueWrong)

/-- 'rolodexlaw15.OpBack': WHATEVER THE INPUT: true; the input reads as it did. -/
def opBackSpec : ChangeSpec := { name := "opBack", fn := fun _ => fun
  | [d1, d2] => { results := [.lit (.bool true)], args := [d1, d2] }
  | _ => none }
def opBackRow : OpenClaim := { program := "ytigkkdoljkhcfaagreat", sum := "473c632e2c8e402f7e7e5d76ea79ae8177cac2c6864c0b23cd10565862eca7d8", func := "rolodex/rolodexlaw15.OpBack", spec := "opBack", inPlace := ["internal/bytealg.Compare", "internal/abi.NoEscape"], unfollowed := true, recurses := true, plainKeys := false, apart := false }
def OpBackSaid : Prop := opBackRow.holds Tryz.pinned (OpenSpec.ofChange opBackSpec)

/-- ITS FALSE NEIGHBOUR: 'it returns false'. Refute it at one input. -/
def opBackWrong : ChangeSpec := { name := "opBack", fn := fun _ => fun
  | [d1, d2] => { results := [.lit (.bool false)], args := [d1, d2] }
  | _ => none }
def OpBackWrongFalsely : Prop := opBackRow.holds Tryz.pinned (OpenSpec.ofChange opBackWrong)

/-- 'rolodexlaw15.OpCut': WHATEVER THE INPUT: true; the input reads as it did. -/
def opCutSpec : ChangeSpec := { name := "opCut", fn := fun _ => fun
  | [d1, d2] => { results := [.lit (.bool true)], args := [d1, d2] }
  | _ => none }
def opCutRow : OpenClaim := { program := "ytigkkdoljkhcfaagreat", sum := "473c632e2c8e402f7e7e5d76ea79ae8177cac2c6864c0b23cd10565862eca7d8", func := "rolodex/rolodexlaw15.OpCut", spec := "opCut", inPlace := ["internal/bytealg.Compare", "internal/abi.NoEscape"], unfollowed := true, recurses := true, plainKeys := false, apart := false }
def OpCutSaid : Prop := opCutRow.holds Tryz.pinned (OpenSpec.ofChange opCutSpec)

/-- ITS FALSE NEIGHBOUR: 'it returns false'. Refute it at one input. -/
def opCutWrong : ChangeSpec := { name := "opCut", fn := fun _ => fun
  | [d1, d2] => { results := [.lit (.bool false)], args := [d1, d2] }
  | _ => none }
def OpCutWrongFalsely : Prop := opCutRow.holds Tryz.pinned (OpenSpec.ofChange opCutWrong)

/-- 'rolodexlaw15.OpWrong': WHATEVER THE INPUT: true; the input reads as it did. -/
def opWrongSpec : ChangeSpec := { name := "opWrong", fn := fun _ => fun
  | [d1, d2, d3, d4, d5] => { results := [.lit (.bool true)], args := [d1, d2, d3, d4, d5] }
  | _ => none }
def opWrongRow : OpenClaim := { program := "ytigkkdoljkhcfaagreat", sum := "473c632e2c8e402f7e7e5d76ea79ae8177cac2c6864c0b23cd10565862eca7d8", func := "rolodex/rolodexlaw15.OpWrong", spec := "opWrong", inPlace := ["internal/bytealg.Compare", "internal/abi.NoEscape"], unfollowed := true, recurses := true, plainKeys := false, apart := false }
def OpWrongSaid : Prop := opWrongRow.holds Tryz.pinned (OpenSpec.ofChange opWrongSpec)

/-- ITS FALSE NEIGHBOUR: 'it returns false'. Refute it at one input. -/
def opWrongWrong : ChangeSpec := { name := "opWrong", fn := fun _ => fun
  | [d1, d2, d3, d4, d5] => { results := [.lit (.bool false)], args := [d1, d2, d3, d4, d5] }
  | _ => none }
def OpWrongWrongFalsely : Prop := opWrongRow.holds Tryz.pinned (OpenSpec.ofChange opWrongWrong)

/-- 'rolodexlaw15.OpBoth': WHATEVER THE INPUT: true; the input reads as it did. -/
def opBothSpec : ChangeSpec := { name := "opBoth", fn := fun _ => fun
  | [d1, d2, d3] => { results := [.lit (.bool true)], args := [d1, d2, d3] }
  | _ => none }
def opBothRow : OpenClaim := { program := "ytigkkdoljkhcfaagreat", sum := "473c632e2c8e402f7e7e5d76ea79ae8177cac2c6864c0b23cd10565862eca7d8", func := "rolodex/rolodexlaw15.OpBoth", spec := "opBoth", inPlace := ["internal/bytealg.Compare", "internal/abi.NoEscape"], unfollowed := true, recurses := true, plainKeys := false, apart := false }
def OpBothSaid : Prop := opBothRow.holds Tryz.pinned (OpenSpec.ofChange opBothSpec)

/-- ITS FALSE NEIGHBOUR: 'it returns false'. Refute it at one input. -/
def opBothWrong : ChangeSpec := { name := "opBoth", fn := fun _ => fun
  | [d1, d2, d3] => { results := [.lit (.bool false)], args := [d1, d2, d3] }
  | _ => none }
def OpBothWrongFalsely : Prop := opBothRow.holds Tryz.pinned (OpenSpec.ofChange opBothWrong)

/-- 'rolodexlaw15.OpAdds': WHATEVER THE INPUT: true; the input reads as it did. -/
def opAddsSpec : ChangeSpec := { name := "opAdds", fn := fun _ => fun
  | [d1, d2] => { results := [.lit (.bool true)], args := [d1, d2] }
  | _ => none }
def opAddsRow : OpenClaim := { program := "ytigkkdoljkhcfaagreat", sum := "473c632e2c8e402f7e7e5d76ea79ae8177cac2c6864c0b23cd10565862eca7d8", func := "rolodex/rolodexlaw15.OpAdds", spec := "opAdds", inPlace := ["internal/bytealg.Compare", "internal/abi.NoEscape"], unfollowed := true, recurses := true, plainKeys := false, apart := false }
def OpAddsSaid : Prop := opAddsRow.holds Tryz.pinned (OpenSpec.ofChange opAddsSpec)

/-- ITS FALSE NEIGHBOUR: 'it returns false'. Refute it at one input. -/
def opAddsWrong : ChangeSpec := { name := "opAdds", fn := fun _ => fun
  | [d1, d2] => { results := [.lit (.bool false)], args := [d1, d2] }
  | _ => none }
def OpAddsWrongFalsely : Prop := opAddsRow.holds Tryz.pinned (OpenSpec.ofChange opAddsWrong)

/- THE SECOND FORM. 'bulk': how many values and letters a reading holds, each counted each time it is reached (what is shared counts as often as it is met; a slice's spare places count too). A statement '..UptoSaid' is the law's where the arguments, and the package variables that the reading takes, are together of bulk at most 1048576: NARROWER than '..Said'. Prove '..Said' where nothing that the law and all that it calls make is longer than what came in: it says more and counts as full. Else prove '..UptoSaid'. A law counts once. -/
mutual
def uptoBulk {H : Type} : DataW H → Nat
  | .lit (.string bytes) => bytes.length + 1
  | .lit _ => 1
  | .nil => 1
  | .ptr d => uptoBulk d + 1
  | .slice elems spare => uptoBulkAll elems + uptoBulkAll spare + 1
  | .agg parts => uptoBulkAll parts + 1
  | .iface _ d => uptoBulk d + 1
  | .map entries => uptoBulkEntries entries + 1
  | .held _ => 1
def uptoBulkAll {H : Type} : List (DataW H) → Nat
  | [] => 0
  | d :: r => uptoBulk d + uptoBulkAll r
def uptoBulkEntries {H : Type} : List (Lit × DataW H) → Nat
  | [] => 0
  | x :: r => uptoBulkEntry x + uptoBulkEntries r
def uptoBulkEntry {H : Type} : Lit × DataW H → Nat
  | (.string bytes, d) => bytes.length + uptoBulk d + 1
  | (_, d) => uptoBulk d + 1
 end
def uptoSmall : (H : Type) → List (DataW H) → Bool := fun _ ds => decide (uptoBulkAll ds ≤ 1048576)
def OpenSpec.upto (s : _root_.Go.ChangeSpec) : _root_.Go.OpenSpec := { _root_.Go.OpenSpec.ofChange s with cond := some uptoSmall }

/-- 'rolodexlaw15.OpTells', WHERE WHAT IT READS IS OF BULK AT MOST 1048576: true; the input reads as it did. -/
def opTellsUptoRow : OpenClaim := { program := "ytigkkdoljkhcfaagreat", sum := "473c632e2c8e402f7e7e5d76ea79ae8177cac2c6864c0b23cd10565862eca7d8", func := "rolodex/rolodexlaw15.OpTells", spec := "opTells", inPlace := ["internal/bytealg.Compare", "internal/abi.NoEscape"], unfollowed := true, recurses := true, plainKeys := false, apart := false, narrowed := true }
def OpTellsUptoSaid : Prop := opTellsUptoRow.holds Tryz.pinned (OpenSpec.upto opTellsSpec)

/-- 'rolodexlaw15.OpDoes', WHERE WHAT IT READS IS OF BULK AT MOST 1048576: true; the input reads as it did. -/
def opDoesUptoRow : OpenClaim := { program := "ytigkkdoljkhcfaagreat", sum := "473c632e2c8e402f7e7e5d76ea79ae8177cac2c6864c0b23cd10565862eca7d8", func := "rolodex/rolodexlaw15.OpDoes", spec := "opDoes", inPlace := ["internal/bytealg.Compare", "internal/abi.NoEscape"], unfollowed := true, recurses := true, plainKeys := false, apart := false, narrowed := true }
def OpDoesUptoSaid : Prop := opDoesUptoRow.holds Tryz.pinned (OpenSpec.upto opDoesSpec)

/-- 'rolodexlaw15.OpValue', WHERE WHAT IT READS IS OF BULK AT MOST 1048576: true; the input reads as it did. -/
def opValueUptoRow : OpenClaim := { program := "ytigkkdoljkhcfaagreat", sum := "473c632e2c8e402f7e7e5d76ea79ae8177cac2c6864c0b23cd10565862eca7d8", func := "rolodex/rolodexlaw15.OpValue", spec := "opValue", inPlace := ["internal/bytealg.Compare", "internal/abi.NoEscape"], unfollowed := true, recurses := true, plainKeys := false, apart := false, narrowed := true }
def OpValueUptoSaid : Prop := opValueUptoRow.holds Tryz.pinned (OpenSpec.upto opValueSpec)

/-- 'rolodexlaw15.OpBack', WHERE WHAT IT READS IS OF BULK AT MOST 1048576: true; the input reads as it did. -/
def opBackUptoRow : OpenClaim := { program := "ytigkkdoljkhcfaagreat", sum := "473c632e2c8e402f7e7e5d76ea79ae8177cac2c6864c0b23cd10565862eca7d8", func := "rolodex/rolodexlaw15.OpBack", spec := "opBack", inPlace := ["internal/bytealg.Compare", "internal/abi.NoEscape"], unfollowed := true, recurses := true, plainKeys := false, apart := false, narrowed := true }
def OpBackUptoSaid : Prop := opBackUptoRow.holds Tryz.pinned (OpenSpec.upto opBackSpec)

/-- 'rolodexlaw15.OpCut', WHERE WHAT IT READS IS OF BULK AT MOST 1048576: true; the input reads as it did. -/
def opCutUptoRow : OpenClaim := { program := "ytigkkdoljkhcfaagreat", sum := "473c632e2c8e402f7e7e5d76ea79ae8177cac2c6864c0b23cd10565862eca7d8", func := "rolodex/rolodexlaw15.OpCut", spec := "opCut", inPlace := ["internal/bytealg.Compare", "internal/abi.NoEscape"], unfollowed := true, recurses := true, plainKeys := false, apart := false, narrowed := true }
def OpCutUptoSaid : Prop := opCutUptoRow.holds Tryz.pinned (OpenSpec.upto opCutSpec)

/-- 'rolodexlaw15.OpWrong', WHERE WHAT IT READS IS OF BULK AT MOST 1048576: true; the input reads as it did. -/
def opWrongUptoRow : OpenClaim := { program := "ytigkkdoljkhcfaagreat", sum := "473c632e2c8e402f7e7e5d76ea79ae8177cac2c6864c0b23cd10565862eca7d8", func := "rolodex/rolodexlaw15.OpWrong", spec := "opWrong", inPlace := ["internal/bytealg.Compare", "internal/abi.NoEscape"], unfollowed := true, recurses := true, plainKeys := false, apart := false, narrowed := true }
def OpWrongUptoSaid : Prop := opWrongUptoRow.holds Tryz.pinned (OpenSpec.upto opWrongSpec)

/-- 'rolodexlaw15.OpBoth', WHERE WHAT IT READS IS OF BULK AT MOST 1048576: true; the input reads as it did. -/
def opBothUptoRow : OpenClaim := { program := "ytigkkdoljkhcfaagreat", sum := "473c632e2c8e402f7e7e5d76ea79ae8177cac2c6864c0b23cd10565862eca7d8", func := "rolodex/rolodexlaw15.OpBoth", spec := "opBoth", inPlace := ["internal/bytealg.Compare", "internal/abi.NoEscape"], unfollowed := true, recurses := true, plainKeys := false, apart := false, narrowed := true }
def OpBothUptoSaid : Prop := opBothUptoRow.holds Tryz.pinned (OpenSpec.upto opBothSpec)

/-- 'rolodexlaw15.OpAdds', WHERE WHAT IT READS IS OF BULK AT MOST 1048576: true; the input reads as it did. -/
def opAddsUptoRow : OpenClaim := { program := "ytigkkdoljkhcfaagreat", sum := "473c632e2c8e402f7e7e5d76ea79ae8177cac2c6864c0b23cd10565862eca7d8", func := "rolodex/rolodexlaw15.OpAdds", spec := "opAdds", inPlace := ["internal/bytealg.Compare", "internal/abi.NoEscape"], unfollowed := true, recurses := true, plainKeys := false, apart := false, narrowed := true }
def OpAddsUptoSaid : Prop := opAddsUptoRow.holds Tryz.pinned (OpenSpec.upto opAddsSpec)

end Rows
end Go.Proofs.YtigkkdoljkhcfaaGreat
