/-
  No cell of these rows narrows 'for every input' (looked for: loops, veiled, ifaces, maps, wideKeys, modest, calm, conditions, laid).
  DERIVED. THE GIVEN ROWS OF THIS SEAT. 6 by the template 'for every input the law returns true; each argument reads behind the call as it read before'; 0 by the template 'total and deterministic' (their statements: YtmnngfcoenhhkaaGreatTotals.lean).
  GIVEN WITH THE SEED: the statements are not yours to turn. If you find one false, say at which input.
  Laid BY PROGRAM, IN A SANDBOX (cutbox-rows.mjs): the forced cells as the released guide's own fill.sh prints them over the translation a793cc0ad22c7b3a… (all of the seat's roots in one cut). By AI agents, Wed Nov 11 2026. No macro, syntax, notation, axiom, sorry.
-/
import Derived.Test.YtmnngfcoenhhkaaGreatChecked
import GoSem.Claim
import GoSem.ClaimJoined
import GoSem.ClaimMapViews
import Derived.JoinedTies
import Derived.KernelRfl
namespace Go.Proofs.YtmnngfcoenhhkaaGreat
/- THE CELL 'sum', in the pinned program and in every row, IS THE sha256 OF THE DUMP (.gsa) THAT YtmnngfcoenhhkaaGreatProg.lean LOADS. Nothing in Lean hashes anything: it is a label: what it is worth is what the hold of that sum in a sandbox is worth. -/
noncomputable def Tryz.pinned : Pinned := { name := "ytmnngfcoenhhkaagreat", sum := "a793cc0ad22c7b3aeb2bb7d7b3fb61e4f468a86c124ee29aa9c8a9dc534d4c1e", checked := Tryz.checked }
namespace Rows
def none {H : Type} : Left H := { results := [], args := [] }

/-- 'rolodexlaw14.AboveTells': WHATEVER THE INPUT: true; the input reads as it did. -/
def aboveTellsSpec : ChangeSpec := { name := "aboveTells", fn := fun _ => fun
  | [d1, d2, d3, d4, d5, d6] => { results := [.lit (.bool true)], args := [d1, d2, d3, d4, d5, d6] }
  | _ => none }
def aboveTellsRow : OpenClaim := { program := "ytmnngfcoenhhkaagreat", sum := "a793cc0ad22c7b3aeb2bb7d7b3fb61e4f468a86c124ee29aa9c8a9dc534d4c1e", func := "rolodex/rolodexlaw14.AboveTells", spec := "aboveTells", inPlace := ["internal/bytealg.Compare"], unfollowed := true, recurses := true, plainKeys := false, apart := false }
def AboveTellsSaid : Prop := aboveTellsRow.holds Tryz.pinned (OpenSpec.ofChange aboveTellsSpec)

/-- ITS FALSE NEIGHBOUR: 'it returns false'. Refute it at one input. -/
def aboveTellsWrong : ChangeSpec := { name := "aboveTells", fn := fun _ => fun
  | [d1, d2, d3, d4, d5, d6] => { results := [.lit (.bool false)], args := [d1, d2, d3, d4, d5, d6] }
  | _ => none }
def AboveTellsWrongFalsely : Prop := aboveTellsRow.holds Tryz.pinned (OpenSpec.ofChange aboveTellsWrong)

/-- 'rolodexlaw14.AboveJoins': WHATEVER THE INPUT: true; the input reads as it did. -/
def aboveJoinsSpec : ChangeSpec := { name := "aboveJoins", fn := fun _ => fun
  | [d1, d2] => { results := [.lit (.bool true)], args := [d1, d2] }
  | _ => none }
def aboveJoinsRow : OpenClaim := { program := "ytmnngfcoenhhkaagreat", sum := "a793cc0ad22c7b3aeb2bb7d7b3fb61e4f468a86c124ee29aa9c8a9dc534d4c1e", func := "rolodex/rolodexlaw14.AboveJoins", spec := "aboveJoins", inPlace := ["internal/bytealg.Compare"], unfollowed := true, recurses := true, plainKeys := false, apart := false }
def AboveJoinsSaid : Prop := aboveJoinsRow.holds Tryz.pinned (OpenSpec.ofChange aboveJoinsSpec)

/-- ITS FALSE NEIGHBOUR: 'it returns false'. Refute it at one input. -/
def aboveJoinsWrong : ChangeSpec := { name := "aboveJoins", fn := fun _ => fun
  | [d1, d2] => { results := [.lit (.bool false)], args := [d1, d2] }
  | _ => none }
def AboveJoinsWrongFalsely : Prop := aboveJoinsRow.holds Tryz.pinned (OpenSpec.ofChange aboveJoinsWrong)

/-- 'rolodexlaw14.AboveNone': WHATEVER THE INPUT: true; the input reads as it did. -/
def aboveNoneSpec : ChangeSpec := { name := "aboveNone", fn := fun _ => fun
  | [d] => { results := [.lit (.bool true)], args := [d] }
  | _ => none }
def aboveNoneRow : OpenClaim := { program := "ytmnngfcoenhhkaagreat", sum := "a793cc0ad22c7b3aeb2bb7d7b3fb61e4f468a86c124ee29aa9c8a9dc534d4c1e", func := "rolodex/rolodexlaw14.AboveNone", spec := "aboveNone", inPlace := ["internal/bytealg.Compare"], unfollowed := true, recurses := true, plainKeys := false, apart := false }
def AboveNoneSaid : Prop := aboveNoneRow.holds Tryz.pinned (OpenSpec.ofChange aboveNoneSpec)

/-- ITS FALSE NEIGHBOUR: 'it returns false'. Refute it at one input. -/
def aboveNoneWrong : ChangeSpec := { name := "aboveNone", fn := fun _ => fun
  | [d] => { results := [.lit (.bool false)], args := [d] }
  | _ => none }
def AboveNoneWrongFalsely : Prop := aboveNoneRow.holds Tryz.pinned (OpenSpec.ofChange aboveNoneWrong)

/-- 'rolodexlaw14.AboveStamp': WHATEVER THE INPUT: true; the input reads as it did. -/
def aboveStampSpec : ChangeSpec := { name := "aboveStamp", fn := fun _ => fun
  | [d1, d2, d3, d4] => { results := [.lit (.bool true)], args := [d1, d2, d3, d4] }
  | _ => none }
def aboveStampRow : OpenClaim := { program := "ytmnngfcoenhhkaagreat", sum := "a793cc0ad22c7b3aeb2bb7d7b3fb61e4f468a86c124ee29aa9c8a9dc534d4c1e", func := "rolodex/rolodexlaw14.AboveStamp", spec := "aboveStamp", inPlace := ["internal/bytealg.Compare"], unfollowed := true, recurses := true, plainKeys := false, apart := false }
def AboveStampSaid : Prop := aboveStampRow.holds Tryz.pinned (OpenSpec.ofChange aboveStampSpec)

/-- ITS FALSE NEIGHBOUR: 'it returns false'. Refute it at one input. -/
def aboveStampWrong : ChangeSpec := { name := "aboveStamp", fn := fun _ => fun
  | [d1, d2, d3, d4] => { results := [.lit (.bool false)], args := [d1, d2, d3, d4] }
  | _ => none }
def AboveStampWrongFalsely : Prop := aboveStampRow.holds Tryz.pinned (OpenSpec.ofChange aboveStampWrong)

/-- 'rolodexlaw14.AboveAdds': WHATEVER THE INPUT: true; the input reads as it did. -/
def aboveAddsSpec : ChangeSpec := { name := "aboveAdds", fn := fun _ => fun
  | [d1, d2] => { results := [.lit (.bool true)], args := [d1, d2] }
  | _ => none }
def aboveAddsRow : OpenClaim := { program := "ytmnngfcoenhhkaagreat", sum := "a793cc0ad22c7b3aeb2bb7d7b3fb61e4f468a86c124ee29aa9c8a9dc534d4c1e", func := "rolodex/rolodexlaw14.AboveAdds", spec := "aboveAdds", inPlace := ["internal/bytealg.Compare"], unfollowed := true, recurses := true, plainKeys := false, apart := false }
def AboveAddsSaid : Prop := aboveAddsRow.holds Tryz.pinned (OpenSpec.ofChange aboveAddsSpec)

/-- ITS FALSE NEIGHBOUR: 'it returns false'. Refute it at one input. -/
def aboveAddsWrong : ChangeSpec := { name := "aboveAdds", fn := fun _ => fun
  | [d1, d2] => { results := [.lit (.bool false)], args := [d1, d2] }
  | _ => none }
def AboveAddsWrongFalsely : Prop := aboveAddsRow.holds Tryz.pinned (OpenSpec.ofChange aboveAddsWrong)

/-- 'rolodexlaw14.AboveLess': WHATEVER THE INPUT: true; the input reads as it did. -/
def aboveLessSpec : ChangeSpec := { name := "aboveLess", fn := fun _ => fun
  | [d1, d2] => { results := [.lit (.bool true)], args := [d1, d2] }
  | _ => none }
def aboveLessRow : OpenClaim := { program := "ytmnngfcoenhhkaagreat", sum := "a793cc0ad22c7b3aeb2bb7d7b3fb61e4f468a86c124ee29aa9c8a9dc534d4c1e", func := "rolodex/rolodexlaw14.AboveLess", spec := "aboveLess", inPlace := ["internal/bytealg.Compare"], unfollowed := true, recurses := true, plainKeys := false, apart := false }
def AboveLessSaid : Prop := aboveLessRow.holds Tryz.pinned (OpenSpec.ofChange aboveLessSpec)

/-- ITS FALSE NEIGHBOUR: 'it returns false'. Refute it at one input. -/
def aboveLessWrong : ChangeSpec := { name := "aboveLess", fn := fun _ => fun
  | [d1, d2] => { results := [.lit (.bool false)], args := [d1, d2] }
  | _ => none }
def AboveLessWrongFalsely : Prop := aboveLessRow.holds Tryz.pinned (OpenSpec.ofChange aboveLessWrong)

/- THE SECOND FORM. 'bulk': how many values and letters a reading holds, each counted each time it is reached (what is shared counts as often as it is met; a slice's spare places count too). A statement '..UptoSaid' is the law's where the arguments, and the package variables that the reading takes, are together of bulk at most 1048576: NARROWER than '..Said'. Prove '..Said' where nothing that the law and all that it calls make is longer than what came in: it says more and counts as full. Else prove '..UptoSaid'. A law counts once. -/
mutual
def uptoBulk {H : Type} : DataW H → Nat
  | .lit (.string bytes) => bytes.length + 1
  | .lit _ => 1
  | .nil => 1
  | .ptr d => uptoBulk d + 1
  | .slice elems spare => uptoBulkAll elems + uptoBulkAll spare + 1
  | .agg parts => uptoBulkAll parts + 1
  | .iface _ d => uptoBulk d + 1
  | .map entries => uptoBulkEntries entries + 1
  | .held _ => 1
def uptoBulkAll {H : Type} : List (DataW H) → Nat
  | [] => 0
  | d :: r => uptoBulk d + uptoBulkAll r
def uptoBulkEntries {H : Type} : List (Lit × DataW H) → Nat
  | [] => 0
  | x :: r => uptoBulkEntry x + uptoBulkEntries r
def uptoBulkEntry {H : Type} : Lit × DataW H → Nat
  | (.string bytes, d) => bytes.length + uptoBulk d + 1
  | (_, d) => uptoBulk d + 1
 end
def uptoSmall : (H : Type) → List (DataW H) → Bool := fun _ ds => decide (uptoBulkAll ds ≤ 1048576)
def OpenSpec.upto (s : _root_.Go.ChangeSpec) : _root_.Go.OpenSpec := { _root_.Go.OpenSpec.ofChange s with cond := some uptoSmall }

/-- 'rolodexlaw14.AboveTells', WHERE WHAT IT READS IS OF BULK AT MOST 1048576: true; the input reads as it did. -/
def aboveTellsUptoRow : OpenClaim := { program := "ytmnngfcoenhhkaagreat", sum := "a793cc0ad22c7b3aeb2bb7d7b3fb61e4f468a86c124ee29aa9c8a9dc534d4c1e", func := "rolodex/rolodexlaw14.AboveTells", spec := "aboveTells", inPlace := ["internal/bytealg.Compare"], unfollowed := true, recurses := true, plainKeys := false, apart := false, narrowed := true }
def AboveTellsUptoSaid : Prop := aboveTellsUptoRow.holds Tryz.pinned (OpenSpec.upto aboveTellsSpec)

/-- 'rolodexlaw14.AboveJoins', WHERE WHAT IT READS IS OF BULK AT MOST 1048576: true; the input reads as it did. -/
def aboveJoinsUptoRow : OpenClaim := { program := "ytmnngfcoenhhkaagreat", sum := "a793cc0ad22c7b3aeb2bb7d7b3fb61e4f468a86c124ee29aa9c8a9dc534d4c1e", func := "rolodex/rolodexlaw14.AboveJoins", spec := "aboveJoins", inPlace := ["internal/bytealg.Compare"], unfollowed := true, recurses := true, plainKeys := false, apart := false, narrowed := true }
def AboveJoinsUptoSaid : Prop := aboveJoinsUptoRow.holds Tryz.pinned (OpenSpec.upto aboveJoinsSpec)

/-- 'rolodexlaw14.AboveNone', WHERE WHAT IT READS IS OF BULK AT MOST 1048576: true; the input reads as it did. -/
def aboveNoneUptoRow : OpenClaim := { program := "ytmnngfcoenhhkaagreat", sum := "a793cc0ad22c7b3aeb2bb7d7b3fb61e4f468a86c124ee29aa9c8a9dc534d4c1e", func := "rolodex/rolodexlaw14.AboveNone", spec := "aboveNone", inPlace := ["internal/bytealg.Compare"], unfollowed := true, recurses := true, plainKeys := false, apart := false, narrowed := true }
def AboveNoneUptoSaid : Prop := aboveNoneUptoRow.holds Tryz.pinned (OpenSpec.upto aboveNoneSpec)

/-- 'rolodexlaw14.AboveStamp', WHERE WHAT IT READS IS OF BULK AT MOST 1048576: true; the input reads as it did. -/
def aboveStampUptoRow : OpenClaim := { program := "ytmnngfcoenhhkaagreat", sum := "a793cc0ad22c7b3aeb2bb7d7b3fb61e4f468a86c124ee29aa9c8a9dc534d4c1e", func := "rolodex/rolodexlaw14.AboveStamp", spec := "aboveStamp", inPlace := ["internal/bytealg.Compare"], unfollowed := true, recurses := true, plainKeys := false, apart := false, narrowed := true }
def AboveStampUptoSaid : Prop := aboveStampUptoRow.holds Tryz.pinned (OpenSpec.upto aboveStampSpec)

/-- 'rolodexlaw14.AboveAdds', WHERE WHAT IT READS IS OF BULK AT MOST 1048576: true; the input reads as it did. -/
def aboveAddsUptoRow : OpenClaim := { program := "ytmnngfcoenhhkaagreat", sum := "a793cc0ad22c7b3aeb2bb7d7b3fb61e4f468a86c124ee29aa9c8a9dc534d4c1e", func := "rolodex/rolodexlaw14.AboveAdds", spec := "aboveAdds", inPlace := ["internal/bytealg.Compare"], unfollowed := true, recurses := true, plainKeys := false, apart := false, narrowed := true }
def AboveAddsUptoSaid : Prop := aboveAddsUptoRow.holds Tryz.pinned (OpenSpec.upto aboveAddsSpec)

/-- 'rolodexlaw14.AboveLess', WHERE WHAT IT READS IS OF BULK AT MOST 1048576: true; the input reads as it did. -/
def aboveLessUptoRow : OpenClaim := { program := "ytmnngfcoenhhkaagreat", sum := "a793cc0ad22c7b3aeb2bb7d7b3fb61e4f468a86c124ee29aa9c8a9dc534d4c1e", func := "rolodex/rolodexlaw14.AboveLess", spec := "aboveLess", inPlace := ["internal/bytealg.Compare"], unfollowed := true, recurses := true, plainKeys := false, apart := false, narrowed := true }
def AboveLessUptoSaid : Prop := aboveLessUptoRow.holds Tryz.pinned (OpenSpec.upto aboveLessSpec)

end Rows
end Go.Proofs.YtmnngfcoenhhkaaGreat
