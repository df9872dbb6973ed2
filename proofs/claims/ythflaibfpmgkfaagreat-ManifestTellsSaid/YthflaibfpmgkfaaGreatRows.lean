/-
  No cell of these rows narrows 'for every input' (looked for: loops, veiled, ifaces, maps, wideKeys, modest, calm, conditions, laid).
  DERIVED. THE GIVEN ROWS OF THIS SEAT. 6 by the template 'for every input the law returns true; each argument reads behind the call as it read before'; 0 by the template 'total and deterministic' (their statements: YthflaibfpmgkfaaGreatTotals.lean).
  GIVEN WITH THE SEED: the statements are not yours to turn. If you find one false, say at which input.
  Laid BY PROGRAM, IN A SANDBOX (cutbox-rows.mjs): the forced cells as the released guide's own fill.sh prints them over the translation b442a3ff04ccd019… (all of the seat's roots in one cut). By AI agents, Wed Nov 11 2026. No macro, syntax, notation, axiom, sorry.
-/
import Derived.Test.YthflaibfpmgkfaaGreatChecked
import GoSem.Claim
import GoSem.ClaimJoined
import GoSem.ClaimMapViews
import Derived.JoinedTies
import Derived.KernelRfl
namespace Go.Proofs.YthflaibfpmgkfaaGreat
/- THE CELL 'sum', in the pinned program and in every row, IS THE sha256 OF THE DUMP (.gsa) THAT YthflaibfpmgkfaaGreatProg.lean LOADS. Nothing in Lean hashes anything: it is a label: what it is worth is what the hold of that sum in a sandbox is worth. -/
noncomputable def Tryz.pinned : Pinned := { name := "ythflaibfpmgkfaagreat", sum := "b442a3ff04ccd01936e1f8c72f0c366422ed90d677618b536de42d0700f74bbc", checked := Tryz.checked }
namespace Rows
def none {H : Type} : Left H := { results := [], args := [] }

/-- 'rolodexlaw12.ManifestTells': WHATEVER THE INPUT: true; the input reads as it did. -/
def manifestTellsSpec : ChangeSpec := { name := "manifestTells", fn := fun _ => fun
  | [d1, d2, d3] => { results := [.lit (.bool true)], args := [d1, d2, d3] }
  | _ => none }
def manifestTellsRow : OpenClaim := { program := "ythflaibfpmgkfaagreat", sum := "b442a3ff04ccd01936e1f8c72f0c366422ed90d677618b536de42d0700f74bbc", func := "rolodex/rolodexlaw12.ManifestTells", spec := "manifestTells", inPlace := ["internal/bytealg.Compare"], unfollowed := true, recurses := true, plainKeys := false, apart := false }
def ManifestTellsSaid : Prop := manifestTellsRow.holds Tryz.pinned (OpenSpec.ofChange manifestTellsSpec)

/-- ITS FALSE NEIGHBOUR: 'it returns false'. Refute it at one input. -/
def manifestTellsWrong : ChangeSpec := { name := "manifestTells", fn := fun _ => fun
  | [d1, d2, d3] => { results := [.lit (.bool false)], args := [d1, d2, d3] }
  | _ => none }
def ManifestTellsWrongFalsely : Prop := manifestTellsRow.holds Tryz.pinned (OpenSpec.ofChange manifestTellsWrong)

/-- 'rolodexlaw12.ManifestFinds': WHATEVER THE INPUT: true; the input reads as it did. -/
def manifestFindsSpec : ChangeSpec := { name := "manifestFinds", fn := fun _ => fun
  | [d1, d2, d3, d4, d5] => { results := [.lit (.bool true)], args := [d1, d2, d3, d4, d5] }
  | _ => none }
def manifestFindsRow : OpenClaim := { program := "ythflaibfpmgkfaagreat", sum := "b442a3ff04ccd01936e1f8c72f0c366422ed90d677618b536de42d0700f74bbc", func := "rolodex/rolodexlaw12.ManifestFinds", spec := "manifestFinds", inPlace := ["internal/bytealg.Compare"], unfollowed := true, recurses := true, plainKeys := false, apart := false }
def ManifestFindsSaid : Prop := manifestFindsRow.holds Tryz.pinned (OpenSpec.ofChange manifestFindsSpec)

/-- ITS FALSE NEIGHBOUR: 'it returns false'. Refute it at one input. -/
def manifestFindsWrong : ChangeSpec := { name := "manifestFinds", fn := fun _ => fun
  | [d1, d2, d3, d4, d5] => { results := [.lit (.bool false)], args := [d1, d2, d3, d4, d5] }
  | _ => none }
def ManifestFindsWrongFalsely : Prop := manifestFindsRow.holds Tryz.pinned (OpenSpec.ofChange manifestFindsWrong)

/-- 'rolodexlaw12.ManifestLike': WHATEVER THE INPUT: true; the input reads as it did. -/
def manifestLikeSpec : ChangeSpec := { name := "manifestLike", fn := fun _ => fun
  | [d1, d2, d3] => { results := [.lit (.bool true)], args := [d1, d2, d3] }
  | _ => none }
def manifestLikeRow : OpenClaim := { program := "ythflaibfpmgkfaagreat", sum := "b442a3ff04ccd01936e1f8c72f0c366422ed90d677618b536de42d0700f74bbc", func := "rolodex/rolodexlaw12.ManifestLike", spec := "manifestLike", inPlace := ["internal/bytealg.Compare"], unfollowed := true, recurses := true, plainKeys := false, apart := false }
def ManifestLikeSaid : Prop := manifestLikeRow.holds Tryz.pinned (OpenSpec.ofChange manifestLikeSpec)

/-- ITS FALSE NEIGHBOUR: 'it returns false'. Refute it at one input. -/
def manifestLikeWrong : ChangeSpec := { name := "manifestLike", fn := fun _ => fun
  | [d1, d2, d3] => { results := [.lit (.bool false)], args := [d1, d2, d3] }
  | _ => none }
def ManifestLikeWrongFalsely : Prop := manifestLikeRow.holds Tryz.pinned (OpenSpec.ofChange manifestLikeWrong)

/-- 'rolodexlaw12.ManifestFew': WHATEVER THE INPUT: true; the input reads as it did. -/
def manifestFewSpec : ChangeSpec := { name := "manifestFew", fn := fun _ => fun
  | [d] => { results := [.lit (.bool true)], args := [d] }
  | _ => none }
def manifestFewRow : OpenClaim := { program := "ythflaibfpmgkfaagreat", sum := "b442a3ff04ccd01936e1f8c72f0c366422ed90d677618b536de42d0700f74bbc", func := "rolodex/rolodexlaw12.ManifestFew", spec := "manifestFew", inPlace := ["internal/bytealg.Compare"], unfollowed := true, recurses := true, plainKeys := false, apart := false }
def ManifestFewSaid : Prop := manifestFewRow.holds Tryz.pinned (OpenSpec.ofChange manifestFewSpec)

/-- ITS FALSE NEIGHBOUR: 'it returns false'. Refute it at one input. -/
def manifestFewWrong : ChangeSpec := { name := "manifestFew", fn := fun _ => fun
  | [d] => { results := [.lit (.bool false)], args := [d] }
  | _ => none }
def ManifestFewWrongFalsely : Prop := manifestFewRow.holds Tryz.pinned (OpenSpec.ofChange manifestFewWrong)

/-- 'rolodexlaw12.ManifestSame': WHATEVER THE INPUT: true; the input reads as it did. -/
def manifestSameSpec : ChangeSpec := { name := "manifestSame", fn := fun _ => fun
  | [d1, d2] => { results := [.lit (.bool true)], args := [d1, d2] }
  | _ => none }
def manifestSameRow : OpenClaim := { program := "ythflaibfpmgkfaagreat", sum := "b442a3ff04ccd01936e1f8c72f0c366422ed90d677618b536de42d0700f74bbc", func := "rolodex/rolodexlaw12.ManifestSame", spec := "manifestSame", inPlace := ["internal/bytealg.Compare"], unfollowed := true, recurses := true, plainKeys := false, apart := false }
def ManifestSameSaid : Prop := manifestSameRow.holds Tryz.pinned (OpenSpec.ofChange manifestSameSpec)

/-- ITS FALSE NEIGHBOUR: 'it returns false'. Refute it at one input. -/
def manifestSameWrong : ChangeSpec := { name := "manifestSame", fn := fun _ => fun
  | [d1, d2] => { results := [.lit (.bool false)], args := [d1, d2] }
  | _ => none }
def ManifestSameWrongFalsely : Prop := manifestSameRow.holds Tryz.pinned (OpenSpec.ofChange manifestSameWrong)

/-- 'rolodexlaw12.ManifestKnows': WHATEVER THE INPUT: true; the input reads as it did. -/
def manifestKnowsSpec : ChangeSpec := { name := "manifestKnows", fn := fun _ => fun
  | [d1, d2, d3] => { results := [.lit (.bool true)], args := [d1, d2, d3] }
  | _ => none }
def manifestKnowsRow : OpenClaim := { program := "ythflaibfpmgkfaagreat", sum := "b442a3ff04ccd01936e1f8c72f0c366422ed90d677618b536de42d0700f74bbc", func := "rolodex/rolodexlaw12.ManifestKnows", spec := "manifestKnows", inPlace := ["internal/bytealg.Compare"], unfollowed := true, recurses := true, plainKeys := false, apart := false }
def ManifestKnowsSaid : Prop := manifestKnowsRow.holds Tryz.pinned (OpenSpec.ofChange manifestKnowsSpec)

/-- ITS FALSE NEIGHBOUR: 'it returns false'. Refute it at one input. -/
def manifestKnowsWrong : ChangeSpec := { name := "manifestKnows", fn := fun _ => fun
  | [d1, d2, d3] => { results := [.lit (.bool false)], args := [d1, d2, d3] }
  | _ => none }
def ManifestKnowsWrongFalsely : Prop := manifestKnowsRow.holds Tryz.pinned (OpenSpec.ofChange manifestKnowsWrong)

/- THE SECOND FORM. 'bulk': how many values and letters a reading holds, each counted each time it is reached (what is shared counts as often as it is met; a slice's spare places count too). A statement '..UptoSaid' is the law's where the arguments, and the package variables that the reading takes, are together of bulk at most 1048576: NARROWER than '..Said'. Prove '..Said' where nothing that the law and all that it calls make is longer than what came in: it says more and counts as full. Else prove '..UptoSaid'. A law counts once. -/
mutual
def uptoBulk {H : Type} : DataW H → Nat
  | .lit (.string bytes) => bytes.length + 1
  | .lit _ => 1
  | .nil => 1
  | .ptr d => uptoBulk d + 1
  | .slice elems spare => uptoBulkAll elems + uptoBulkAll spare + 1
  | .agg parts => uptoBulkAll parts + 1
  | .iface _ d => uptoBulk d + 1
  | .map entries => uptoBulkEntries entries + 1
  | .held _ => 1
def uptoBulkAll {H : Type} : List (DataW H) → Nat
  | [] => 0
  | d :: r => uptoBulk d + uptoBulkAll r
def uptoBulkEntries {H : Type} : List (Lit × DataW H) → Nat
  | [] => 0
  | x :: r => uptoBulkEntry x + uptoBulkEntries r
def uptoBulkEntry {H : Type} : Lit × DataW H → Nat
  | (.string bytes, d) => bytes.length + uptoBulk d + 1
  | (_, d) => uptoBulk d + 1
 end
def uptoSmall : (H : Type) → List (DataW H) → Bool := fun _ ds => decide (uptoBulkAll ds ≤ 1048576)
def OpenSpec.upto (s : _root_.Go.ChangeSpec) : _root_.Go.OpenSpec := { _root_.Go.OpenSpec.ofChange s with cond := some uptoSmall }

/-- 'rolodexlaw12.ManifestTells', WHERE WHAT IT READS IS OF BULK AT MOST 1048576: true; the input reads as it did. -/
def manifestTellsUptoRow : OpenClaim := { program := "ythflaibfpmgkfaagreat", sum := "b442a3ff04ccd01936e1f8c72f0c366422ed90d677618b536de42d0700f74bbc", func := "rolodex/rolodexlaw12.ManifestTells", spec := "manifestTells", inPlace := ["internal/bytealg.Compare"], unfollowed := true, recurses := true, plainKeys := false, apart := false, narrowed := true }
def ManifestTellsUptoSaid : Prop := manifestTellsUptoRow.holds Tryz.pinned (OpenSpec.upto manifestTellsSpec)

/-- 'rolodexlaw12.ManifestFinds', WHERE WHAT IT READS IS OF BULK AT MOST 1048576: true; the input reads as it did. -/
def manifestFindsUptoRow : OpenClaim := { program := "ythflaibfpmgkfaagreat", sum := "b442a3ff04ccd01936e1f8c72f0c366422ed90d677618b536de42d0700f74bbc", func := "rolodex/rolodexlaw12.ManifestFinds", spec := "manifestFinds", inPlace := ["internal/bytealg.Compare"], unfollowed := true, recurses := true, plainKeys := false, apart := false, narrowed := true }
def ManifestFindsUptoSaid : Prop := manifestFindsUptoRow.holds Tryz.pinned (OpenSpec.upto manifestFindsSpec)

/-- 'rolodexlaw12.ManifestLike', WHERE WHAT IT READS IS OF BULK AT MOST 1048576: true; the input reads as it did. -/
def manifestLikeUptoRow : OpenClaim := { program := "ythflaibfpmgkfaagreat", sum := "b442a3ff04ccd01936e1f8c72f0c366422ed90d677618b536de42d0700f74bbc", func := "rolodex/rolodexlaw12.ManifestLike", spec := "manifestLike", inPlace := ["internal/bytealg.Compare"], unfollowed := true, recurses := true, plainKeys := false, apart := false, narrowed := true }
def ManifestLikeUptoSaid : Prop := manifestLikeUptoRow.holds Tryz.pinned (OpenSpec.upto manifestLikeSpec)

/-- 'rolodexlaw12.ManifestFew', WHERE WHAT IT READS IS OF BULK AT MOST 1048576: true; the input reads as it did. -/
def manifestFewUptoRow : OpenClaim := { program := "ythflaibfpmgkfaagreat", sum := "b442a3ff04ccd01936e1f8c72f0c366422ed90d677618b536de42d0700f74bbc", func := "rolodex/rolodexlaw12.ManifestFew", spec := "manifestFew", inPlace := ["internal/bytealg.Compare"], unfollowed := true, recurses := true, plainKeys := false, apart := false, narrowed := true }
def ManifestFewUptoSaid : Prop := manifestFewUptoRow.holds Tryz.pinned (OpenSpec.upto manifestFewSpec)

/-- 'rolodexlaw12.ManifestSame', WHERE WHAT IT READS IS OF BULK AT MOST 1048576: true; the input reads as it did. -/
def manifestSameUptoRow : OpenClaim := { program := "ythflaibfpmgkfaagreat", sum := "b442a3ff04ccd01936e1f8c72f0c366422ed90d677618b536de42d0700f74bbc", func := "rolodex/rolodexlaw12.ManifestSame", spec := "manifestSame", inPlace := ["internal/bytealg.Compare"], unfollowed := true, recurses := true, plainKeys := false, apart := false, narrowed := true }
def ManifestSameUptoSaid : Prop := manifestSameUptoRow.holds Tryz.pinned (OpenSpec.upto manifestSameSpec)

/-- 'rolodexlaw12.ManifestKnows', WHERE WHAT IT READS IS OF BULK AT MOST 1048576: true; the input reads as it did. -/
def manifestKnowsUptoRow : OpenClaim := { program := "ythflaibfpmgkfaagreat", sum := "b442a3ff04ccd01936e1f8c72f0c366422ed90d677618b536de42d0700f74bbc", func := "rolodex/rolodexlaw12.ManifestKnows", spec := "manifestKnows", inPlace := ["internal/bytealg.Compare"], unfollowed := true, recurses := true, plainKeys := false, apart := false, narrowed := true }
def ManifestKnowsUptoSaid : Prop := manifestKnowsUptoRow.holds Tryz.pinned (OpenSpec.upto manifestKnowsSpec)

end Rows
end Go.Proofs.YthflaibfpmgkfaaGreat
