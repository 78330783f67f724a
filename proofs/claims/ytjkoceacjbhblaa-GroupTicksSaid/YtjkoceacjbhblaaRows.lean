/-
  No cell of these rows narrows 'for every input' (looked for: loops, veiled, ifaces, maps, wideKeys, modest, calm, conditions, laid).
  DERIVED. THE GIVEN ROWS OF THIS SEAT. 20 by the template 'for every input the law returns true; each argument reads behind the call as it read before'; 0 by the template 'total and deterministic' (their statements: YtjkoceacjbhblaaTotals.lean).
  GIVEN WITH THE SEED: the statements are not yours to turn. If you find one false, say at which input.
  Laid BY PROGRAM, IN A SANDBOX (cutbox-rows.mjs): the forced cells as the released guide's own fill.sh prints them over the translation b9e5e88834bf0fce… (all of the seat's roots in one cut). By AI agents, Wed Nov 11 2026. No macro, syntax, notation, axiom, sorry.
-/
import Derived.Test.YtjkoceacjbhblaaChecked
import GoSem.Claim
import GoSem.ClaimJoined
import GoSem.ClaimMapViews
import Derived.JoinedTies
import Derived.KernelRfl
namespace Go.Proofs.Ytjkoceacjbhblaa
/- THE CELL 'sum', in the pinned program and in every row, IS THE sha256 OF THE DUMP (.gsa) THAT YtjkoceacjbhblaaProg.lean LOADS. Nothing in Lean hashes anything: it is a label: what it is worth is what the hold of that sum in a sandbox is worth. -/
noncomputable def Try.pinned : Pinned := { name := "ytjkoceacjbhblaa", sum := "b9e5e88834bf0fce2066cd41c9f4b4954ac01fa48386a059d7924f680eafe237", checked := Try.checked }
namespace Rows
def none {H : Type} : Left H := { results := [], args := [] }

/-- 'tailracelaw.Names': WHATEVER THE INPUT: true; the input reads as it did. -/
def namesSpec : ChangeSpec := { name := "names", fn := fun _ => fun
  | [] => { results := [.lit (.bool true)], args := [] }
  | _ => none }
def namesRow : OpenClaim := { program := "ytjkoceacjbhblaa", sum := "b9e5e88834bf0fce2066cd41c9f4b4954ac01fa48386a059d7924f680eafe237", func := "tailrace/tailracelaw.Names", spec := "names", apart := false }
def NamesSaid : Prop := namesRow.holds Try.pinned (OpenSpec.ofChange namesSpec)

/-- ITS FALSE NEIGHBOUR: 'it returns false'. Refute it at one input. -/
def namesWrong : ChangeSpec := { name := "names", fn := fun _ => fun
  | [] => { results := [.lit (.bool false)], args := [] }
  | _ => none }
def NamesWrongFalsely : Prop := namesRow.holds Try.pinned (OpenSpec.ofChange namesWrong)

/-- 'tailracelaw.CoordNew': WHATEVER THE INPUT: true; the input reads as it did. -/
def coordNewSpec : ChangeSpec := { name := "coordNew", fn := fun _ => fun
  | [d] => { results := [.lit (.bool true)], args := [d] }
  | _ => none }
def coordNewRow : OpenClaim := { program := "ytjkoceacjbhblaa", sum := "b9e5e88834bf0fce2066cd41c9f4b4954ac01fa48386a059d7924f680eafe237", func := "tailrace/tailracelaw.CoordNew", spec := "coordNew", apart := false }
def CoordNewSaid : Prop := coordNewRow.holds Try.pinned (OpenSpec.ofChange coordNewSpec)

/-- ITS FALSE NEIGHBOUR: 'it returns false'. Refute it at one input. -/
def coordNewWrong : ChangeSpec := { name := "coordNew", fn := fun _ => fun
  | [d] => { results := [.lit (.bool false)], args := [d] }
  | _ => none }
def CoordNewWrongFalsely : Prop := coordNewRow.holds Try.pinned (OpenSpec.ofChange coordNewWrong)

/-- 'tailracelaw.GroupNew': WHATEVER THE INPUT: true; the input reads as it did. -/
def groupNewSpec : ChangeSpec := { name := "groupNew", fn := fun _ => fun
  | [d] => { results := [.lit (.bool true)], args := [d] }
  | _ => none }
def groupNewRow : OpenClaim := { program := "ytjkoceacjbhblaa", sum := "b9e5e88834bf0fce2066cd41c9f4b4954ac01fa48386a059d7924f680eafe237", func := "tailrace/tailracelaw.GroupNew", spec := "groupNew", apart := false }
def GroupNewSaid : Prop := groupNewRow.holds Try.pinned (OpenSpec.ofChange groupNewSpec)

/-- ITS FALSE NEIGHBOUR: 'it returns false'. Refute it at one input. -/
def groupNewWrong : ChangeSpec := { name := "groupNew", fn := fun _ => fun
  | [d] => { results := [.lit (.bool false)], args := [d] }
  | _ => none }
def GroupNewWrongFalsely : Prop := groupNewRow.holds Try.pinned (OpenSpec.ofChange groupNewWrong)

/-- 'tailracelaw.CoordCopies': WHATEVER THE INPUT: true; the input reads as it did. -/
def coordCopiesSpec : ChangeSpec := { name := "coordCopies", fn := fun _ => fun
  | [d] => { results := [.lit (.bool true)], args := [d] }
  | _ => none }
def coordCopiesRow : OpenClaim := { program := "ytjkoceacjbhblaa", sum := "b9e5e88834bf0fce2066cd41c9f4b4954ac01fa48386a059d7924f680eafe237", func := "tailrace/tailracelaw.CoordCopies", spec := "coordCopies", apart := false }
def CoordCopiesSaid : Prop := coordCopiesRow.holds Try.pinned (OpenSpec.ofChange coordCopiesSpec)

/-- ITS FALSE NEIGHBOUR: 'it returns false'. Refute it at one input. -/
def coordCopiesWrong : ChangeSpec := { name := "coordCopies", fn := fun _ => fun
  | [d] => { results := [.lit (.bool false)], args := [d] }
  | _ => none }
def CoordCopiesWrongFalsely : Prop := coordCopiesRow.holds Try.pinned (OpenSpec.ofChange coordCopiesWrong)

/-- 'tailracelaw.GroupCopies': WHATEVER THE INPUT: true; the input reads as it did. -/
def groupCopiesSpec : ChangeSpec := { name := "groupCopies", fn := fun _ => fun
  | [d] => { results := [.lit (.bool true)], args := [d] }
  | _ => none }
def groupCopiesRow : OpenClaim := { program := "ytjkoceacjbhblaa", sum := "b9e5e88834bf0fce2066cd41c9f4b4954ac01fa48386a059d7924f680eafe237", func := "tailrace/tailracelaw.GroupCopies", spec := "groupCopies", apart := false }
def GroupCopiesSaid : Prop := groupCopiesRow.holds Try.pinned (OpenSpec.ofChange groupCopiesSpec)

/-- ITS FALSE NEIGHBOUR: 'it returns false'. Refute it at one input. -/
def groupCopiesWrong : ChangeSpec := { name := "groupCopies", fn := fun _ => fun
  | [d] => { results := [.lit (.bool false)], args := [d] }
  | _ => none }
def GroupCopiesWrongFalsely : Prop := groupCopiesRow.holds Try.pinned (OpenSpec.ofChange groupCopiesWrong)

/-- 'tailracelaw.GroupChecks': WHATEVER THE INPUT: true; the input reads as it did. -/
def groupChecksSpec : ChangeSpec := { name := "groupChecks", fn := fun _ => fun
  | [d] => { results := [.lit (.bool true)], args := [d] }
  | _ => none }
def groupChecksRow : OpenClaim := { program := "ytjkoceacjbhblaa", sum := "b9e5e88834bf0fce2066cd41c9f4b4954ac01fa48386a059d7924f680eafe237", func := "tailrace/tailracelaw.GroupChecks", spec := "groupChecks", unfollowed := true, recurses := true, apart := false }
def GroupChecksSaid : Prop := groupChecksRow.holds Try.pinned (OpenSpec.ofChange groupChecksSpec)

/-- ITS FALSE NEIGHBOUR: 'it returns false'. Refute it at one input. -/
def groupChecksWrong : ChangeSpec := { name := "groupChecks", fn := fun _ => fun
  | [d] => { results := [.lit (.bool false)], args := [d] }
  | _ => none }
def GroupChecksWrongFalsely : Prop := groupChecksRow.holds Try.pinned (OpenSpec.ofChange groupChecksWrong)

/-- 'tailracelaw.CoordChecks': WHATEVER THE INPUT: true; the input reads as it did. -/
def coordChecksSpec : ChangeSpec := { name := "coordChecks", fn := fun _ => fun
  | [d] => { results := [.lit (.bool true)], args := [d] }
  | _ => none }
def coordChecksRow : OpenClaim := { program := "ytjkoceacjbhblaa", sum := "b9e5e88834bf0fce2066cd41c9f4b4954ac01fa48386a059d7924f680eafe237", func := "tailrace/tailracelaw.CoordChecks", spec := "coordChecks", unfollowed := true, recurses := true, apart := false }
def CoordChecksSaid : Prop := coordChecksRow.holds Try.pinned (OpenSpec.ofChange coordChecksSpec)

/-- ITS FALSE NEIGHBOUR: 'it returns false'. Refute it at one input. -/
def coordChecksWrong : ChangeSpec := { name := "coordChecks", fn := fun _ => fun
  | [d] => { results := [.lit (.bool false)], args := [d] }
  | _ => none }
def CoordChecksWrongFalsely : Prop := coordChecksRow.holds Try.pinned (OpenSpec.ofChange coordChecksWrong)

/-- 'tailracelaw.CoordNext': WHATEVER THE INPUT: true; the input reads as it did. -/
def coordNextSpec : ChangeSpec := { name := "coordNext", fn := fun _ => fun
  | [d1, d2] => { results := [.lit (.bool true)], args := [d1, d2] }
  | _ => none }
def coordNextRow : OpenClaim := { program := "ytjkoceacjbhblaa", sum := "b9e5e88834bf0fce2066cd41c9f4b4954ac01fa48386a059d7924f680eafe237", func := "tailrace/tailracelaw.CoordNext", spec := "coordNext", unfollowed := true, recurses := true, apart := false }
def CoordNextSaid : Prop := coordNextRow.holds Try.pinned (OpenSpec.ofChange coordNextSpec)

/-- ITS FALSE NEIGHBOUR: 'it returns false'. Refute it at one input. -/
def coordNextWrong : ChangeSpec := { name := "coordNext", fn := fun _ => fun
  | [d1, d2] => { results := [.lit (.bool false)], args := [d1, d2] }
  | _ => none }
def CoordNextWrongFalsely : Prop := coordNextRow.holds Try.pinned (OpenSpec.ofChange coordNextWrong)

/-- 'tailracelaw.CoordTicks': WHATEVER THE INPUT: true; the input reads as it did. -/
def coordTicksSpec : ChangeSpec := { name := "coordTicks", fn := fun _ => fun
  | [d1, d2] => { results := [.lit (.bool true)], args := [d1, d2] }
  | _ => none }
def coordTicksRow : OpenClaim := { program := "ytjkoceacjbhblaa", sum := "b9e5e88834bf0fce2066cd41c9f4b4954ac01fa48386a059d7924f680eafe237", func := "tailrace/tailracelaw.CoordTicks", spec := "coordTicks", unfollowed := true, recurses := true, apart := false }
def CoordTicksSaid : Prop := coordTicksRow.holds Try.pinned (OpenSpec.ofChange coordTicksSpec)

/-- ITS FALSE NEIGHBOUR: 'it returns false'. Refute it at one input. -/
def coordTicksWrong : ChangeSpec := { name := "coordTicks", fn := fun _ => fun
  | [d1, d2] => { results := [.lit (.bool false)], args := [d1, d2] }
  | _ => none }
def CoordTicksWrongFalsely : Prop := coordTicksRow.holds Try.pinned (OpenSpec.ofChange coordTicksWrong)

/-- 'tailracelaw.GroupBeats': WHATEVER THE INPUT: true; the input reads as it did. -/
def groupBeatsSpec : ChangeSpec := { name := "groupBeats", fn := fun _ => fun
  | [d1, d2, d3] => { results := [.lit (.bool true)], args := [d1, d2, d3] }
  | _ => none }
def groupBeatsRow : OpenClaim := { program := "ytjkoceacjbhblaa", sum := "b9e5e88834bf0fce2066cd41c9f4b4954ac01fa48386a059d7924f680eafe237", func := "tailrace/tailracelaw.GroupBeats", spec := "groupBeats", unfollowed := true, recurses := true, apart := false }
def GroupBeatsSaid : Prop := groupBeatsRow.holds Try.pinned (OpenSpec.ofChange groupBeatsSpec)

/-- ITS FALSE NEIGHBOUR: 'it returns false'. Refute it at one input. -/
def groupBeatsWrong : ChangeSpec := { name := "groupBeats", fn := fun _ => fun
  | [d1, d2, d3] => { results := [.lit (.bool false)], args := [d1, d2, d3] }
  | _ => none }
def GroupBeatsWrongFalsely : Prop := groupBeatsRow.holds Try.pinned (OpenSpec.ofChange groupBeatsWrong)

/-- 'tailracelaw.CoordInits': WHATEVER THE INPUT: true; the input reads as it did. -/
def coordInitsSpec : ChangeSpec := { name := "coordInits", fn := fun _ => fun
  | [d1, d2] => { results := [.lit (.bool true)], args := [d1, d2] }
  | _ => none }
def coordInitsRow : OpenClaim := { program := "ytjkoceacjbhblaa", sum := "b9e5e88834bf0fce2066cd41c9f4b4954ac01fa48386a059d7924f680eafe237", func := "tailrace/tailracelaw.CoordInits", spec := "coordInits", unfollowed := true, recurses := true, apart := false }
def CoordInitsSaid : Prop := coordInitsRow.holds Try.pinned (OpenSpec.ofChange coordInitsSpec)

/-- ITS FALSE NEIGHBOUR: 'it returns false'. Refute it at one input. -/
def coordInitsWrong : ChangeSpec := { name := "coordInits", fn := fun _ => fun
  | [d1, d2] => { results := [.lit (.bool false)], args := [d1, d2] }
  | _ => none }
def CoordInitsWrongFalsely : Prop := coordInitsRow.holds Try.pinned (OpenSpec.ofChange coordInitsWrong)

/-- 'tailracelaw.GroupWhere': WHATEVER THE INPUT: true; the input reads as it did. -/
def groupWhereSpec : ChangeSpec := { name := "groupWhere", fn := fun _ => fun
  | [d1, d2, d3] => { results := [.lit (.bool true)], args := [d1, d2, d3] }
  | _ => none }
def groupWhereRow : OpenClaim := { program := "ytjkoceacjbhblaa", sum := "b9e5e88834bf0fce2066cd41c9f4b4954ac01fa48386a059d7924f680eafe237", func := "tailrace/tailracelaw.GroupWhere", spec := "groupWhere", unfollowed := true, recurses := true, apart := false }
def GroupWhereSaid : Prop := groupWhereRow.holds Try.pinned (OpenSpec.ofChange groupWhereSpec)

/-- ITS FALSE NEIGHBOUR: 'it returns false'. Refute it at one input. -/
def groupWhereWrong : ChangeSpec := { name := "groupWhere", fn := fun _ => fun
  | [d1, d2, d3] => { results := [.lit (.bool false)], args := [d1, d2, d3] }
  | _ => none }
def GroupWhereWrongFalsely : Prop := groupWhereRow.holds Try.pinned (OpenSpec.ofChange groupWhereWrong)

/-- 'tailracelaw.CoordEnds': WHATEVER THE INPUT: true; the input reads as it did. -/
def coordEndsSpec : ChangeSpec := { name := "coordEnds", fn := fun _ => fun
  | [d1, d2, d3, d4] => { results := [.lit (.bool true)], args := [d1, d2, d3, d4] }
  | _ => none }
def coordEndsRow : OpenClaim := { program := "ytjkoceacjbhblaa", sum := "b9e5e88834bf0fce2066cd41c9f4b4954ac01fa48386a059d7924f680eafe237", func := "tailrace/tailracelaw.CoordEnds", spec := "coordEnds", unfollowed := true, recurses := true, apart := false }
def CoordEndsSaid : Prop := coordEndsRow.holds Try.pinned (OpenSpec.ofChange coordEndsSpec)

/-- ITS FALSE NEIGHBOUR: 'it returns false'. Refute it at one input. -/
def coordEndsWrong : ChangeSpec := { name := "coordEnds", fn := fun _ => fun
  | [d1, d2, d3, d4] => { results := [.lit (.bool false)], args := [d1, d2, d3, d4] }
  | _ => none }
def CoordEndsWrongFalsely : Prop := coordEndsRow.holds Try.pinned (OpenSpec.ofChange coordEndsWrong)

/-- 'tailracelaw.CoordDone': WHATEVER THE INPUT: true; the input reads as it did. -/
def coordDoneSpec : ChangeSpec := { name := "coordDone", fn := fun _ => fun
  | [d1, d2, d3] => { results := [.lit (.bool true)], args := [d1, d2, d3] }
  | _ => none }
def coordDoneRow : OpenClaim := { program := "ytjkoceacjbhblaa", sum := "b9e5e88834bf0fce2066cd41c9f4b4954ac01fa48386a059d7924f680eafe237", func := "tailrace/tailracelaw.CoordDone", spec := "coordDone", unfollowed := true, recurses := true, apart := false }
def CoordDoneSaid : Prop := coordDoneRow.holds Try.pinned (OpenSpec.ofChange coordDoneSpec)

/-- ITS FALSE NEIGHBOUR: 'it returns false'. Refute it at one input. -/
def coordDoneWrong : ChangeSpec := { name := "coordDone", fn := fun _ => fun
  | [d1, d2, d3] => { results := [.lit (.bool false)], args := [d1, d2, d3] }
  | _ => none }
def CoordDoneWrongFalsely : Prop := coordDoneRow.holds Try.pinned (OpenSpec.ofChange coordDoneWrong)

/-- 'tailracelaw.GroupAssigns': WHATEVER THE INPUT: true; the input reads as it did. -/
def groupAssignsSpec : ChangeSpec := { name := "groupAssigns", fn := fun _ => fun
  | [d1, d2] => { results := [.lit (.bool true)], args := [d1, d2] }
  | _ => none }
def groupAssignsRow : OpenClaim := { program := "ytjkoceacjbhblaa", sum := "b9e5e88834bf0fce2066cd41c9f4b4954ac01fa48386a059d7924f680eafe237", func := "tailrace/tailracelaw.GroupAssigns", spec := "groupAssigns", unfollowed := true, recurses := true, apart := false }
def GroupAssignsSaid : Prop := groupAssignsRow.holds Try.pinned (OpenSpec.ofChange groupAssignsSpec)

/-- ITS FALSE NEIGHBOUR: 'it returns false'. Refute it at one input. -/
def groupAssignsWrong : ChangeSpec := { name := "groupAssigns", fn := fun _ => fun
  | [d1, d2] => { results := [.lit (.bool false)], args := [d1, d2] }
  | _ => none }
def GroupAssignsWrongFalsely : Prop := groupAssignsRow.holds Try.pinned (OpenSpec.ofChange groupAssignsWrong)

/-- 'tailracelaw.GroupStores': WHATEVER THE INPUT: true; the input reads as it did. -/
def groupStoresSpec : ChangeSpec := { name := "groupStores", fn := fun _ => fun
  | [d1, d2, d3, d4, d5] => { results := [.lit (.bool true)], args := [d1, d2, d3, d4, d5] }
  | _ => none }
def groupStoresRow : OpenClaim := { program := "ytjkoceacjbhblaa", sum := "b9e5e88834bf0fce2066cd41c9f4b4954ac01fa48386a059d7924f680eafe237", func := "tailrace/tailracelaw.GroupStores", spec := "groupStores", inPlace := ["slices.overlaps[tailrace/api.Offset]"], unfollowed := true, recurses := true, apart := false }
def GroupStoresSaid : Prop := groupStoresRow.holds Try.pinned (OpenSpec.ofChange groupStoresSpec)

/-- ITS FALSE NEIGHBOUR: 'it returns false'. Refute it at one input. -/
def groupStoresWrong : ChangeSpec := { name := "groupStores", fn := fun _ => fun
  | [d1, d2, d3, d4, d5] => { results := [.lit (.bool false)], args := [d1, d2, d3, d4, d5] }
  | _ => none }
def GroupStoresWrongFalsely : Prop := groupStoresRow.holds Try.pinned (OpenSpec.ofChange groupStoresWrong)

/-- 'tailracelaw.CoordAdds': WHATEVER THE INPUT: true; the input reads as it did. -/
def coordAddsSpec : ChangeSpec := { name := "coordAdds", fn := fun _ => fun
  | [d1, d2, d3, d4] => { results := [.lit (.bool true)], args := [d1, d2, d3, d4] }
  | _ => none }
def coordAddsRow : OpenClaim := { program := "ytjkoceacjbhblaa", sum := "b9e5e88834bf0fce2066cd41c9f4b4954ac01fa48386a059d7924f680eafe237", func := "tailrace/tailracelaw.CoordAdds", spec := "coordAdds", inPlace := ["slices.overlaps[int]"], unfollowed := true, recurses := true, apart := false }
def CoordAddsSaid : Prop := coordAddsRow.holds Try.pinned (OpenSpec.ofChange coordAddsSpec)

/-- ITS FALSE NEIGHBOUR: 'it returns false'. Refute it at one input. -/
def coordAddsWrong : ChangeSpec := { name := "coordAdds", fn := fun _ => fun
  | [d1, d2, d3, d4] => { results := [.lit (.bool false)], args := [d1, d2, d3, d4] }
  | _ => none }
def CoordAddsWrongFalsely : Prop := coordAddsRow.holds Try.pinned (OpenSpec.ofChange coordAddsWrong)

/-- 'tailracelaw.GroupJoins': WHATEVER THE INPUT: true; the input reads as it did. -/
def groupJoinsSpec : ChangeSpec := { name := "groupJoins", fn := fun _ => fun
  | [d1, d2, d3] => { results := [.lit (.bool true)], args := [d1, d2, d3] }
  | _ => none }
def groupJoinsRow : OpenClaim := { program := "ytjkoceacjbhblaa", sum := "b9e5e88834bf0fce2066cd41c9f4b4954ac01fa48386a059d7924f680eafe237", func := "tailrace/tailracelaw.GroupJoins", spec := "groupJoins", unfollowed := true, recurses := true, apart := false }
def GroupJoinsSaid : Prop := groupJoinsRow.holds Try.pinned (OpenSpec.ofChange groupJoinsSpec)

/-- ITS FALSE NEIGHBOUR: 'it returns false'. Refute it at one input. -/
def groupJoinsWrong : ChangeSpec := { name := "groupJoins", fn := fun _ => fun
  | [d1, d2, d3] => { results := [.lit (.bool false)], args := [d1, d2, d3] }
  | _ => none }
def GroupJoinsWrongFalsely : Prop := groupJoinsRow.holds Try.pinned (OpenSpec.ofChange groupJoinsWrong)

/-- 'tailracelaw.GroupTicks': WHATEVER THE INPUT: true; the input reads as it did. -/
def groupTicksSpec : ChangeSpec := { name := "groupTicks", fn := fun _ => fun
  | [d1, d2, d3] => { results := [.lit (.bool true)], args := [d1, d2, d3] }
  | _ => none }
def groupTicksRow : OpenClaim := { program := "ytjkoceacjbhblaa", sum := "b9e5e88834bf0fce2066cd41c9f4b4954ac01fa48386a059d7924f680eafe237", func := "tailrace/tailracelaw.GroupTicks", spec := "groupTicks", unfollowed := true, recurses := true, apart := false }
def GroupTicksSaid : Prop := groupTicksRow.holds Try.pinned (OpenSpec.ofChange groupTicksSpec)

/-- ITS FALSE NEIGHBOUR: 'it returns false'. Refute it at one input. -/
def groupTicksWrong : ChangeSpec := { name := "groupTicks", fn := fun _ => fun
  | [d1, d2, d3] => { results := [.lit (.bool false)], args := [d1, d2, d3] }
  | _ => none }
def GroupTicksWrongFalsely : Prop := groupTicksRow.holds Try.pinned (OpenSpec.ofChange groupTicksWrong)

/-- 'tailracelaw.GroupLeaves': WHATEVER THE INPUT: true; the input reads as it did. -/
def groupLeavesSpec : ChangeSpec := { name := "groupLeaves", fn := fun _ => fun
  | [d1, d2, d3] => { results := [.lit (.bool true)], args := [d1, d2, d3] }
  | _ => none }
def groupLeavesRow : OpenClaim := { program := "ytjkoceacjbhblaa", sum := "b9e5e88834bf0fce2066cd41c9f4b4954ac01fa48386a059d7924f680eafe237", func := "tailrace/tailracelaw.GroupLeaves", spec := "groupLeaves", unfollowed := true, recurses := true, apart := false }
def GroupLeavesSaid : Prop := groupLeavesRow.holds Try.pinned (OpenSpec.ofChange groupLeavesSpec)

/-- ITS FALSE NEIGHBOUR: 'it returns false'. Refute it at one input. -/
def groupLeavesWrong : ChangeSpec := { name := "groupLeaves", fn := fun _ => fun
  | [d1, d2, d3] => { results := [.lit (.bool false)], args := [d1, d2, d3] }
  | _ => none }
def GroupLeavesWrongFalsely : Prop := groupLeavesRow.holds Try.pinned (OpenSpec.ofChange groupLeavesWrong)

/- THE SECOND FORM. 'bulk': how many values and letters a reading holds, each counted each time it is reached (what is shared counts as often as it is met; a slice's spare places count too). A statement '..UptoSaid' is the law's where the arguments, and the package variables that the reading takes, are together of bulk at most 1048576: NARROWER than '..Said'. Prove '..Said' where nothing that the law and all that it calls make is longer than what came in: it says more and counts as full. Else prove '..UptoSaid'. A law counts once. -/
mutual
def uptoBulk {H : Type} : DataW H → Nat
  | .lit (.string bytes) => bytes.length + 1
  | .lit _ => 1
  | .nil => 1
  | .ptr d => uptoBulk d + 1
  | .slice elems spare => uptoBulkAll elems + uptoBulkAll spare + 1
  | .agg parts => uptoBulkAll parts + 1
  | .iface _ d => uptoBulk d + 1
  | .map entries => uptoBulkEntries entries + 1
  | .held _ => 1
def uptoBulkAll {H : Type} : List (DataW H) → Nat
  | [] => 0
  | d :: r => uptoBulk d + uptoBulkAll r
def uptoBulkEntries {H : Type} : List (Lit × DataW H) → Nat
  | [] => 0
  | x :: r => uptoBulkEntry x + uptoBulkEntries r
def uptoBulkEntry {H : Type} : Lit × DataW H → Nat
  | (.string bytes, d) => bytes.length + uptoBulk d + 1
  | (_, d) => uptoBulk d + 1
 end
def uptoSmall : (H : Type) → List (DataW H) → Bool := fun _ ds => decide (uptoBulkAll ds ≤ 1048576)
def OpenSpec.upto (s : _root_.Go.ChangeSpec) : _root_.Go.OpenSpec := { _root_.Go.OpenSpec.ofChange s with cond := some uptoSmall }

/-- 'tailracelaw.Names', WHERE WHAT IT READS IS OF BULK AT MOST 1048576: true; the input reads as it did. -/
def namesUptoRow : OpenClaim := { program := "ytjkoceacjbhblaa", sum := "b9e5e88834bf0fce2066cd41c9f4b4954ac01fa48386a059d7924f680eafe237", func := "tailrace/tailracelaw.Names", spec := "names", apart := false, narrowed := true }
def NamesUptoSaid : Prop := namesUptoRow.holds Try.pinned (OpenSpec.upto namesSpec)

/-- 'tailracelaw.CoordNew', WHERE WHAT IT READS IS OF BULK AT MOST 1048576: true; the input reads as it did. -/
def coordNewUptoRow : OpenClaim := { program := "ytjkoceacjbhblaa", sum := "b9e5e88834bf0fce2066cd41c9f4b4954ac01fa48386a059d7924f680eafe237", func := "tailrace/tailracelaw.CoordNew", spec := "coordNew", apart := false, narrowed := true }
def CoordNewUptoSaid : Prop := coordNewUptoRow.holds Try.pinned (OpenSpec.upto coordNewSpec)

/-- 'tailracelaw.GroupNew', WHERE WHAT IT READS IS OF BULK AT MOST 1048576: true; the input reads as it did. -/
def groupNewUptoRow : OpenClaim := { program := "ytjkoceacjbhblaa", sum := "b9e5e88834bf0fce2066cd41c9f4b4954ac01fa48386a059d7924f680eafe237", func := "tailrace/tailracelaw.GroupNew", spec := "groupNew", apart := false, narrowed := true }
def GroupNewUptoSaid : Prop := groupNewUptoRow.holds Try.pinned (OpenSpec.upto groupNewSpec)

/-- 'tailracelaw.CoordCopies', WHERE WHAT IT READS IS OF BULK AT MOST 1048576: true; the input reads as it did. -/
def coordCopiesUptoRow : OpenClaim := { program := "ytjkoceacjbhblaa", sum := "b9e5e88834bf0fce2066cd41c9f4b4954ac01fa48386a059d7924f680eafe237", func := "tailrace/tailracelaw.CoordCopies", spec := "coordCopies", apart := false, narrowed := true }
def CoordCopiesUptoSaid : Prop := coordCopiesUptoRow.holds Try.pinned (OpenSpec.upto coordCopiesSpec)

/-- 'tailracelaw.GroupCopies', WHERE WHAT IT READS IS OF BULK AT MOST 1048576: true; the input reads as it did. -/
def groupCopiesUptoRow : OpenClaim := { program := "ytjkoceacjbhblaa", sum := "b9e5e88834bf0fce2066cd41c9f4b4954ac01fa48386a059d7924f680eafe237", func := "tailrace/tailracelaw.GroupCopies", spec := "groupCopies", apart := false, narrowed := true }
def GroupCopiesUptoSaid : Prop := groupCopiesUptoRow.holds Try.pinned (OpenSpec.upto groupCopiesSpec)

/-- 'tailracelaw.GroupChecks', WHERE WHAT IT READS IS OF BULK AT MOST 1048576: true; the input reads as it did. -/
def groupChecksUptoRow : OpenClaim := { program := "ytjkoceacjbhblaa", sum := "b9e5e88834bf0fce2066cd41c9f4b4954ac01fa48386a059d7924f680eafe237", func := "tailrace/tailracelaw.GroupChecks", spec := "groupChecks", unfollowed := true, recurses := true, apart := false, narrowed := true }
def GroupChecksUptoSaid : Prop := groupChecksUptoRow.holds Try.pinned (OpenSpec.upto groupChecksSpec)

/-- 'tailracelaw.CoordChecks', WHERE WHAT IT READS IS OF BULK AT MOST 1048576: true; the input reads as it did. -/
def coordChecksUptoRow : OpenClaim := { program := "ytjkoceacjbhblaa", sum := "b9e5e88834bf0fce2066cd41c9f4b4954ac01fa48386a059d7924f680eafe237", func := "tailrace/tailracelaw.CoordChecks", spec := "coordChecks", unfollowed := true, recurses := true, apart := false, narrowed := true }
def CoordChecksUptoSaid : Prop := coordChecksUptoRow.holds Try.pinned (OpenSpec.upto coordChecksSpec)

/-- 'tailracelaw.CoordNext', WHERE WHAT IT READS IS OF BULK AT MOST 1048576: true; the input reads as it did. -/
def coordNextUptoRow : OpenClaim := { program := "ytjkoceacjbhblaa", sum := "b9e5e88834bf0fce2066cd41c9f4b4954ac01fa48386a059d7924f680eafe237", func := "tailrace/tailracelaw.CoordNext", spec := "coordNext", unfollowed := true, recurses := true, apart := false, narrowed := true }
def CoordNextUptoSaid : Prop := coordNextUptoRow.holds Try.pinned (OpenSpec.upto coordNextSpec)

/-- 'tailracelaw.CoordTicks', WHERE WHAT IT READS IS OF BULK AT MOST 1048576: true; the input reads as it did. -/
def coordTicksUptoRow : OpenClaim := { program := "ytjkoceacjbhblaa", sum := "b9e5e88834bf0fce2066cd41c9f4b4954ac01fa48386a059d7924f680eafe237", func := "tailrace/tailracelaw.CoordTicks", spec := "coordTicks", unfollowed := true, recurses := true, apart := false, narrowed := true }
def CoordTicksUptoSaid : Prop := coordTicksUptoRow.holds Try.pinned (OpenSpec.upto coordTicksSpec)

/-- 'tailracelaw.GroupBeats', WHERE WHAT IT READS IS OF BULK AT MOST 1048576: true; the input reads as it did. -/
def groupBeatsUptoRow : OpenClaim := { program := "ytjkoceacjbhblaa", sum := "b9e5e88834bf0fce2066cd41c9f4b4954ac01fa48386a059d7924f680eafe237", func := "tailrace/tailracelaw.GroupBeats", spec := "groupBeats", unfollowed := true, recurses := true, apart := false, narrowed := true }
def GroupBeatsUptoSaid : Prop := groupBeatsUptoRow.holds Try.pinned (OpenSpec.upto groupBeatsSpec)

/-- 'tailracelaw.CoordInits', WHERE WHAT IT READS IS OF BULK AT MOST 1048576: true; the input reads as it did. -/
def coordInitsUptoRow : OpenClaim := { program := "ytjkoceacjbhblaa", sum := "b9e5e88834bf0fce2066cd41c9f4b4954ac01fa48386a059d7924f680eafe237", func := "tailrace/tailracelaw.CoordInits", spec := "coordInits", unfollowed := true, recurses := true, apart := false, narrowed := true }
def CoordInitsUptoSaid : Prop := coordInitsUptoRow.holds Try.pinned (OpenSpec.upto coordInitsSpec)

/-- 'tailracelaw.GroupWhere', WHERE WHAT IT READS IS OF BULK AT MOST 1048576: true; the input reads as it did. -/
def groupWhereUptoRow : OpenClaim := { program := "ytjkoceacjbhblaa", sum := "b9e5e88834bf0fce2066cd41c9f4b4954ac01fa48386a059d7924f680eafe237", func := "tailrace/tailracelaw.GroupWhere", spec := "groupWhere", unfollowed := true, recurses := true, apart := false, narrowed := true }
def GroupWhereUptoSaid : Prop := groupWhereUptoRow.holds Try.pinned (OpenSpec.upto groupWhereSpec)

/-- 'tailracelaw.CoordEnds', WHERE WHAT IT READS IS OF BULK AT MOST 1048576: true; the input reads as it did. -/
def coordEndsUptoRow : OpenClaim := { program := "ytjkoceacjbhblaa", sum := "b9e5e88834bf0fce2066cd41c9f4b4954ac01fa48386a059d7924f680eafe237", func := "tailrace/tailracelaw.CoordEnds", spec := "coordEnds", unfollowed := true, recurses := true, apart := false, narrowed := true }
def CoordEndsUptoSaid : Prop := coordEndsUptoRow.holds Try.pinned (OpenSpec.upto coordEndsSpec)

/-- 'tailracelaw.CoordDone', WHERE WHAT IT READS IS OF BULK AT MOST 1048576: true; the input reads as it did. -/
def coordDoneUptoRow : OpenClaim := { program := "ytjkoceacjbhblaa", sum := "b9e5e88834bf0fce2066cd41c9f4b4954ac01fa48386a059d7924f680eafe237", func := "tailrace/tailracelaw.CoordDone", spec := "coordDone", unfollowed := true, recurses := true, apart := false, narrowed := true }
def CoordDoneUptoSaid : Prop := coordDoneUptoRow.holds Try.pinned (OpenSpec.upto coordDoneSpec)

/-- 'tailracelaw.GroupAssigns', WHERE WHAT IT READS IS OF BULK AT MOST 1048576: true; the input reads as it did. -/
def groupAssignsUptoRow : OpenClaim := { program := "ytjkoceacjbhblaa", sum := "b9e5e88834bf0fce2066cd41c9f4b4954ac01fa48386a059d7924f680eafe237", func := "tailrace/tailracelaw.GroupAssigns", spec := "groupAssigns", unfollowed := true, recurses := true, apart := false, narrowed := true }
def GroupAssignsUptoSaid : Prop := groupAssignsUptoRow.holds Try.pinned (OpenSpec.upto groupAssignsSpec)

/-- 'tailracelaw.GroupStores', WHERE WHAT IT READS IS OF BULK AT MOST 1048576: true; the input reads as it did. -/
def groupStoresUptoRow : OpenClaim := { program := "ytjkoceacjbhblaa", sum := "b9e5e88834bf0fce2066cd41c9f4b4954ac01fa48386a059d7924f680eafe237", func := "tailrace/tailracelaw.GroupStores", spec := "groupStores", inPlace := ["slices.overlaps[tailrace/api.Offset]"], unfollowed := true, recurses := true, apart := false, narrowed := true }
def GroupStoresUptoSaid : Prop := groupStoresUptoRow.holds Try.pinned (OpenSpec.upto groupStoresSpec)

/-- 'tailracelaw.CoordAdds', WHERE WHAT IT READS IS OF BULK AT MOST 1048576: true; the input reads as it did. -/
def coordAddsUptoRow : OpenClaim := { program := "ytjkoceacjbhblaa", sum := "b9e5e88834bf0fce2066cd41c9f4b4954ac01fa48386a059d7924f680eafe237", func := "tailrace/tailracelaw.CoordAdds", spec := "coordAdds", inPlace := ["slices.overlaps[int]"], unfollowed := true, recurses := true, apart := false, narrowed := true }
def CoordAddsUptoSaid : Prop := coordAddsUptoRow.holds Try.pinned (OpenSpec.upto coordAddsSpec)

/-- 'tailracelaw.GroupJoins', WHERE WHAT IT READS IS OF BULK AT MOST 1048576: true; the input reads as it did. -/
def groupJoinsUptoRow : OpenClaim := { program := "ytjkoceacjbhblaa", sum := "b9e5e88834bf0fce2066cd41c9f4b4954ac01fa48386a059d7924f680eafe237", func := "tailrace/tailracelaw.GroupJoins", spec := "groupJoins", unfollowed := true, recurses := true, apart := false, narrowed := true }
def GroupJoinsUptoSaid : Prop := groupJoinsUptoRow.holds Try.pinned (OpenSpec.upto groupJoinsSpec)

/-- 'tailracelaw.GroupTicks', WHERE WHAT IT READS IS OF BULK AT MOST 1048576: true; the input reads as it did. -/
def groupTicksUptoRow : OpenClaim := { program := "ytjkoceacjbhblaa", sum := "b9e5e88834bf0fce2066cd41c9f4b4954ac01fa48386a059d7924f680eafe237", func := "tailrace/tailracelaw.GroupTicks", spec := "groupTicks", unfollowed := true, recurses := true, apart := false, narrowed := true }
def GroupTicksUptoSaid : Prop := groupTicksUptoRow.holds Try.pinned (OpenSpec.upto groupTicksSpec)

/-- 'tailracelaw.GroupLeaves', WHERE WHAT IT READS IS OF BULK AT MOST 1048576: true; the input reads as it did. -/
def groupLeavesUptoRow : OpenClaim := { program := "ytjkoceacjbhblaa", sum := "b9e5e88834bf0fce2066cd41c9f4b4954ac01fa48386a059d7924f680eafe237", func := "tailrace/tailracelaw.GroupLeaves", spec := "groupLeaves", unfollowed := true, recurses := true, apart := false, narrowed := true }
def GroupLeavesUptoSaid : Prop := groupLeavesUptoRow.holds Try.pinned (OpenSpec.upto groupLeavesSpec)

end Rows
end Go.Proofs.Ytjkoceacjbhblaa
