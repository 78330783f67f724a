/-
  No cell of these rows narrows 'for every input' (looked for: loops, veiled, ifaces, maps, wideKeys, modest, calm, conditions, laid).
  DERIVED. THE GIVEN ROWS OF THIS SEAT. 20 by the template 'for every input the law returns true; each argument reads behind the call as it read before'; 0 by the template 'total and deterministic' (their statements: YtpjjfnpdopdnkaaTotals.lean).
  GIVEN WITH THE SEED: the statements are not yours to turn. If you find one false, say at which input.
  Laid BY PROGRAM, IN A SANDBOX (cutbox-rows.mjs): the forced cells as the released guide's own fill.sh prints them over the translation 837a0d87dfe4d4fd… (all of the seat's roots in one cut). By AI agents, Wed Nov 11 2026. No macro, syntax, notation, axiom, sorry.
-/
import Derived.Test.YtpjjfnpdopdnkaaChecked
import GoSem.Claim
import GoSem.ClaimJoined
import GoSem.ClaimMapViews
import Derived.JoinedTies
import Derived.KernelRfl
namespace Go.Proofs.Ytpjjfnpdopdnkaa
/- THE CELL 'sum', in the pinned program and in every row, IS THE sha256 OF THE DUMP (.gsa) THAT YtpjjfnpdopdnkaaProg.lean LOADS. Nothing in Lean hashes anything: it is a label: what it is worth is what the hold of that sum in a sandbox is worth. -/
noncomputable def Try.pinned : Pinned := { name := "ytpjjfnpdopdnkaa", sum := "837a0d87dfe4d4fdac1cfadbc15edaec3d72ae3c600f5c9755521d041d30c8da", checked := Try.checked }
namespace Rows
def none {H : Type} : Left H := { results := [], args := [] }

/-- 'tailracelaw.PartNew': WHATEVER THE INPUT: true; the input reads as it did. -/
def partNewSpec : ChangeSpec := { name := "partNew", fn := fun _ => fun
  | [d1, d2] => { results := [.lit (.bool true)], args := [d1, d2] }
  | _ => none }
def partNewRow : OpenClaim := { program := "ytpjjfnpdopdnkaa", sum := "837a0d87dfe4d4fdac1cfadbc15edaec3d72ae3c600f5c9755521d041d30c8da", func := "tailrace/tailracelaw.PartNew", spec := "partNew", apart := false }
def PartNewSaid : Prop := partNewRow.holds Try.pinned (OpenSpec.ofChange partNewSpec)

/-- ITS FALSE NEIGHBOUR: 'it returns false'. Refute it at one input. -/
def partNewWrong : ChangeSpec := { name := "partNew", fn := fun _ => fun
  | [d1, d2] => { results := [.lit (.bool false)], args := [d1, d2] }
  | _ => none }
def PartNewWrongFalsely : Prop := partNewRow.holds Try.pinned (OpenSpec.ofChange partNewWrong)

/-- 'tailracelaw.PartCopies': WHATEVER THE INPUT: true; the input reads as it did. -/
def partCopiesSpec : ChangeSpec := { name := "partCopies", fn := fun _ => fun
  | [d] => { results := [.lit (.bool true)], args := [d] }
  | _ => none }
def partCopiesRow : OpenClaim := { program := "ytpjjfnpdopdnkaa", sum := "837a0d87dfe4d4fdac1cfadbc15edaec3d72ae3c600f5c9755521d041d30c8da", func := "tailrace/tailracelaw.PartCopies", spec := "partCopies", apart := false }
def PartCopiesSaid : Prop := partCopiesRow.holds Try.pinned (OpenSpec.ofChange partCopiesSpec)

/-- ITS FALSE NEIGHBOUR: 'it returns false'. Refute it at one input. -/
def partCopiesWrong : ChangeSpec := { name := "partCopies", fn := fun _ => fun
  | [d] => { results := [.lit (.bool false)], args := [d] }
  | _ => none }
def PartCopiesWrongFalsely : Prop := partCopiesRow.holds Try.pinned (OpenSpec.ofChange partCopiesWrong)

/-- 'tailracelaw.WireDecodes': WHATEVER THE INPUT: true; the input reads as it did. -/
def wireDecodesSpec : ChangeSpec := { name := "wireDecodes", fn := fun _ => fun
  | [d] => { results := [.lit (.bool true)], args := [d] }
  | _ => none }
def wireDecodesRow : OpenClaim := { program := "ytpjjfnpdopdnkaa", sum := "837a0d87dfe4d4fdac1cfadbc15edaec3d72ae3c600f5c9755521d041d30c8da", func := "tailrace/tailracelaw.WireDecodes", spec := "wireDecodes", apart := false }
def WireDecodesSaid : Prop := wireDecodesRow.holds Try.pinned (OpenSpec.ofChange wireDecodesSpec)

/-- ITS FALSE NEIGHBOUR: 'it returns false'. Refute it at one input. -/
def wireDecodesWrong : ChangeSpec := { name := "wireDecodes", fn := fun _ => fun
  | [d] => { results := [.lit (.bool false)], args := [d] }
  | _ => none }
def WireDecodesWrongFalsely : Prop := wireDecodesRow.holds Try.pinned (OpenSpec.ofChange wireDecodesWrong)

/-- 'tailracelaw.SegChecks': WHATEVER THE INPUT: true; the input reads as it did. -/
def segChecksSpec : ChangeSpec := { name := "segChecks", fn := fun _ => fun
  | [d] => { results := [.lit (.bool true)], args := [d] }
  | _ => none }
def segChecksRow : OpenClaim := { program := "ytpjjfnpdopdnkaa", sum := "837a0d87dfe4d4fdac1cfadbc15edaec3d72ae3c600f5c9755521d041d30c8da", func := "tailrace/tailracelaw.SegChecks", spec := "segChecks", apart := false }
def SegChecksSaid : Prop := segChecksRow.holds Try.pinned (OpenSpec.ofChange segChecksSpec)

/-- ITS FALSE NEIGHBOUR: 'it returns false'. Refute it at one input. -/
def segChecksWrong : ChangeSpec := { name := "segChecks", fn := fun _ => fun
  | [d] => { results := [.lit (.bool false)], args := [d] }
  | _ => none }
def SegChecksWrongFalsely : Prop := segChecksRow.holds Try.pinned (OpenSpec.ofChange segChecksWrong)

/-- 'tailracelaw.SegEntries': WHATEVER THE INPUT: true; the input reads as it did. -/
def segEntriesSpec : ChangeSpec := { name := "segEntries", fn := fun _ => fun
  | [d] => { results := [.lit (.bool true)], args := [d] }
  | _ => none }
def segEntriesRow : OpenClaim := { program := "ytpjjfnpdopdnkaa", sum := "837a0d87dfe4d4fdac1cfadbc15edaec3d72ae3c600f5c9755521d041d30c8da", func := "tailrace/tailracelaw.SegEntries", spec := "segEntries", apart := false }
def SegEntriesSaid : Prop := segEntriesRow.holds Try.pinned (OpenSpec.ofChange segEntriesSpec)

/-- ITS FALSE NEIGHBOUR: 'it returns false'. Refute it at one input. -/
def segEntriesWrong : ChangeSpec := { name := "segEntries", fn := fun _ => fun
  | [d] => { results := [.lit (.bool false)], args := [d] }
  | _ => none }
def SegEntriesWrongFalsely : Prop := segEntriesRow.holds Try.pinned (OpenSpec.ofChange segEntriesWrong)

/-- 'tailracelaw.SegSyncs': WHATEVER THE INPUT: true; the input reads as it did. -/
def segSyncsSpec : ChangeSpec := { name := "segSyncs", fn := fun _ => fun
  | [d] => { results := [.lit (.bool true)], args := [d] }
  | _ => none }
def segSyncsRow : OpenClaim := { program := "ytpjjfnpdopdnkaa", sum := "837a0d87dfe4d4fdac1cfadbc15edaec3d72ae3c600f5c9755521d041d30c8da", func := "tailrace/tailracelaw.SegSyncs", spec := "segSyncs", apart := false }
def SegSyncsSaid : Prop := segSyncsRow.holds Try.pinned (OpenSpec.ofChange segSyncsSpec)

/-- ITS FALSE NEIGHBOUR: 'it returns false'. Refute it at one input. -/
def segSyncsWrong : ChangeSpec := { name := "segSyncs", fn := fun _ => fun
  | [d] => { results := [.lit (.bool false)], args := [d] }
  | _ => none }
def SegSyncsWrongFalsely : Prop := segSyncsRow.holds Try.pinned (OpenSpec.ofChange segSyncsWrong)

/-- 'tailracelaw.SegCrashes': WHATEVER THE INPUT: true; the input reads as it did. -/
def segCrashesSpec : ChangeSpec := { name := "segCrashes", fn := fun _ => fun
  | [d1, d2] => { results := [.lit (.bool true)], args := [d1, d2] }
  | _ => none }
def segCrashesRow : OpenClaim := { program := "ytpjjfnpdopdnkaa", sum := "837a0d87dfe4d4fdac1cfadbc15edaec3d72ae3c600f5c9755521d041d30c8da", func := "tailrace/tailracelaw.SegCrashes", spec := "segCrashes", apart := false }
def SegCrashesSaid : Prop := segCrashesRow.holds Try.pinned (OpenSpec.ofChange segCrashesSpec)

/-- ITS FALSE NEIGHBOUR: 'it returns false'. Refute it at one input. -/
def segCrashesWrong : ChangeSpec := { name := "segCrashes", fn := fun _ => fun
  | [d1, d2] => { results := [.lit (.bool false)], args := [d1, d2] }
  | _ => none }
def SegCrashesWrongFalsely : Prop := segCrashesRow.holds Try.pinned (OpenSpec.ofChange segCrashesWrong)

/-- 'tailracelaw.PartChecks': WHATEVER THE INPUT: true; the input reads as it did. -/
def partChecksSpec : ChangeSpec := { name := "partChecks", fn := fun _ => fun
  | [d] => { results := [.lit (.bool true)], args := [d] }
  | _ => none }
def partChecksRow : OpenClaim := { program := "ytpjjfnpdopdnkaa", sum := "837a0d87dfe4d4fdac1cfadbc15edaec3d72ae3c600f5c9755521d041d30c8da", func := "tailrace/tailracelaw.PartChecks", spec := "partChecks", apart := false }
def PartChecksSaid : Prop := partChecksRow.holds Try.pinned (OpenSpec.ofChange partChecksSpec)

/-- ITS FALSE NEIGHBOUR: 'it returns false'. Refute it at one input. -/
def partChecksWrong : ChangeSpec := { name := "partChecks", fn := fun _ => fun
  | [d] => { results := [.lit (.bool false)], args := [d] }
  | _ => none }
def PartChecksWrongFalsely : Prop := partChecksRow.holds Try.pinned (OpenSpec.ofChange partChecksWrong)

/-- 'tailracelaw.SegCuts': WHATEVER THE INPUT: true; the input reads as it did. -/
def segCutsSpec : ChangeSpec := { name := "segCuts", fn := fun _ => fun
  | [d1, d2] => { results := [.lit (.bool true)], args := [d1, d2] }
  | _ => none }
def segCutsRow : OpenClaim := { program := "ytpjjfnpdopdnkaa", sum := "837a0d87dfe4d4fdac1cfadbc15edaec3d72ae3c600f5c9755521d041d30c8da", func := "tailrace/tailracelaw.SegCuts", spec := "segCuts", apart := false }
def SegCutsSaid : Prop := segCutsRow.holds Try.pinned (OpenSpec.ofChange segCutsSpec)

/-- ITS FALSE NEIGHBOUR: 'it returns false'. Refute it at one input. -/
def segCutsWrong : ChangeSpec := { name := "segCuts", fn := fun _ => fun
  | [d1, d2] => { results := [.lit (.bool false)], args := [d1, d2] }
  | _ => none }
def SegCutsWrongFalsely : Prop := segCutsRow.holds Try.pinned (OpenSpec.ofChange segCutsWrong)

/-- 'tailracelaw.SegAppends': WHATEVER THE INPUT: true; the input reads as it did. -/
def segAppendsSpec : ChangeSpec := { name := "segAppends", fn := fun _ => fun
  | [d1, d2] => { results := [.lit (.bool true)], args := [d1, d2] }
  | _ => none }
def segAppendsRow : OpenClaim := { program := "ytpjjfnpdopdnkaa", sum := "837a0d87dfe4d4fdac1cfadbc15edaec3d72ae3c600f5c9755521d041d30c8da", func := "tailrace/tailracelaw.SegAppends", spec := "segAppends", recurses := true, apart := false }
def SegAppendsSaid : Prop := segAppendsRow.holds Try.pinned (OpenSpec.ofChange segAppendsSpec)

/-- ITS FALSE NEIGHBOUR: 'it returns false'. Refute it at one input. -/
def segAppendsWrong : ChangeSpec := { name := "segAppends", fn := fun _ => fun
  | [d1, d2] => { results := [.lit (.bool false)], args := [d1, d2] }
  | _ => none }
def SegAppendsWrongFalsely : Prop := segAppendsRow.holds Try.pinned (OpenSpec.ofChange segAppendsWrong)

/-- 'tailracelaw.PartRises': WHATEVER THE INPUT: true; the input reads as it did. -/
def partRisesSpec : ChangeSpec := { name := "partRises", fn := fun _ => fun
  | [d1, d2] => { results := [.lit (.bool true)], args := [d1, d2] }
  | _ => none }
def partRisesRow : OpenClaim := { program := "ytpjjfnpdopdnkaa", sum := "837a0d87dfe4d4fdac1cfadbc15edaec3d72ae3c600f5c9755521d041d30c8da", func := "tailrace/tailracelaw.PartRises", spec := "partRises", apart := false }
def PartRisesSaid : Prop := partRisesRow.holds Try.pinned (OpenSpec.ofChange partRisesSpec)

/-- ITS FALSE NEIGHBOUR: 'it returns false'. Refute it at one input. -/
def partRisesWrong : ChangeSpec := { name := "partRises", fn := fun _ => fun
  | [d1, d2] => { results := [.lit (.bool false)], args := [d1, d2] }
  | _ => none }
def PartRisesWrongFalsely : Prop := partRisesRow.holds Try.pinned (OpenSpec.ofChange partRisesWrong)

/-- 'tailracelaw.PartWipes': WHATEVER THE INPUT: true; the input reads as it did. -/
def partWipesSpec : ChangeSpec := { name := "partWipes", fn := fun _ => fun
  | [d1, d2] => { results := [.lit (.bool true)], args := [d1, d2] }
  | _ => none }
def partWipesRow : OpenClaim := { program := "ytpjjfnpdopdnkaa", sum := "837a0d87dfe4d4fdac1cfadbc15edaec3d72ae3c600f5c9755521d041d30c8da", func := "tailrace/tailracelaw.PartWipes", spec := "partWipes", apart := false }
def PartWipesSaid : Prop := partWipesRow.holds Try.pinned (OpenSpec.ofChange partWipesSpec)

/-- ITS FALSE NEIGHBOUR: 'it returns false'. Refute it at one input. -/
def partWipesWrong : ChangeSpec := { name := "partWipes", fn := fun _ => fun
  | [d1, d2] => { results := [.lit (.bool false)], args := [d1, d2] }
  | _ => none }
def PartWipesWrongFalsely : Prop := partWipesRow.holds Try.pinned (OpenSpec.ofChange partWipesWrong)

/-- 'tailracelaw.PartExpands': WHATEVER THE INPUT: true; the input reads as it did. -/
def partExpandsSpec : ChangeSpec := { name := "partExpands", fn := fun _ => fun
  | [d1, d2] => { results := [.lit (.bool true)], args := [d1, d2] }
  | _ => none }
def partExpandsRow : OpenClaim := { program := "ytpjjfnpdopdnkaa", sum := "837a0d87dfe4d4fdac1cfadbc15edaec3d72ae3c600f5c9755521d041d30c8da", func := "tailrace/tailracelaw.PartExpands", spec := "partExpands", apart := false }
def PartExpandsSaid : Prop := partExpandsRow.holds Try.pinned (OpenSpec.ofChange partExpandsSpec)

/-- ITS FALSE NEIGHBOUR: 'it returns false'. Refute it at one input. -/
def partExpandsWrong : ChangeSpec := { name := "partExpands", fn := fun _ => fun
  | [d1, d2] => { results := [.lit (.bool false)], args := [d1, d2] }
  | _ => none }
def PartExpandsWrongFalsely : Prop := partExpandsRow.holds Try.pinned (OpenSpec.ofChange partExpandsWrong)

/-- 'tailracelaw.PartCrashes': WHATEVER THE INPUT: true; the input reads as it did. -/
def partCrashesSpec : ChangeSpec := { name := "partCrashes", fn := fun _ => fun
  | [d1, d2, d3] => { results := [.lit (.bool true)], args := [d1, d2, d3] }
  | _ => none }
def partCrashesRow : OpenClaim := { program := "ytpjjfnpdopdnkaa", sum := "837a0d87dfe4d4fdac1cfadbc15edaec3d72ae3c600f5c9755521d041d30c8da", func := "tailrace/tailracelaw.PartCrashes", spec := "partCrashes", apart := false }
def PartCrashesSaid : Prop := partCrashesRow.holds Try.pinned (OpenSpec.ofChange partCrashesSpec)

/-- ITS FALSE NEIGHBOUR: 'it returns false'. Refute it at one input. -/
def partCrashesWrong : ChangeSpec := { name := "partCrashes", fn := fun _ => fun
  | [d1, d2, d3] => { results := [.lit (.bool false)], args := [d1, d2, d3] }
  | _ => none }
def PartCrashesWrongFalsely : Prop := partCrashesRow.holds Try.pinned (OpenSpec.ofChange partCrashesWrong)

/-- 'tailracelaw.PartSyncs': WHATEVER THE INPUT: true; the input reads as it did. -/
def partSyncsSpec : ChangeSpec := { name := "partSyncs", fn := fun _ => fun
  | [d1, d2] => { results := [.lit (.bool true)], args := [d1, d2] }
  | _ => none }
def partSyncsRow : OpenClaim := { program := "ytpjjfnpdopdnkaa", sum := "837a0d87dfe4d4fdac1cfadbc15edaec3d72ae3c600f5c9755521d041d30c8da", func := "tailrace/tailracelaw.PartSyncs", spec := "partSyncs", apart := false }
def PartSyncsSaid : Prop := partSyncsRow.holds Try.pinned (OpenSpec.ofChange partSyncsSpec)

/-- ITS FALSE NEIGHBOUR: 'it returns false'. Refute it at one input. -/
def partSyncsWrong : ChangeSpec := { name := "partSyncs", fn := fun _ => fun
  | [d1, d2] => { results := [.lit (.bool false)], args := [d1, d2] }
  | _ => none }
def PartSyncsWrongFalsely : Prop := partSyncsRow.holds Try.pinned (OpenSpec.ofChange partSyncsWrong)

/-- 'tailracelaw.PartElects': WHATEVER THE INPUT: true; the input reads as it did. -/
def partElectsSpec : ChangeSpec := { name := "partElects", fn := fun _ => fun
  | [d1, d2] => { results := [.lit (.bool true)], args := [d1, d2] }
  | _ => none }
def partElectsRow : OpenClaim := { program := "ytpjjfnpdopdnkaa", sum := "837a0d87dfe4d4fdac1cfadbc15edaec3d72ae3c600f5c9755521d041d30c8da", func := "tailrace/tailracelaw.PartElects", spec := "partElects", apart := false }
def PartElectsSaid : Prop := partElectsRow.holds Try.pinned (OpenSpec.ofChange partElectsSpec)

/-- ITS FALSE NEIGHBOUR: 'it returns false'. Refute it at one input. -/
def partElectsWrong : ChangeSpec := { name := "partElects", fn := fun _ => fun
  | [d1, d2] => { results := [.lit (.bool false)], args := [d1, d2] }
  | _ => none }
def PartElectsWrongFalsely : Prop := partElectsRow.holds Try.pinned (OpenSpec.ofChange partElectsWrong)

/-- 'tailracelaw.PartShrinks': WHATEVER THE INPUT: true; the input reads as it did. -/
def partShrinksSpec : ChangeSpec := { name := "partShrinks", fn := fun _ => fun
  | [d1, d2] => { results := [.lit (.bool true)], args := [d1, d2] }
  | _ => none }
def partShrinksRow : OpenClaim := { program := "ytpjjfnpdopdnkaa", sum := "837a0d87dfe4d4fdac1cfadbc15edaec3d72ae3c600f5c9755521d041d30c8da", func := "tailrace/tailracelaw.PartShrinks", spec := "partShrinks", apart := false }
def PartShrinksSaid : Prop := partShrinksRow.holds Try.pinned (OpenSpec.ofChange partShrinksSpec)

/-- ITS FALSE NEIGHBOUR: 'it returns false'. Refute it at one input. -/
def partShrinksWrong : ChangeSpec := { name := "partShrinks", fn := fun _ => fun
  | [d1, d2] => { results := [.lit (.bool false)], args := [d1, d2] }
  | _ => none }
def PartShrinksWrongFalsely : Prop := partShrinksRow.holds Try.pinned (OpenSpec.ofChange partShrinksWrong)

/-- 'tailracelaw.PartReads': WHATEVER THE INPUT: true; the input reads as it did. -/
def partReadsSpec : ChangeSpec := { name := "partReads", fn := fun _ => fun
  | [d1, d2, d3] => { results := [.lit (.bool true)], args := [d1, d2, d3] }
  | _ => none }
def partReadsRow : OpenClaim := { program := "ytpjjfnpdopdnkaa", sum := "837a0d87dfe4d4fdac1cfadbc15edaec3d72ae3c600f5c9755521d041d30c8da", func := "tailrace/tailracelaw.PartReads", spec := "partReads", apart := false }
def PartReadsSaid : Prop := partReadsRow.holds Try.pinned (OpenSpec.ofChange partReadsSpec)

/-- ITS FALSE NEIGHBOUR: 'it returns false'. Refute it at one input. -/
def partReadsWrong : ChangeSpec := { name := "partReads", fn := fun _ => fun
  | [d1, d2, d3] => { results := [.lit (.bool false)], args := [d1, d2, d3] }
  | _ => none }
def PartReadsWrongFalsely : Prop := partReadsRow.holds Try.pinned (OpenSpec.ofChange partReadsWrong)

/-- 'tailracelaw.PartFetches': WHATEVER THE INPUT: true; the input reads as it did. -/
def partFetchesSpec : ChangeSpec := { name := "partFetches", fn := fun _ => fun
  | [d1, d2] => { results := [.lit (.bool true)], args := [d1, d2] }
  | _ => none }
def partFetchesRow : OpenClaim := { program := "ytpjjfnpdopdnkaa", sum := "837a0d87dfe4d4fdac1cfadbc15edaec3d72ae3c600f5c9755521d041d30c8da", func := "tailrace/tailracelaw.PartFetches", spec := "partFetches", recurses := true, apart := false }
def PartFetchesSaid : Prop := partFetchesRow.holds Try.pinned (OpenSpec.ofChange partFetchesSpec)

/-- ITS FALSE NEIGHBOUR: 'it returns false'. Refute it at one input. -/
def partFetchesWrong : ChangeSpec := { name := "partFetches", fn := fun _ => fun
  | [d1, d2] => { results := [.lit (.bool false)], args := [d1, d2] }
  | _ => none }
def PartFetchesWrongFalsely : Prop := partFetchesRow.holds Try.pinned (OpenSpec.ofChange partFetchesWrong)

/-- 'tailracelaw.PartPuts': WHATEVER THE INPUT: true; the input reads as it did. -/
def partPutsSpec : ChangeSpec := { name := "partPuts", fn := fun _ => fun
  | [d1, d2] => { results := [.lit (.bool true)], args := [d1, d2] }
  | _ => none }
def partPutsRow : OpenClaim := { program := "ytpjjfnpdopdnkaa", sum := "837a0d87dfe4d4fdac1cfadbc15edaec3d72ae3c600f5c9755521d041d30c8da", func := "tailrace/tailracelaw.PartPuts", spec := "partPuts", recurses := true, apart := false }
def PartPutsSaid : Prop := partPutsRow.holds Try.pinned (OpenSpec.ofChange partPutsSpec)

/-- ITS FALSE NEIGHBOUR: 'it returns false'. Refute it at one input. -/
def partPutsWrong : ChangeSpec := { name := "partPuts", fn := fun _ => fun
  | [d1, d2] => { results := [.lit (.bool false)], args := [d1, d2] }
  | _ => none }
def PartPutsWrongFalsely : Prop := partPutsRow.holds Try.pinned (OpenSpec.ofChange partPutsWrong)

/- THE SECOND FORM. 'bulk': how many values and letters a reading holds, each counted each time it is reached (what is shared counts as often as it is met; a slice's spare places count too). A statement '..UptoSaid' is the law's where the arguments, and the package variables that the reading takes, are together of bulk at most 1048576: NARROWER than '..Said'. Prove '..Said' where nothing that the law and all that it calls make is longer than what came in: it says more and counts as full. Else prove '..UptoSaid'. A law counts once. -/
mutual
def uptoBulk {H : Type} : DataW H → Nat
  | .lit (.string bytes) => bytes.length + 1
  | .lit _ => 1
  | .nil => 1
  | .ptr d => uptoBulk d + 1
  | .slice elems spare => uptoBulkAll elems + uptoBulkAll spare + 1
  | .agg parts => uptoBulkAll parts + 1
  | .iface _ d => uptoBulk d + 1
  | .map entries => uptoBulkEntries entries + 1
  | .held _ => 1
def uptoBulkAll {H : Type} : List (DataW H) → Nat
  | [] => 0
  | d :: r => uptoBulk d + uptoBulkAll r
def uptoBulkEntries {H : Type} : List (Lit × DataW H) → Nat
  | [] => 0
  | x :: r => uptoBulkEntry x + uptoBulkEntries r
def uptoBulkEntry {H : Type} : Lit × DataW H → Nat
  | (.string bytes, d) => bytes.length + uptoBulk d + 1
  | (_, d) => uptoBulk d + 1
 end
def uptoSmall : (H : Type) → List (DataW H) → Bool := fun _ ds => decide (uptoBulkAll ds ≤ 1048576)
def OpenSpec.upto (s : _root_.Go.ChangeSpec) : _root_.Go.OpenSpec := { _root_.Go.OpenSpec.ofChange s with cond := some uptoSmall }

/-- 'tailracelaw.PartNew', WHERE WHAT IT READS IS OF BULK AT MOST 1048576: true; the input reads as it did. -/
def partNewUptoRow : OpenClaim := { program := "ytpjjfnpdopdnkaa", sum := "837a0d87dfe4d4fdac1cfadbc15edaec3d72ae3c600f5c9755521d041d30c8da", func := "tailrace/tailracelaw.PartNew", spec := "partNew", apart := false, narrowed := true }
def PartNewUptoSaid : Prop := partNewUptoRow.holds Try.pinned (OpenSpec.upto partNewSpec)

/-- 'tailracelaw.PartCopies', WHERE WHAT IT READS IS OF BULK AT MOST 1048576: true; the input reads as it did. -/
def partCopiesUptoRow : OpenClaim := { program := "ytpjjfnpdopdnkaa", sum := "837a0d87dfe4d4fdac1cfadbc15edaec3d72ae3c600f5c9755521d041d30c8da", func := "tailrace/tailracelaw.PartCopies", spec := "partCopies", apart := false, narrowed := true }
def PartCopiesUptoSaid : Prop := partCopiesUptoRow.holds Try.pinned (OpenSpec.upto partCopiesSpec)

/-- 'tailracelaw.WireDecodes', WHERE WHAT IT READS IS OF BULK AT MOST 1048576: true; the input reads as it did. -/
def wireDecodesUptoRow : OpenClaim := { program := "ytpjjfnpdopdnkaa", sum := "837a0d87dfe4d4fdac1cfadbc15edaec3d72ae3c600f5c9755521d041d30c8da", func := "tailrace/tailracelaw.WireDecodes", spec := "wireDecodes", apart := false, narrowed := true }
def WireDecodesUptoSaid : Prop := wireDecodesUptoRow.holds Try.pinned (OpenSpec.upto wireDecodesSpec)

/-- 'tailracelaw.SegChecks', WHERE WHAT IT READS IS OF BULK AT MOST 1048576: true; the input reads as it did. -/
def segChecksUptoRow : OpenClaim := { program := "ytpjjfnpdopdnkaa", sum := "837a0d87dfe4d4fdac1cfadbc15edaec3d72ae3c600f5c9755521d041d30c8da", func := "tailrace/tailracelaw.SegChecks", spec := "segChecks", apart := false, narrowed := true }
def SegChecksUptoSaid : Prop := segChecksUptoRow.holds Try.pinned (OpenSpec.upto segChecksSpec)

/-- 'tailracelaw.SegEntries', WHERE WHAT IT READS IS OF BULK AT MOST 1048576: true; the input reads as it did. -/
def segEntriesUptoRow : OpenClaim := { program := "ytpjjfnpdopdnkaa", sum := "837a0d87dfe4d4fdac1cfadbc15edaec3d72ae3c600f5c9755521d041d30c8da", func := "tailrace/tailracelaw.SegEntries", spec := "segEntries", apart := false, narrowed := true }
def SegEntriesUptoSaid : Prop := segEntriesUptoRow.holds Try.pinned (OpenSpec.upto segEntriesSpec)

/-- 'tailracelaw.SegSyncs', WHERE WHAT IT READS IS OF BULK AT MOST 1048576: true; the input reads as it did. -/
def segSyncsUptoRow : OpenClaim := { program := "ytpjjfnpdopdnkaa", sum := "837a0d87dfe4d4fdac1cfadbc15edaec3d72ae3c600f5c9755521d041d30c8da", func := "tailrace/tailracelaw.SegSyncs", spec := "segSyncs", apart := false, narrowed := true }
def SegSyncsUptoSaid : Prop := segSyncsUptoRow.holds Try.pinned (OpenSpec.upto segSyncsSpec)

/-- 'tailracelaw.SegCrashes', WHERE WHAT IT READS IS OF BULK AT MOST 1048576: true; the input reads as it did. -/
def segCrashesUptoRow : OpenClaim := { program := "ytpjjfnpdopdnkaa", sum := "837a0d87dfe4d4fdac1cfadbc15edaec3d72ae3c600f5c9755521d041d30c8da", func := "tailrace/tailracelaw.SegCrashes", spec := "segCrashes", apart := false, narrowed := true }
def SegCrashesUptoSaid : Prop := segCrashesUptoRow.holds Try.pinned (OpenSpec.upto segCrashesSpec)

/-- 'tailracelaw.PartChecks', WHERE WHAT IT READS IS OF BULK AT MOST 1048576: true; the input reads as it did. -/
def partChecksUptoRow : OpenClaim := { program := "ytpjjfnpdopdnkaa", sum := "837a0d87dfe4d4fdac1cfadbc15edaec3d72ae3c600f5c9755521d041d30c8da", func := "tailrace/tailracelaw.PartChecks", spec := "partChecks", apart := false, narrowed := true }
def PartChecksUptoSaid : Prop := partChecksUptoRow.holds Try.pinned (OpenSpec.upto partChecksSpec)

/-- 'tailracelaw.SegCuts', WHERE WHAT IT READS IS OF BULK AT MOST 1048576: true; the input reads as it did. -/
def segCutsUptoRow : OpenClaim := { program := "ytpjjfnpdopdnkaa", sum := "837a0d87dfe4d4fdac1cfadbc15edaec3d72ae3c600f5c9755521d041d30c8da", func := "tailrace/tailracelaw.SegCuts", spec := "segCuts", apart := false, narrowed := true }
def SegCutsUptoSaid : Prop := segCutsUptoRow.holds Try.pinned (OpenSpec.upto segCutsSpec)

/-- 'tailracelaw.SegAppends', WHERE WHAT IT READS IS OF BULK AT MOST 1048576: true; the input reads as it did. -/
def segAppendsUptoRow : OpenClaim := { program := "ytpjjfnpdopdnkaa", sum := "837a0d87dfe4d4fdac1cfadbc15edaec3d72ae3c600f5c9755521d041d30c8da", func := "tailrace/tailracelaw.SegAppends", spec := "segAppends", recurses := true, apart := false, narrowed := true }
def SegAppendsUptoSaid : Prop := segAppendsUptoRow.holds Try.pinned (OpenSpec.upto segAppendsSpec)

/-- 'tailracelaw.PartRises', WHERE WHAT IT READS IS OF BULK AT MOST 1048576: true; the input reads as it did. -/
def partRisesUptoRow : OpenClaim := { program := "ytpjjfnpdopdnkaa", sum := "837a0d87dfe4d4fdac1cfadbc15edaec3d72ae3c600f5c9755521d041d30c8da", func := "tailrace/tailracelaw.PartRises", spec := "partRises", apart := false, narrowed := true }
def PartRisesUptoSaid : Prop := partRisesUptoRow.holds Try.pinned (OpenSpec.upto partRisesSpec)

/-- 'tailracelaw.PartWipes', WHERE WHAT IT READS IS OF BULK AT MOST 1048576: true; the input reads as it did. -/
def partWipesUptoRow : OpenClaim := { program := "ytpjjfnpdopdnkaa", sum := "837a0d87dfe4d4fdac1cfadbc15edaec3d72ae3c600f5c9755521d041d30c8da", func := "tailrace/tailracelaw.PartWipes", spec := "partWipes", apart := false, narrowed := true }
def PartWipesUptoSaid : Prop := partWipesUptoRow.holds Try.pinned (OpenSpec.upto partWipesSpec)

/-- 'tailracelaw.PartExpands', WHERE WHAT IT READS IS OF BULK AT MOST 1048576: true; the input reads as it did. -/
def partExpandsUptoRow : OpenClaim := { program := "ytpjjfnpdopdnkaa", sum := "837a0d87dfe4d4fdac1cfadbc15edaec3d72ae3c600f5c9755521d041d30c8da", func := "tailrace/tailracelaw.PartExpands", spec := "partExpands", apart := false, narrowed := true }
def PartExpandsUptoSaid : Prop := partExpandsUptoRow.holds Try.pinned (OpenSpec.upto partExpandsSpec)

/-- 'tailracelaw.PartCrashes', WHERE WHAT IT READS IS OF BULK AT MOST 1048576: true; the input reads as it did. -/
def partCrashesUptoRow : OpenClaim := { program := "ytpjjfnpdopdnkaa", sum := "837a0d87dfe4d4fdac1cfadbc15edaec3d72ae3c600f5c9755521d041d30c8da", func := "tailrace/tailracelaw.PartCrashes", spec := "partCrashes", apart := false, narrowed := true }
def PartCrashesUptoSaid : Prop := partCrashesUptoRow.holds Try.pinned (OpenSpec.upto partCrashesSpec)

/-- 'tailracelaw.PartSyncs', WHERE WHAT IT READS IS OF BULK AT MOST 1048576: true; the input reads as it did. -/
def partSyncsUptoRow : OpenClaim := { program := "ytpjjfnpdopdnkaa", sum := "837a0d87dfe4d4fdac1cfadbc15edaec3d72ae3c600f5c9755521d041d30c8da", func := "tailrace/tailracelaw.PartSyncs", spec := "partSyncs", apart := false, narrowed := true }
def PartSyncsUptoSaid : Prop := partSyncsUptoRow.holds Try.pinned (OpenSpec.upto partSyncsSpec)

/-- 'tailracelaw.PartElects', WHERE WHAT IT READS IS OF BULK AT MOST 1048576: true; the input reads as it did. -/
def partElectsUptoRow : OpenClaim := { program := "ytpjjfnpdopdnkaa", sum := "837a0d87dfe4d4fdac1cfadbc15edaec3d72ae3c600f5c9755521d041d30c8da", func := "tailrace/tailracelaw.PartElects", spec := "partElects", apart := false, narrowed := true }
def PartElectsUptoSaid : Prop := partElectsUptoRow.holds Try.pinned (OpenSpec.upto partElectsSpec)

/-- 'tailracelaw.PartShrinks', WHERE WHAT IT READS IS OF BULK AT MOST 1048576: true; the input reads as it did. -/
def partShrinksUptoRow : OpenClaim := { program := "ytpjjfnpdopdnkaa", sum := "837a0d87dfe4d4fdac1cfadbc15edaec3d72ae3c600f5c9755521d041d30c8da", func := "tailrace/tailracelaw.PartShrinks", spec := "partShrinks", apart := false, narrowed := true }
def PartShrinksUptoSaid : Prop := partShrinksUptoRow.holds Try.pinned (OpenSpec.upto partShrinksSpec)

/-- 'tailracelaw.PartReads', WHERE WHAT IT READS IS OF BULK AT MOST 1048576: true; the input reads as it did. -/
def partReadsUptoRow : OpenClaim := { program := "ytpjjfnpdopdnkaa", sum := "837a0d87dfe4d4fdac1cfadbc15edaec3d72ae3c600f5c9755521d041d30c8da", func := "tailrace/tailracelaw.PartReads", spec := "partReads", apart := false, narrowed := true }
def PartReadsUptoSaid : Prop := partReadsUptoRow.holds Try.pinned (OpenSpec.upto partReadsSpec)

/-- 'tailracelaw.PartFetches', WHERE WHAT IT READS IS OF BULK AT MOST 1048576: true; the input reads as it did. -/
def partFetchesUptoRow : OpenClaim := { program := "ytpjjfnpdopdnkaa", sum := "837a0d87dfe4d4fdac1cfadbc15edaec3d72ae3c600f5c9755521d041d30c8da", func := "tailrace/tailracelaw.PartFetches", spec := "partFetches", recurses := true, apart := false, narrowed := true }
def PartFetchesUptoSaid : Prop := partFetchesUptoRow.holds Try.pinned (OpenSpec.upto partFetchesSpec)

/-- 'tailracelaw.PartPuts', WHERE WHAT IT READS IS OF BULK AT MOST 1048576: true; the input reads as it did. -/
def partPutsUptoRow : OpenClaim := { program := "ytpjjfnpdopdnkaa", sum := "837a0d87dfe4d4fdac1cfadbc15edaec3d72ae3c600f5c9755521d041d30c8da", func := "tailrace/tailracelaw.PartPuts", spec := "partPuts", recurses := true, apart := false, narrowed := true }
def PartPutsUptoSaid : Prop := partPutsUptoRow.holds Try.pinned (OpenSpec.upto partPutsSpec)

end Rows
end Go.Proofs.Ytpjjfnpdopdnkaa
