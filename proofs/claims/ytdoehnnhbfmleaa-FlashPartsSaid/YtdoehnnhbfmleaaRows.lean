/-
  No cell of these rows narrows 'for every input' (looked for: loops, veiled, ifaces, maps, wideKeys, modest, calm, conditions, laid).
  DERIVED. THE GIVEN ROWS OF THIS SEAT. 25 by the template 'for every input the law returns true; each argument reads behind the call as it read before'; 0 by the template 'total and deterministic' (their statements: YtdoehnnhbfmleaaTotals.lean).
  GIVEN WITH THE SEED: the statements are not yours to turn. If you find one false, say at which input.
  Laid BY PROGRAM, IN A SANDBOX (cutbox-rows.mjs): the forced cells as the released guide's own fill.sh prints them over the translation 57bf02bfe06d0ec5… (all of the seat's roots in one cut). By AI agents, Wed Nov 11 2026. No macro, syntax, notation, axiom, sorry.
-/
import Derived.Test.YtdoehnnhbfmleaaChecked
import GoSem.Claim
import GoSem.ClaimJoined
import GoSem.ClaimMapViews
import Derived.JoinedTies
import Derived.KernelRfl
namespace Go.Proofs.Ytdoehnnhbfmleaa
/- THE CELL 'sum', in the pinned program and in every row, IS THE sha256 OF THE DUMP (.gsa) THAT YtdoehnnhbfmleaaProg.lean LOADS. Nothing in Lean hashes anything: it is a label: what it is worth is what the hold of that sum in a sandbox is worth. -/
noncomputable def Try.pinned : Pinned := { name := "ytdoehnnhbfmleaa", sum := "57bf02bfe06d0ec52a1c27f84bf0f4ead0d295cd691df37a42f49571246b6ec6", checked := Try.checked }
namespace Rows
def none {H : Type} : Left H := { results := [], args := [] }

/-- 'slotmeshlaw23.FlashMatchesReference': WHATEVER THE INPUT: true; the input reads as it did. -/
def flashMatchesReferenceSpec : ChangeSpec := { name := "flashMatchesReference", fn := fun _ => fun
  | [d1, d2, d3, d4, d5] => { results := [.lit (.bool true)], args := [d1, d2, d3, d4, d5] }
  | _ => none }
def flashMatchesReferenceRow : OpenClaim := { program := "ytdoehnnhbfmleaa", sum := "57bf02bfe06d0ec52a1c27f84bf0f4ead0d295cd691df37a42f49571246b6ec6", func := "slotmesh/slotmeshlaw23.FlashMatchesReference", spec := "flashMatchesReference", inPlace := ["internal/bytealg.MakeNoZero"], unfollowed := true, recurses := true, apart := false }
def FlashMatchesReferenceSaid : Prop := flashMatchesReferenceRow.holds Try.pinned (OpenSpec.ofChange flashMatchesReferenceSpec)

/-- ITS FALSE NEIGHBOUR: 'it returns false'. Refute it at one input. -/
def flashMatchesReferenceWrong : ChangeSpec := { name := "flashMatchesReference", fn := fun _ => fun
  | [d1, d2, d3, d4, d5] => { results := [.lit (.bool false)], args := [d1, d2, d3, d4, d5] }
  | _ => none }
def FlashMatchesReferenceWrongFalsely : Prop := flashMatchesReferenceRow.holds Try.pinned (OpenSpec.ofChange flashMatchesReferenceWrong)

/-- 'slotmeshlaw23.FlashSteps': WHATEVER THE INPUT: true; the input reads as it did. -/
def flashStepsSpec : ChangeSpec := { name := "flashSteps", fn := fun _ => fun
  | [d1, d2, d3, d4] => { results := [.lit (.bool true)], args := [d1, d2, d3, d4] }
  | _ => none }
def flashStepsRow : OpenClaim := { program := "ytdoehnnhbfmleaa", sum := "57bf02bfe06d0ec52a1c27f84bf0f4ead0d295cd691df37a42f49571246b6ec6", func := "slotmesh/slotmeshlaw23.FlashSteps", spec := "flashSteps", inPlace := ["internal/bytealg.MakeNoZero"], unfollowed := true, recurses := true, apart := false }
def FlashStepsSaid : Prop := flashStepsRow.holds Try.pinned (OpenSpec.ofChange flashStepsSpec)

/-- ITS FALSE NEIGHBOUR: 'it returns false'. Refute it at one input. -/
def flashStepsWrong : ChangeSpec := { name := "flashSteps", fn := fun _ => fun
  | [d1, d2, d3, d4] => { results := [.lit (.bool false)], args := [d1, d2, d3, d4] }
  | _ => none }
def FlashStepsWrongFalsely : Prop := flashStepsRow.holds Try.pinned (OpenSpec.ofChange flashStepsWrong)

/-- 'slotmeshlaw23.FlashErased': WHATEVER THE INPUT: true; the input reads as it did. -/
def flashErasedSpec : ChangeSpec := { name := "flashErased", fn := fun _ => fun
  | [d1, d2, d3, d4] => { results := [.lit (.bool true)], args := [d1, d2, d3, d4] }
  | _ => none }
def flashErasedRow : OpenClaim := { program := "ytdoehnnhbfmleaa", sum := "57bf02bfe06d0ec52a1c27f84bf0f4ead0d295cd691df37a42f49571246b6ec6", func := "slotmesh/slotmeshlaw23.FlashErased", spec := "flashErased", inPlace := ["internal/bytealg.MakeNoZero"], unfollowed := true, recurses := true, apart := false }
def FlashErasedSaid : Prop := flashErasedRow.holds Try.pinned (OpenSpec.ofChange flashErasedSpec)

/-- ITS FALSE NEIGHBOUR: 'it returns false'. Refute it at one input. -/
def flashErasedWrong : ChangeSpec := { name := "flashErased", fn := fun _ => fun
  | [d1, d2, d3, d4] => { results := [.lit (.bool false)], args := [d1, d2, d3, d4] }
  | _ => none }
def FlashErasedWrongFalsely : Prop := flashErasedRow.holds Try.pinned (OpenSpec.ofChange flashErasedWrong)

/-- 'slotmeshlaw23.FlashAgain': WHATEVER THE INPUT: true; the input reads as it did. -/
def flashAgainSpec : ChangeSpec := { name := "flashAgain", fn := fun _ => fun
  | [d1, d2, d3, d4] => { results := [.lit (.bool true)], args := [d1, d2, d3, d4] }
  | _ => none }
def flashAgainRow : OpenClaim := { program := "ytdoehnnhbfmleaa", sum := "57bf02bfe06d0ec52a1c27f84bf0f4ead0d295cd691df37a42f49571246b6ec6", func := "slotmesh/slotmeshlaw23.FlashAgain", spec := "flashAgain", inPlace := ["internal/bytealg.MakeNoZero"], unfollowed := true, recurses := true, apart := false }
def FlashAgainSaid : Prop := flashAgainRow.holds Try.pinned (OpenSpec.ofChange flashAgainSpec)

/-- ITS FALSE NEIGHBOUR: 'it returns false'. Refute it at one input. -/
def flashAgainWrong : ChangeSpec := { name := "flashAgain", fn := fun _ => fun
  | [d1, d2, d3, d4] => { results := [.lit (.bool false)], args := [d1, d2, d3, d4] }
  | _ => none }
def FlashAgainWrongFalsely : Prop := flashAgainRow.holds Try.pinned (OpenSpec.ofChange flashAgainWrong)

/-- 'slotmeshlaw23.FlashOrder': WHATEVER THE INPUT: true; the input reads as it did. -/
def flashOrderSpec : ChangeSpec := { name := "flashOrder", fn := fun _ => fun
  | [d1, d2, d3, d4, d5] => { results := [.lit (.bool true)], args := [d1, d2, d3, d4, d5] }
  | _ => none }
def flashOrderRow : OpenClaim := { program := "ytdoehnnhbfmleaa", sum := "57bf02bfe06d0ec52a1c27f84bf0f4ead0d295cd691df37a42f49571246b6ec6", func := "slotmesh/slotmeshlaw23.FlashOrder", spec := "flashOrder", inPlace := ["internal/bytealg.MakeNoZero"], unfollowed := true, recurses := true, apart := false }
def FlashOrderSaid : Prop := flashOrderRow.holds Try.pinned (OpenSpec.ofChange flashOrderSpec)

/-- ITS FALSE NEIGHBOUR: 'it returns false'. Refute it at one input. -/
def flashOrderWrong : ChangeSpec := { name := "flashOrder", fn := fun _ => fun
  | [d1, d2, d3, d4, d5] => { results := [.lit (.bool false)], args := [d1, d2, d3, d4, d5] }
  | _ => none }
def FlashOrderWrongFalsely : Prop := flashOrderRow.holds Try.pinned (OpenSpec.ofChange flashOrderWrong)

/-- 'slotmeshlaw23.FlashErasing': WHATEVER THE INPUT: true; the input reads as it did. -/
def flashErasingSpec : ChangeSpec := { name := "flashErasing", fn := fun _ => fun
  | [d1, d2, d3] => { results := [.lit (.bool true)], args := [d1, d2, d3] }
  | _ => none }
def flashErasingRow : OpenClaim := { program := "ytdoehnnhbfmleaa", sum := "57bf02bfe06d0ec52a1c27f84bf0f4ead0d295cd691df37a42f49571246b6ec6", func := "slotmesh/slotmeshlaw23.FlashErasing", spec := "flashErasing", inPlace := ["internal/bytealg.MakeNoZero"], unfollowed := true, recurses := true, apart := false }
def FlashErasingSaid : Prop := flashErasingRow.holds Try.pinned (OpenSpec.ofChange flashErasingSpec)

/-- ITS FALSE NEIGHBOUR: 'it returns false'. Refute it at one input. -/
def flashErasingWrong : ChangeSpec := { name := "flashErasing", fn := fun _ => fun
  | [d1, d2, d3] => { results := [.lit (.bool false)], args := [d1, d2, d3] }
  | _ => none }
def FlashErasingWrongFalsely : Prop := flashErasingRow.holds Try.pinned (OpenSpec.ofChange flashErasingWrong)

/-- 'slotmeshlaw23.FlashParts': WHATEVER THE INPUT: true; the input reads as it did. -/
def flashPartsSpec : ChangeSpec := { name := "flashParts", fn := fun _ => fun
  | [d1, d2, d3, d4] => { results := [.lit (.bool true)], args := [d1, d2, d3, d4] }
  | _ => none }
def flashPartsRow : OpenClaim := { program := "ytdoehnnhbfmleaa", sum := "57bf02bfe06d0ec52a1c27f84bf0f4ead0d295cd691df37a42f49571246b6ec6", func := "slotmesh/slotmeshlaw23.FlashParts", spec := "flashParts", inPlace := ["internal/bytealg.MakeNoZero"], unfollowed := true, recurses := true, apart := false }
def FlashPartsSaid : Prop := flashPartsRow.holds Try.pinned (OpenSpec.ofChange flashPartsSpec)

/-- ITS FALSE NEIGHBOUR: 'it returns false'. Refute it at one input. -/
def flashPartsWrong : ChangeSpec := { name := "flashParts", fn := fun _ => fun
  | [d1, d2, d3, d4] => { results := [.lit (.bool false)], args := [d1, d2, d3, d4] }
  | _ => none }
def FlashPartsWrongFalsely : Prop := flashPartsRow.holds Try.pinned (OpenSpec.ofChange flashPartsWrong)

/-- 'slotmeshlaw24.JournalMatchesReference': WHATEVER THE INPUT: true; the input reads as it did. -/
def journalMatchesReferenceSpec : ChangeSpec := { name := "journalMatchesReference", fn := fun _ => fun
  | [d1, d2, d3, d4, d5] => { results := [.lit (.bool true)], args := [d1, d2, d3, d4, d5] }
  | _ => none }
def journalMatchesReferenceRow : OpenClaim := { program := "ytdoehnnhbfmleaa", sum := "57bf02bfe06d0ec52a1c27f84bf0f4ead0d295cd691df37a42f49571246b6ec6", func := "slotmesh/slotmeshlaw24.JournalMatchesReference", spec := "journalMatchesReference", inPlace := ["internal/bytealg.MakeNoZero"], unfollowed := true, recurses := true, apart := false }
def JournalMatchesReferenceSaid : Prop := journalMatchesReferenceRow.holds Try.pinned (OpenSpec.ofChange journalMatchesReferenceSpec)

/-- ITS FALSE NEIGHBOUR: 'it returns false'. Refute it at one input. -/
def journalMatchesReferenceWrong : ChangeSpec := { name := "journalMatchesReference", fn := fun _ => fun
  | [d1, d2, d3, d4, d5] => { results := [.lit (.bool false)], args := [d1, d2, d3, d4, d5] }
  | _ => none }
def JournalMatchesReferenceWrongFalsely : Prop := journalMatchesReferenceRow.holds Try.pinned (OpenSpec.ofChange journalMatchesReferenceWrong)

/-- 'slotmeshlaw24.JournalTorn': WHATEVER THE INPUT: true; the input reads as it did. -/
def journalTornSpec : ChangeSpec := { name := "journalTorn", fn := fun _ => fun
  | [d1, d2, d3] => { results := [.lit (.bool true)], args := [d1, d2, d3] }
  | _ => none }
def journalTornRow : OpenClaim := { program := "ytdoehnnhbfmleaa", sum := "57bf02bfe06d0ec52a1c27f84bf0f4ead0d295cd691df37a42f49571246b6ec6", func := "slotmesh/slotmeshlaw24.JournalTorn", spec := "journalTorn", inPlace := ["internal/bytealg.MakeNoZero"], unfollowed := true, recurses := true, apart := false }
def JournalTornSaid : Prop := journalTornRow.holds Try.pinned (OpenSpec.ofChange journalTornSpec)

/-- ITS FALSE NEIGHBOUR: 'it returns false'. Refute it at one input. -/
def journalTornWrong : ChangeSpec := { name := "journalTorn", fn := fun _ => fun
  | [d1, d2, d3] => { results := [.lit (.bool false)], args := [d1, d2, d3] }
  | _ => none }
def JournalTornWrongFalsely : Prop := journalTornRow.holds Try.pinned (OpenSpec.ofChange journalTornWrong)

/-- 'slotmeshlaw24.JournalSequence': WHATEVER THE INPUT: true; the input reads as it did. -/
def journalSequenceSpec : ChangeSpec := { name := "journalSequence", fn := fun _ => fun
  | [d1, d2, d3] => { results := [.lit (.bool true)], args := [d1, d2, d3] }
  | _ => none }
def journalSequenceRow : OpenClaim := { program := "ytdoehnnhbfmleaa", sum := "57bf02bfe06d0ec52a1c27f84bf0f4ead0d295cd691df37a42f49571246b6ec6", func := "slotmesh/slotmeshlaw24.JournalSequence", spec := "journalSequence", inPlace := ["internal/bytealg.MakeNoZero"], unfollowed := true, recurses := true, apart := false }
def JournalSequenceSaid : Prop := journalSequenceRow.holds Try.pinned (OpenSpec.ofChange journalSequenceSpec)

/-- ITS FALSE NEIGHBOUR: 'it returns false'. Refute it at one input. -/
def journalSequenceWrong : ChangeSpec := { name := "journalSequence", fn := fun _ => fun
  | [d1, d2, d3] => { results := [.lit (.bool false)], args := [d1, d2, d3] }
  | _ => none }
def JournalSequenceWrongFalsely : Prop := journalSequenceRow.holds Try.pinned (OpenSpec.ofChange journalSequenceWrong)

/-- 'slotmeshlaw24.JournalAgain': WHATEVER THE INPUT: true; the input reads as it did. -/
def journalAgainSpec : ChangeSpec := { name := "journalAgain", fn := fun _ => fun
  | [d1, d2, d3, d4] => { results := [.lit (.bool true)], args := [d1, d2, d3, d4] }
  | _ => none }
def journalAgainRow : OpenClaim := { program := "ytdoehnnhbfmleaa", sum := "57bf02bfe06d0ec52a1c27f84bf0f4ead0d295cd691df37a42f49571246b6ec6", func := "slotmesh/slotmeshlaw24.JournalAgain", spec := "journalAgain", inPlace := ["internal/bytealg.MakeNoZero"], unfollowed := true, recurses := true, apart := false }
def JournalAgainSaid : Prop := journalAgainRow.holds Try.pinned (OpenSpec.ofChange journalAgainSpec)

/-- ITS FALSE NEIGHBOUR: 'it returns false'. Refute it at one input. -/
def journalAgainWrong : ChangeSpec := { name := "journalAgain", fn := fun _ => fun
  | [d1, d2, d3, d4] => { results := [.lit (.bool false)], args := [d1, d2, d3, d4] }
  | _ => none }
def JournalAgainWrongFalsely : Prop := journalAgainRow.holds Try.pinned (OpenSpec.ofChange journalAgainWrong)

/-- 'slotmeshlaw24.JournalRewrites': WHATEVER THE INPUT: true; the input reads as it did. -/
def journalRewritesSpec : ChangeSpec := { name := "journalRewrites", fn := fun _ => fun
  | [d1, d2, d3] => { results := [.lit (.bool true)], args := [d1, d2, d3] }
  | _ => none }
def journalRewritesRow : OpenClaim := { program := "ytdoehnnhbfmleaa", sum := "57bf02bfe06d0ec52a1c27f84bf0f4ead0d295cd691df37a42f49571246b6ec6", func := "slotmesh/slotmeshlaw24.JournalRewrites", spec := "journalRewrites", inPlace := ["internal/bytealg.MakeNoZero"], unfollowed := true, recurses := true, apart := false }
def JournalRewritesSaid : Prop := journalRewritesRow.holds Try.pinned (OpenSpec.ofChange journalRewritesSpec)

/-- ITS FALSE NEIGHBOUR: 'it returns false'. Refute it at one input. -/
def journalRewritesWrong : ChangeSpec := { name := "journalRewrites", fn := fun _ => fun
  | [d1, d2, d3] => { results := [.lit (.bool false)], args := [d1, d2, d3] }
  | _ => none }
def JournalRewritesWrongFalsely : Prop := journalRewritesRow.holds Try.pinned (OpenSpec.ofChange journalRewritesWrong)

/-- 'slotmeshlaw24.JournalRoom': WHATEVER THE INPUT: true; the input reads as it did. -/
def journalRoomSpec : ChangeSpec := { name := "journalRoom", fn := fun _ => fun
  | [d1, d2, d3] => { results := [.lit (.bool true)], args := [d1, d2, d3] }
  | _ => none }
def journalRoomRow : OpenClaim := { program := "ytdoehnnhbfmleaa", sum := "57bf02bfe06d0ec52a1c27f84bf0f4ead0d295cd691df37a42f49571246b6ec6", func := "slotmesh/slotmeshlaw24.JournalRoom", spec := "journalRoom", inPlace := ["internal/bytealg.MakeNoZero"], unfollowed := true, recurses := true, apart := false }
def JournalRoomSaid : Prop := journalRoomRow.holds Try.pinned (OpenSpec.ofChange journalRoomSpec)

/-- ITS FALSE NEIGHBOUR: 'it returns false'. Refute it at one input. -/
def journalRoomWrong : ChangeSpec := { name := "journalRoom", fn := fun _ => fun
  | [d1, d2, d3] => { results := [.lit (.bool false)], args := [d1, d2, d3] }
  | _ => none }
def JournalRoomWrongFalsely : Prop := journalRoomRow.holds Try.pinned (OpenSpec.ofChange journalRoomWrong)

/-- 'slotmeshlaw24.JournalDamage': WHATEVER THE INPUT: true; the input reads as it did. -/
def journalDamageSpec : ChangeSpec := { name := "journalDamage", fn := fun _ => fun
  | [d1, d2, d3, d4] => { results := [.lit (.bool true)], args := [d1, d2, d3, d4] }
  | _ => none }
def journalDamageRow : OpenClaim := { program := "ytdoehnnhbfmleaa", sum := "57bf02bfe06d0ec52a1c27f84bf0f4ead0d295cd691df37a42f49571246b6ec6", func := "slotmesh/slotmeshlaw24.JournalDamage", spec := "journalDamage", inPlace := ["internal/bytealg.MakeNoZero"], unfollowed := true, recurses := true, apart := false }
def JournalDamageSaid : Prop := journalDamageRow.holds Try.pinned (OpenSpec.ofChange journalDamageSpec)

/-- ITS FALSE NEIGHBOUR: 'it returns false'. Refute it at one input. -/
def journalDamageWrong : ChangeSpec := { name := "journalDamage", fn := fun _ => fun
  | [d1, d2, d3, d4] => { results := [.lit (.bool false)], args := [d1, d2, d3, d4] }
  | _ => none }
def JournalDamageWrongFalsely : Prop := journalDamageRow.holds Try.pinned (OpenSpec.ofChange journalDamageWrong)

/-- 'slotmeshlaw38.BootMatchesReference': WHATEVER THE INPUT: true; the input reads as it did. -/
def bootMatchesReferenceSpec : ChangeSpec := { name := "bootMatchesReference", fn := fun _ => fun
  | [d1, d2, d3, d4] => { results := [.lit (.bool true)], args := [d1, d2, d3, d4] }
  | _ => none }
def bootMatchesReferenceRow : OpenClaim := { program := "ytdoehnnhbfmleaa", sum := "57bf02bfe06d0ec52a1c27f84bf0f4ead0d295cd691df37a42f49571246b6ec6", func := "slotmesh/slotmeshlaw38.BootMatchesReference", spec := "bootMatchesReference", inPlace := ["internal/bytealg.MakeNoZero"], unfollowed := true, recurses := true, apart := false }
def BootMatchesReferenceSaid : Prop := bootMatchesReferenceRow.holds Try.pinned (OpenSpec.ofChange bootMatchesReferenceSpec)

/-- ITS FALSE NEIGHBOUR: 'it returns false'. Refute it at one input. -/
def bootMatchesReferenceWrong : ChangeSpec := { name := "bootMatchesReference", fn := fun _ => fun
  | [d1, d2, d3, d4] => { results := [.lit (.bool false)], args := [d1, d2, d3, d4] }
  | _ => none }
def BootMatchesReferenceWrongFalsely : Prop := bootMatchesReferenceRow.holds Try.pinned (OpenSpec.ofChange bootMatchesReferenceWrong)

/-- 'slotmeshlaw38.BootOldOrNew': WHATEVER THE INPUT: true; the input reads as it did. -/
def bootOldOrNewSpec : ChangeSpec := { name := "bootOldOrNew", fn := fun _ => fun
  | [d1, d2, d3] => { results := [.lit (.bool true)], args := [d1, d2, d3] }
  | _ => none }
def bootOldOrNewRow : OpenClaim := { program := "ytdoehnnhbfmleaa", sum := "57bf02bfe06d0ec52a1c27f84bf0f4ead0d295cd691df37a42f49571246b6ec6", func := "slotmesh/slotmeshlaw38.BootOldOrNew", spec := "bootOldOrNew", inPlace := ["internal/bytealg.MakeNoZero"], unfollowed := true, recurses := true, apart := false }
def BootOldOrNewSaid : Prop := bootOldOrNewRow.holds Try.pinned (OpenSpec.ofChange bootOldOrNewSpec)

/-- ITS FALSE NEIGHBOUR: 'it returns false'. Refute it at one input. -/
def bootOldOrNewWrong : ChangeSpec := { name := "bootOldOrNew", fn := fun _ => fun
  | [d1, d2, d3] => { results := [.lit (.bool false)], args := [d1, d2, d3] }
  | _ => none }
def BootOldOrNewWrongFalsely : Prop := bootOldOrNewRow.holds Try.pinned (OpenSpec.ofChange bootOldOrNewWrong)

/-- 'slotmeshlaw38.BootStarting': WHATEVER THE INPUT: true; the input reads as it did. -/
def bootStartingSpec : ChangeSpec := { name := "bootStarting", fn := fun _ => fun
  | [d1, d2, d3, d4] => { results := [.lit (.bool true)], args := [d1, d2, d3, d4] }
  | _ => none }
def bootStartingRow : OpenClaim := { program := "ytdoehnnhbfmleaa", sum := "57bf02bfe06d0ec52a1c27f84bf0f4ead0d295cd691df37a42f49571246b6ec6", func := "slotmesh/slotmeshlaw38.BootStarting", spec := "bootStarting", inPlace := ["internal/bytealg.MakeNoZero"], unfollowed := true, recurses := true, apart := false }
def BootStartingSaid : Prop := bootStartingRow.holds Try.pinned (OpenSpec.ofChange bootStartingSpec)

/-- ITS FALSE NEIGHBOUR: 'it returns false'. Refute it at one input. -/
def bootStartingWrong : ChangeSpec := { name := "bootStarting", fn := fun _ => fun
  | [d1, d2, d3, d4] => { results := [.lit (.bool false)], args := [d1, d2, d3, d4] }
  | _ => none }
def BootStartingWrongFalsely : Prop := bootStartingRow.holds Try.pinned (OpenSpec.ofChange bootStartingWrong)

/-- 'slotmeshlaw38.BootAgain': WHATEVER THE INPUT: true; the input reads as it did. -/
def bootAgainSpec : ChangeSpec := { name := "bootAgain", fn := fun _ => fun
  | [d1, d2, d3, d4, d5] => { results := [.lit (.bool true)], args := [d1, d2, d3, d4, d5] }
  | _ => none }
def bootAgainRow : OpenClaim := { program := "ytdoehnnhbfmleaa", sum := "57bf02bfe06d0ec52a1c27f84bf0f4ead0d295cd691df37a42f49571246b6ec6", func := "slotmesh/slotmeshlaw38.BootAgain", spec := "bootAgain", inPlace := ["internal/bytealg.MakeNoZero"], unfollowed := true, recurses := true, apart := false }
def BootAgainSaid : Prop := bootAgainRow.holds Try.pinned (OpenSpec.ofChange bootAgainSpec)

/-- ITS FALSE NEIGHBOUR: 'it returns false'. Refute it at one input. -/
def bootAgainWrong : ChangeSpec := { name := "bootAgain", fn := fun _ => fun
  | [d1, d2, d3, d4, d5] => { results := [.lit (.bool false)], args := [d1, d2, d3, d4, d5] }
  | _ => none }
def BootAgainWrongFalsely : Prop := bootAgainRow.holds Try.pinned (OpenSpec.ofChange bootAgainWrong)

/-- 'slotmeshlaw38.BootMarks': WHATEVER THE INPUT: true; the input reads as it did. -/
def bootMarksSpec : ChangeSpec := { name := "bootMarks", fn := fun _ => fun
  | [d1, d2, d3] => { results := [.lit (.bool true)], args := [d1, d2, d3] }
  | _ => none }
def bootMarksRow : OpenClaim := { program := "ytdoehnnhbfmleaa", sum := "57bf02bfe06d0ec52a1c27f84bf0f4ead0d295cd691df37a42f49571246b6ec6", func := "slotmesh/slotmeshlaw38.BootMarks", spec := "bootMarks", inPlace := ["internal/bytealg.MakeNoZero"], unfollowed := true, recurses := true, apart := false }
def BootMarksSaid : Prop := bootMarksRow.holds Try.pinned (OpenSpec.ofChange bootMarksSpec)

/-- ITS FALSE NEIGHBOUR: 'it returns false'. Refute it at one input. -/
def bootMarksWrong : ChangeSpec := { name := "bootMarks", fn := fun _ => fun
  | [d1, d2, d3] => { results := [.lit (.bool false)], args := [d1, d2, d3] }
  | _ => none }
def BootMarksWrongFalsely : Prop := bootMarksRow.holds Try.pinned (OpenSpec.ofChange bootMarksWrong)

/-- 'slotmeshlaw38.BootDamage': WHATEVER THE INPUT: true; the input reads as it did. -/
def bootDamageSpec : ChangeSpec := { name := "bootDamage", fn := fun _ => fun
  | [d1, d2, d3, d4] => { results := [.lit (.bool true)], args := [d1, d2, d3, d4] }
  | _ => none }
def bootDamageRow : OpenClaim := { program := "ytdoehnnhbfmleaa", sum := "57bf02bfe06d0ec52a1c27f84bf0f4ead0d295cd691df37a42f49571246b6ec6", func := "slotmesh/slotmeshlaw38.BootDamage", spec := "bootDamage", inPlace := ["internal/bytealg.MakeNoZero"], unfollowed := true, recurses := true, apart := false }
def BootDamageSaid : Prop := bootDamageRow.holds Try.pinned (OpenSpec.ofChange bootDamageSpec)

/-- ITS FALSE NEIGHBOUR: 'it returns false'. Refute it at one input. -/
def bootDamageWrong : ChangeSpec := { name := "bootDamage", fn := fun _ => fun
  | [d1, d2, d3, d4] => { results := [.lit (.bool false)], args := [d1, d2, d3, d4] }
  | _ => none }
def BootDamageWrongFalsely : Prop := bootDamageRow.holds Try.pinned (OpenSpec.ofChange bootDamageWrong)

/-- 'slotmeshlaw38.BootRest': WHATEVER THE INPUT: true; the input reads as it did. -/
def bootRestSpec : ChangeSpec := { name := "bootRest", fn := fun _ => fun
  | [d1, d2, d3] => { results := [.lit (.bool true)], args := [d1, d2, d3] }
  | _ => none }
def bootRestRow : OpenClaim := { program := "ytdoehnnhbfmleaa", sum := "57bf02bfe06d0ec52a1c27f84bf0f4ead0d295cd691df37a42f49571246b6ec6", func := "slotmesh/slotmeshlaw38.BootRest", spec := "bootRest", inPlace := ["internal/bytealg.MakeNoZero"], unfollowed := true, recurses := true, apart := false }
def BootRestSaid : Prop := bootRestRow.holds Try.pinned (OpenSpec.ofChange bootRestSpec)

/-- ITS FALSE NEIGHBOUR: 'it returns false'. Refute it at one input. -/
def bootRestWrong : ChangeSpec := { name := "bootRest", fn := fun _ => fun
  | [d1, d2, d3] => { results := [.lit (.bool false)], args := [d1, d2, d3] }
  | _ => none }
def BootRestWrongFalsely : Prop := bootRestRow.holds Try.pinned (OpenSpec.ofChange bootRestWrong)

/-- 'slotmeshlaw25.CustodyTorn': WHATEVER THE INPUT: true; the input reads as it did. -/
def custodyTornSpec : ChangeSpec := { name := "custodyTorn", fn := fun _ => fun
  | [d1, d2, d3, d4] => { results := [.lit (.bool true)], args := [d1, d2, d3, d4] }
  | _ => none }
def custodyTornRow : OpenClaim := { program := "ytdoehnnhbfmleaa", sum := "57bf02bfe06d0ec52a1c27f84bf0f4ead0d295cd691df37a42f49571246b6ec6", func := "slotmesh/slotmeshlaw25.CustodyTorn", spec := "custodyTorn", inPlace := ["internal/bytealg.MakeNoZero", "internal/reflectlite.TypeOf"], unfollowed := true, recurses := true, apart := false }
def CustodyTornSaid : Prop := custodyTornRow.holds Try.pinned (OpenSpec.ofChange custodyTornSpec)

/-- ITS FALSE NEIGHBOUR: 'it returns false'. Refute it at one input. -/
def custodyTornWrong : ChangeSpec := { name := "custodyTorn", fn := fun _ => fun
  | [d1, d2, d3, d4] => { results := [.lit (.bool false)], args := [d1, d2, d3, d4] }
  | _ => none }
def CustodyTornWrongFalsely : Prop := custodyTornRow.holds Try.pinned (OpenSpec.ofChange custodyTornWrong)

/-- 'slotmeshlaw25.CustodySequence': WHATEVER THE INPUT: true; the input reads as it did. -/
def custodySequenceSpec : ChangeSpec := { name := "custodySequence", fn := fun _ => fun
  | [d1, d2] => { results := [.lit (.bool true)], args := [d1, d2] }
  | _ => none }
def custodySequenceRow : OpenClaim := { program := "ytdoehnnhbfmleaa", sum := "57bf02bfe06d0ec52a1c27f84bf0f4ead0d295cd691df37a42f49571246b6ec6", func := "slotmesh/slotmeshlaw25.CustodySequence", spec := "custodySequence", inPlace := ["internal/bytealg.MakeNoZero", "internal/reflectlite.TypeOf"], unfollowed := true, recurses := true, apart := false }
def CustodySequenceSaid : Prop := custodySequenceRow.holds Try.pinned (OpenSpec.ofChange custodySequenceSpec)

/-- ITS FALSE NEIGHBOUR: 'it returns false'. Refute it at one input. -/
def custodySequenceWrong : ChangeSpec := { name := "custodySequence", fn := fun _ => fun
  | [d1, d2] => { results := [.lit (.bool false)], args := [d1, d2] }
  | _ => none }
def CustodySequenceWrongFalsely : Prop := custodySequenceRow.holds Try.pinned (OpenSpec.ofChange custodySequenceWrong)

/-- 'slotmeshlaw25.CustodyNumbers': WHATEVER THE INPUT: true; the input reads as it did. -/
def custodyNumbersSpec : ChangeSpec := { name := "custodyNumbers", fn := fun _ => fun
  | [d1, d2] => { results := [.lit (.bool true)], args := [d1, d2] }
  | _ => none }
def custodyNumbersRow : OpenClaim := { program := "ytdoehnnhbfmleaa", sum := "57bf02bfe06d0ec52a1c27f84bf0f4ead0d295cd691df37a42f49571246b6ec6", func := "slotmesh/slotmeshlaw25.CustodyNumbers", spec := "custodyNumbers", inPlace := ["internal/bytealg.MakeNoZero", "internal/reflectlite.TypeOf"], unfollowed := true, recurses := true, apart := false }
def CustodyNumbersSaid : Prop := custodyNumbersRow.holds Try.pinned (OpenSpec.ofChange custodyNumbersSpec)

/-- ITS FALSE NEIGHBOUR: 'it returns false'. Refute it at one input. -/
def custodyNumbersWrong : ChangeSpec := { name := "custodyNumbers", fn := fun _ => fun
  | [d1, d2] => { results := [.lit (.bool false)], args := [d1, d2] }
  | _ => none }
def CustodyNumbersWrongFalsely : Prop := custodyNumbersRow.holds Try.pinned (OpenSpec.ofChange custodyNumbersWrong)

/-- 'slotmeshlaw25.CustodyOthers': WHATEVER THE INPUT: true; the input reads as it did. -/
def custodyOthersSpec : ChangeSpec := { name := "custodyOthers", fn := fun _ => fun
  | [d1, d2, d3, d4, d5] => { results := [.lit (.bool true)], args := [d1, d2, d3, d4, d5] }
  | _ => none }
def custodyOthersRow : OpenClaim := { program := "ytdoehnnhbfmleaa", sum := "57bf02bfe06d0ec52a1c27f84bf0f4ead0d295cd691df37a42f49571246b6ec6", func := "slotmesh/slotmeshlaw25.CustodyOthers", spec := "custodyOthers", inPlace := ["internal/bytealg.MakeNoZero", "internal/reflectlite.TypeOf"], unfollowed := true, recurses := true, apart := false }
def CustodyOthersSaid : Prop := custodyOthersRow.holds Try.pinned (OpenSpec.ofChange custodyOthersSpec)

/-- ITS FALSE NEIGHBOUR: 'it returns false'. Refute it at one input. -/
def custodyOthersWrong : ChangeSpec := { name := "custodyOthers", fn := fun _ => fun
  | [d1, d2, d3, d4, d5] => { results := [.lit (.bool false)], args := [d1, d2, d3, d4, d5] }
  | _ => none }
def CustodyOthersWrongFalsely : Prop := custodyOthersRow.holds Try.pinned (OpenSpec.ofChange custodyOthersWrong)

/- THE SECOND FORM. 'bulk': how many values and letters a reading holds, each counted each time it is reached (what is shared counts as often as it is met; a slice's spare places count too). A statement '..UptoSaid' is the law's where the arguments, and the package variables that the reading takes, are together of bulk at most 1048576: NARROWER than '..Said'. Prove '..Said' where nothing that the law and all that it calls make is longer than what came in: it says more and counts as full. Else prove '..UptoSaid'. A law counts once. -/
mutual
def uptoBulk {H : Type} : DataW H → Nat
  | .lit (.string bytes) => bytes.length + 1
  | .lit _ => 1
  | .nil => 1
  | .ptr d => uptoBulk d + 1
  | .slice elems spare => uptoBulkAll elems + uptoBulkAll spare + 1
  | .agg parts => uptoBulkAll parts + 1
  | .iface _ d => uptoBulk d + 1
  | .map entries => uptoBulkEntries entries + 1
  | .held _ => 1
def uptoBulkAll {H : Type} : List (DataW H) → Nat
  | [] => 0
  | d :: r => uptoBulk d + uptoBulkAll r
def uptoBulkEntries {H : Type} : List (Lit × DataW H) → Nat
  | [] => 0
  | x :: r => uptoBulkEntry x + uptoBulkEntries r
def uptoBulkEntry {H : Type} : Lit × DataW H → Nat
  | (.string bytes, d) => bytes.length + uptoBulk d + 1
  | (_, d) => uptoBulk d + 1
 end
def uptoSmall : (H : Type) → List (DataW H) → Bool := fun _ ds => decide (uptoBulkAll ds ≤ 1048576)
def OpenSpec.upto (s : _root_.Go.ChangeSpec) : _root_.Go.OpenSpec := { _root_.Go.OpenSpec.ofChange s with cond := some uptoSmall }

/-- 'slotmeshlaw23.FlashMatchesReference', WHERE WHAT IT READS IS OF BULK AT MOST 1048576: true; the input reads as it did. -/
def flashMatchesReferenceUptoRow : OpenClaim := { program := "ytdoehnnhbfmleaa", sum := "57bf02bfe06d0ec52a1c27f84bf0f4ead0d295cd691df37a42f49571246b6ec6", func := "slotmesh/slotmeshlaw23.FlashMatchesReference", spec := "flashMatchesReference", inPlace := ["internal/bytealg.MakeNoZero"], unfollowed := true, recurses := true, apart := false, narrowed := true }
def FlashMatchesReferenceUptoSaid : Prop := flashMatchesReferenceUptoRow.holds Try.pinned (OpenSpec.upto flashMatchesReferenceSpec)

/-- 'slotmeshlaw23.FlashSteps', WHERE WHAT IT READS IS OF BULK AT MOST 1048576: true; the input reads as it did. -/
def flashStepsUptoRow : OpenClaim := { program := "ytdoehnnhbfmleaa", sum := "57bf02bfe06d0ec52a1c27f84bf0f4ead0d295cd691df37a42f49571246b6ec6", func := "slotmesh/slotmeshlaw23.FlashSteps", spec := "flashSteps", inPlace := ["internal/bytealg.MakeNoZero"], unfollowed := true, recurses := true, apart := false, narrowed := true }
def FlashStepsUptoSaid : Prop := flashStepsUptoRow.holds Try.pinned (OpenSpec.upto flashStepsSpec)

/-- 'slotmeshlaw23.FlashErased', WHERE WHAT IT READS IS OF BULK AT MOST 1048576: true; the input reads as it did. -/
def flashErasedUptoRow : OpenClaim := { program := "ytdoehnnhbfmleaa", sum := "57bf02bfe06d0ec52a1c27f84bf0f4ead0d295cd691df37a42f49571246b6ec6", func := "slotmesh/slotmeshlaw23.FlashErased", spec := "flashErased", inPlace := ["internal/bytealg.MakeNoZero"], unfollowed := true, recurses := true, apart := false, narrowed := true }
def FlashErasedUptoSaid : Prop := flashErasedUptoRow.holds Try.pinned (OpenSpec.upto flashErasedSpec)

/-- 'slotmeshlaw23.FlashAgain', WHERE WHAT IT READS IS OF BULK AT MOST 1048576: true; the input reads as it did. -/
def flashAgainUptoRow : OpenClaim := { program := "ytdoehnnhbfmleaa", sum := "57bf02bfe06d0ec52a1c27f84bf0f4ead0d295cd691df37a42f49571246b6ec6", func := "slotmesh/slotmeshlaw23.FlashAgain", spec := "flashAgain", inPlace := ["internal/bytealg.MakeNoZero"], unfollowed := true, recurses := true, apart := false, narrowed := true }
def FlashAgainUptoSaid : Prop := flashAgainUptoRow.holds Try.pinned (OpenSpec.upto flashAgainSpec)

/-- 'slotmeshlaw23.FlashOrder', WHERE WHAT IT READS IS OF BULK AT MOST 1048576: true; the input reads as it did. -/
def flashOrderUptoRow : OpenClaim := { program := "ytdoehnnhbfmleaa", sum := "57bf02bfe06d0ec52a1c27f84bf0f4ead0d295cd691df37a42f49571246b6ec6", func := "slotmesh/slotmeshlaw23.FlashOrder", spec := "flashOrder", inPlace := ["internal/bytealg.MakeNoZero"], unfollowed := true, recurses := true, apart := false, narrowed := true }
def FlashOrderUptoSaid : Prop := flashOrderUptoRow.holds Try.pinned (OpenSpec.upto flashOrderSpec)

/-- 'slotmeshlaw23.FlashErasing', WHERE WHAT IT READS IS OF BULK AT MOST 1048576: true; the input reads as it did. -/
def flashErasingUptoRow : OpenClaim := { program := "ytdoehnnhbfmleaa", sum := "57bf02bfe06d0ec52a1c27f84bf0f4ead0d295cd691df37a42f49571246b6ec6", func := "slotmesh/slotmeshlaw23.FlashErasing", spec := "flashErasing", inPlace := ["internal/bytealg.MakeNoZero"], unfollowed := true, recurses := true, apart := false, narrowed := true }
def FlashErasingUptoSaid : Prop := flashErasingUptoRow.holds Try.pinned (OpenSpec.upto flashErasingSpec)

/-- 'slotmeshlaw23.FlashParts', WHERE WHAT IT READS IS OF BULK AT MOST 1048576: true; the input reads as it did. -/
def flashPartsUptoRow : OpenClaim := { program := "ytdoehnnhbfmleaa", sum := "57bf02bfe06d0ec52a1c27f84bf0f4ead0d295cd691df37a42f49571246b6ec6", func := "slotmesh/slotmeshlaw23.FlashParts", spec := "flashParts", inPlace := ["internal/bytealg.MakeNoZero"], unfollowed := true, recurses := true, apart := false, narrowed := true }
def FlashPartsUptoSaid : Prop := flashPartsUptoRow.holds Try.pinned (OpenSpec.upto flashPartsSpec)

/-- 'slotmeshlaw24.JournalMatchesReference', WHERE WHAT IT READS IS OF BULK AT MOST 1048576: true; the input reads as it did. -/
def journalMatchesReferenceUptoRow : OpenClaim := { program := "ytdoehnnhbfmleaa", sum := "57bf02bfe06d0ec52a1c27f84bf0f4ead0d295cd691df37a42f49571246b6ec6", func := "slotmesh/slotmeshlaw24.JournalMatchesReference", spec := "journalMatchesReference", inPlace := ["internal/bytealg.MakeNoZero"], unfollowed := true, recurses := true, apart := false, narrowed := true }
def JournalMatchesReferenceUptoSaid : Prop := journalMatchesReferenceUptoRow.holds Try.pinned (OpenSpec.upto journalMatchesReferenceSpec)

/-- 'slotmeshlaw24.JournalTorn', WHERE WHAT IT READS IS OF BULK AT MOST 1048576: true; the input reads as it did. -/
def journalTornUptoRow : OpenClaim := { program := "ytdoehnnhbfmleaa", sum := "57bf02bfe06d0ec52a1c27f84bf0f4ead0d295cd691df37a42f49571246b6ec6", func := "slotmesh/slotmeshlaw24.JournalTorn", spec := "journalTorn", inPlace := ["internal/bytealg.MakeNoZero"], unfollowed := true, recurses := true, apart := false, narrowed := true }
def JournalTornUptoSaid : Prop := journalTornUptoRow.holds Try.pinned (OpenSpec.upto journalTornSpec)

/-- 'slotmeshlaw24.JournalSequence', WHERE WHAT IT READS IS OF BULK AT MOST 1048576: true; the input reads as it did. -/
def journalSequenceUptoRow : OpenClaim := { program := "ytdoehnnhbfmleaa", sum := "57bf02bfe06d0ec52a1c27f84bf0f4ead0d295cd691df37a42f49571246b6ec6", func := "slotmesh/slotmeshlaw24.JournalSequence", spec := "journalSequence", inPlace := ["internal/bytealg.MakeNoZero"], unfollowed := true, recurses := true, apart := false, narrowed := true }
def JournalSequenceUptoSaid : Prop := journalSequenceUptoRow.holds Try.pinned (OpenSpec.upto journalSequenceSpec)

/-- 'slotmeshlaw24.JournalAgain', WHERE WHAT IT READS IS OF BULK AT MOST 1048576: true; the input reads as it did. -/
def journalAgainUptoRow : OpenClaim := { program := "ytdoehnnhbfmleaa", sum := "57bf02bfe06d0ec52a1c27f84bf0f4ead0d295cd691df37a42f49571246b6ec6", func := "slotmesh/slotmeshlaw24.JournalAgain", spec := "journalAgain", inPlace := ["internal/bytealg.MakeNoZero"], unfollowed := true, recurses := true, apart := false, narrowed := true }
def JournalAgainUptoSaid : Prop := journalAgainUptoRow.holds Try.pinned (OpenSpec.upto journalAgainSpec)

/-- 'slotmeshlaw24.JournalRewrites', WHERE WHAT IT READS IS OF BULK AT MOST 1048576: true; the input reads as it did. -/
def journalRewritesUptoRow : OpenClaim := { program := "ytdoehnnhbfmleaa", sum := "57bf02bfe06d0ec52a1c27f84bf0f4ead0d295cd691df37a42f49571246b6ec6", func := "slotmesh/slotmeshlaw24.JournalRewrites", spec := "journalRewrites", inPlace := ["internal/bytealg.MakeNoZero"], unfollowed := true, recurses := true, apart := false, narrowed := true }
def JournalRewritesUptoSaid : Prop := journalRewritesUptoRow.holds Try.pinned (OpenSpec.upto journalRewritesSpec)

/-- 'slotmeshlaw24.JournalRoom', WHERE WHAT IT READS IS OF BULK AT MOST 1048576: true; the input reads as it did. -/
def journalRoomUptoRow : OpenClaim := { program := "ytdoehnnhbfmleaa", sum := "57bf02bfe06d0ec52a1c27f84bf0f4ead0d295cd691df37a42f49571246b6ec6", func := "slotmesh/slotmeshlaw24.JournalRoom", spec := "journalRoom", inPlace := ["internal/bytealg.MakeNoZero"], unfollowed := true, recurses := true, apart := false, narrowed := true }
def JournalRoomUptoSaid : Prop := journalRoomUptoRow.holds Try.pinned (OpenSpec.upto journalRoomSpec)

/-- 'slotmeshlaw24.JournalDamage', WHERE WHAT IT READS IS OF BULK AT MOST 1048576: true; the input reads as it did. -/
def journalDamageUptoRow : OpenClaim := { program := "ytdoehnnhbfmleaa", sum := "57bf02bfe06d0ec52a1c27f84bf0f4ead0d295cd691df37a42f49571246b6ec6", func := "slotmesh/slotmeshlaw24.JournalDamage", spec := "journalDamage", inPlace := ["internal/bytealg.MakeNoZero"], unfollowed := true, recurses := true, apart := false, narrowed := true }
def JournalDamageUptoSaid : Prop := journalDamageUptoRow.holds Try.pinned (OpenSpec.upto journalDamageSpec)

/-- 'slotmeshlaw38.BootMatchesReference', WHERE WHAT IT READS IS OF BULK AT MOST 1048576: true; the input reads as it did. -/
def bootMatchesReferenceUptoRow : OpenClaim := { program := "ytdoehnnhbfmleaa", sum := "57bf02bfe06d0ec52a1c27f84bf0f4ead0d295cd691df37a42f49571246b6ec6", func := "slotmesh/slotmeshlaw38.BootMatchesReference", spec := "bootMatchesReference", inPlace := ["internal/bytealg.MakeNoZero"], unfollowed := true, recurses := true, apart := false, narrowed := true }
def BootMatchesReferenceUptoSaid : Prop := bootMatchesReferenceUptoRow.holds Try.pinned (OpenSpec.upto bootMatchesReferenceSpec)

/-- 'slotmeshlaw38.BootOldOrNew', WHERE WHAT IT READS IS OF BULK AT MOST 1048576: true; the input reads as it did. -/
def bootOldOrNewUptoRow : OpenClaim := { program := "ytdoehnnhbfmleaa", sum := "57bf02bfe06d0ec52a1c27f84bf0f4ead0d295cd691df37a42f49571246b6ec6", func := "slotmesh/slotmeshlaw38.BootOldOrNew", spec := "bootOldOrNew", inPlace := ["internal/bytealg.MakeNoZero"], unfollowed := true, recurses := true, apart := false, narrowed := true }
def BootOldOrNewUptoSaid : Prop := bootOldOrNewUptoRow.holds Try.pinned (OpenSpec.upto bootOldOrNewSpec)

/-- 'slotmeshlaw38.BootStarting', WHERE WHAT IT READS IS OF BULK AT MOST 1048576: true; the input reads as it did. -/
def bootStartingUptoRow : OpenClaim := { program := "ytdoehnnhbfmleaa", sum := "57bf02bfe06d0ec52a1c27f84bf0f4ead0d295cd691df37a42f49571246b6ec6", func := "slotmesh/slotmeshlaw38.BootStarting", spec := "bootStarting", inPlace := ["internal/bytealg.MakeNoZero"], unfollowed := true, recurses := true, apart := false, narrowed := true }
def BootStartingUptoSaid : Prop := bootStartingUptoRow.holds Try.pinned (OpenSpec.upto bootStartingSpec)

/-- 'slotmeshlaw38.BootAgain', WHERE WHAT IT READS IS OF BULK AT MOST 1048576: true; the input reads as it did. -/
def bootAgainUptoRow : OpenClaim := { program := "ytdoehnnhbfmleaa", sum := "57bf02bfe06d0ec52a1c27f84bf0f4ead0d295cd691df37a42f49571246b6ec6", func := "slotmesh/slotmeshlaw38.BootAgain", spec := "bootAgain", inPlace := ["internal/bytealg.MakeNoZero"], unfollowed := true, recurses := true, apart := false, narrowed := true }
def BootAgainUptoSaid : Prop := bootAgainUptoRow.holds Try.pinned (OpenSpec.upto bootAgainSpec)

/-- 'slotmeshlaw38.BootMarks', WHERE WHAT IT READS IS OF BULK AT MOST 1048576: true; the input reads as it did. -/
def bootMarksUptoRow : OpenClaim := { program := "ytdoehnnhbfmleaa", sum := "57bf02bfe06d0ec52a1c27f84bf0f4ead0d295cd691df37a42f49571246b6ec6", func := "slotmesh/slotmeshlaw38.BootMarks", spec := "bootMarks", inPlace := ["internal/bytealg.MakeNoZero"], unfollowed := true, recurses := true, apart := false, narrowed := true }
def BootMarksUptoSaid : Prop := bootMarksUptoRow.holds Try.pinned (OpenSpec.upto bootMarksSpec)

/-- 'slotmeshlaw38.BootDamage', WHERE WHAT IT READS IS OF BULK AT MOST 1048576: true; the input reads as it did. -/
def bootDamageUptoRow : OpenClaim := { program := "ytdoehnnhbfmleaa", sum := "57bf02bfe06d0ec52a1c27f84bf0f4ead0d295cd691df37a42f49571246b6ec6", func := "slotmesh/slotmeshlaw38.BootDamage", spec := "bootDamage", inPlace := ["internal/bytealg.MakeNoZero"], unfollowed := true, recurses := true, apart := false, narrowed := true }
def BootDamageUptoSaid : Prop := bootDamageUptoRow.holds Try.pinned (OpenSpec.upto bootDamageSpec)

/-- 'slotmeshlaw38.BootRest', WHERE WHAT IT READS IS OF BULK AT MOST 1048576: true; the input reads as it did. -/
def bootRestUptoRow : OpenClaim := { program := "ytdoehnnhbfmleaa", sum := "57bf02bfe06d0ec52a1c27f84bf0f4ead0d295cd691df37a42f49571246b6ec6", func := "slotmesh/slotmeshlaw38.BootRest", spec := "bootRest", inPlace := ["internal/bytealg.MakeNoZero"], unfollowed := true, recurses := true, apart := false, narrowed := true }
def BootRestUptoSaid : Prop := bootRestUptoRow.holds Try.pinned (OpenSpec.upto bootRestSpec)

/-- 'slotmeshlaw25.CustodyTorn', WHERE WHAT IT READS IS OF BULK AT MOST 1048576: true; the input reads as it did. -/
def custodyTornUptoRow : OpenClaim := { program := "ytdoehnnhbfmleaa", sum := "57bf02bfe06d0ec52a1c27f84bf0f4ead0d295cd691df37a42f49571246b6ec6", func := "slotmesh/slotmeshlaw25.CustodyTorn", spec := "custodyTorn", inPlace := ["internal/bytealg.MakeNoZero", "internal/reflectlite.TypeOf"], unfollowed := true, recurses := true, apart := false, narrowed := true }
def CustodyTornUptoSaid : Prop := custodyTornUptoRow.holds Try.pinned (OpenSpec.upto custodyTornSpec)

/-- 'slotmeshlaw25.CustodySequence', WHERE WHAT IT READS IS OF BULK AT MOST 1048576: true; the input reads as it did. -/
def custodySequenceUptoRow : OpenClaim := { program := "ytdoehnnhbfmleaa", sum := "57bf02bfe06d0ec52a1c27f84bf0f4ead0d295cd691df37a42f49571246b6ec6", func := "slotmesh/slotmeshlaw25.CustodySequence", spec := "custodySequence", inPlace := ["internal/bytealg.MakeNoZero", "internal/reflectlite.TypeOf"], unfollowed := true, recurses := true, apart := false, narrowed := true }
def CustodySequenceUptoSaid : Prop := custodySequenceUptoRow.holds Try.pinned (OpenSpec.upto custodySequenceSpec)

/-- 'slotmeshlaw25.CustodyNumbers', WHERE WHAT IT READS IS OF BULK AT MOST 1048576: true; the input reads as it did. -/
def custodyNumbersUptoRow : OpenClaim := { program := "ytdoehnnhbfmleaa", sum := "57bf02bfe06d0ec52a1c27f84bf0f4ead0d295cd691df37a42f49571246b6ec6", func := "slotmesh/slotmeshlaw25.CustodyNumbers", spec := "custodyNumbers", inPlace := ["internal/bytealg.MakeNoZero", "internal/reflectlite.TypeOf"], unfollowed := true, recurses := true, apart := false, narrowed := true }
def CustodyNumbersUptoSaid : Prop := custodyNumbersUptoRow.holds Try.pinned (OpenSpec.upto custodyNumbersSpec)

/-- 'slotmeshlaw25.CustodyOthers', WHERE WHAT IT READS IS OF BULK AT MOST 1048576: true; the input reads as it did. -/
def custodyOthersUptoRow : OpenClaim := { program := "ytdoehnnhbfmleaa", sum := "57bf02bfe06d0ec52a1c27f84bf0f4ead0d295cd691df37a42f49571246b6ec6", func := "slotmesh/slotmeshlaw25.CustodyOthers", spec := "custodyOthers", inPlace := ["internal/bytealg.MakeNoZero", "internal/reflectlite.TypeOf"], unfollowed := true, recurses := true, apart := false, narrowed := true }
def CustodyOthersUptoSaid : Prop := custodyOthersUptoRow.holds Try.pinned (OpenSpec.upto custodyOthersSpec)

end Rows
end Go.Proofs.Ytdoehnnhbfmleaa
