/-
  No cell of these rows narrows 'for every input' (looked for: loops, veiled, ifaces, maps, wideKeys, modest, calm, conditions, laid).
  DERIVED. THE GIVEN ROWS OF THIS SEAT. 15 by the template 'for every input the law returns true; each argument reads behind the call as it read before'; 0 by the template 'total and deterministic' (their statements: YtiphahbeedeebaaTotals.lean).
  GIVEN WITH THE SEED: the statements are not yours to turn. If you find one false, say at which input.
  Laid BY PROGRAM, IN A SANDBOX (cutbox-rows.mjs): the forced cells as the released guide's own fill.sh prints them over the translation 7248477602c9ec91… (all of the seat's roots in one cut). By AI agents, Wed Nov 11 2026. No macro, syntax, notation, axiom, sorry.
-/
import Derived.Test.YtiphahbeedeebaaChecked
import GoSem.Claim
import GoSem.ClaimJoined
import GoSem.ClaimMapViews
import Derived.JoinedTies
import Derived.KernelRfl
namespace Go.Proofs.Ytiphahbeedeebaa
/- THE CELL 'sum', in the pinned program and in every row, IS THE sha256 OF THE DUMP (.gsa) THAT YtiphahbeedeebaaProg.lean LOADS. Nothing in Lean hashes anything: it is a label: what it is worth is what the hold of that sum in a sandbox is worth. -/
noncomputable def Try.pinned : Pinned := { name := "ytiphahbeedeebaa", sum := "7248477602c9ec91095e53b1e8b13048ed9421d602234a789cfda31730bff690", checked := Try.checked }
namespace Rows
def none {H : Type} : Left H := { results := [], args := [] }

/-- 'tallymanlaw31.TapeBack': WHATEVER THE INPUT: true; the input reads as it did. -/
def tapeBackSpec : ChangeSpec := { name := "tapeBack", fn := fun _ => fun
  | [d1, d2, d3, d4] => { results := [.lit (.bool true)], args := [d1, d2, d3, d4] }
  | _ => none }
def tapeBackRow : OpenClaim := { program := "ytiphahbeedeebaa", sum := "7248477602c9ec91095e53b1e8b13048ed9421d602234a789cfda31730bff690", func := "tallyman/tallymanlaw31.TapeBack", spec := "tapeBack", inPlace := ["math/bits.Add64", "math/bits.Sub64"], unfollowed := true, recurses := true, apart := false }
def TapeBackSaid : Prop := tapeBackRow.holds Try.pinned (OpenSpec.ofChange tapeBackSpec)

/-- ITS FALSE NEIGHBOUR: 'it returns false'. Refute it at one input. -/
def tapeBackWrong : ChangeSpec := { name := "tapeBack", fn := fun _ => fun
  | [d1, d2, d3, d4] => { results := [.lit (.bool false)], args := [d1, d2, d3, d4] }
  | _ => none }
def TapeBackWrongFalsely : Prop := tapeBackRow.holds Try.pinned (OpenSpec.ofChange tapeBackWrong)

/-- 'tallymanlaw31.TapeUnlike': WHATEVER THE INPUT: true; the input reads as it did. -/
def tapeUnlikeSpec : ChangeSpec := { name := "tapeUnlike", fn := fun _ => fun
  | [d1, d2, d3, d4, d5] => { results := [.lit (.bool true)], args := [d1, d2, d3, d4, d5] }
  | _ => none }
def tapeUnlikeRow : OpenClaim := { program := "ytiphahbeedeebaa", sum := "7248477602c9ec91095e53b1e8b13048ed9421d602234a789cfda31730bff690", func := "tallyman/tallymanlaw31.TapeUnlike", spec := "tapeUnlike", inPlace := ["math/bits.Add64", "math/bits.Sub64"], unfollowed := true, recurses := true, apart := false }
def TapeUnlikeSaid : Prop := tapeUnlikeRow.holds Try.pinned (OpenSpec.ofChange tapeUnlikeSpec)

/-- ITS FALSE NEIGHBOUR: 'it returns false'. Refute it at one input. -/
def tapeUnlikeWrong : ChangeSpec := { name := "tapeUnlike", fn := fun _ => fun
  | [d1, d2, d3, d4, d5] => { results := [.lit (.bool false)], args := [d1, d2, d3, d4, d5] }
  | _ => none }
def TapeUnlikeWrongFalsely : Prop := tapeUnlikeRow.holds Try.pinned (OpenSpec.ofChange tapeUnlikeWrong)

/-- 'tallymanlaw31.TapeSplits': WHATEVER THE INPUT: true; the input reads as it did. -/
def tapeSplitsSpec : ChangeSpec := { name := "tapeSplits", fn := fun _ => fun
  | [d1, d2, d3, d4] => { results := [.lit (.bool true)], args := [d1, d2, d3, d4] }
  | _ => none }
def tapeSplitsRow : OpenClaim := { program := "ytiphahbeedeebaa", sum := "7248477602c9ec91095e53b1e8b13048ed9421d602234a789cfda31730bff690", func := "tallyman/tallymanlaw31.TapeSplits", spec := "tapeSplits", inPlace := ["math/bits.Add64", "math/bits.Sub64"], unfollowed := true, recurses := true, apart := false }
def TapeSplitsSaid : Prop := tapeSplitsRow.holds Try.pinned (OpenSpec.ofChange tapeSplitsSpec)

/-- ITS FALSE NEIGHBOUR: 'it returns false'. Refute it at one input. -/
def tapeSplitsWrong : ChangeSpec := { name := "tapeSplits", fn := fun _ => fun
  | [d1, d2, d3, d4] => { results := [.lit (.bool false)], args := [d1, d2, d3, d4] }
  | _ => none }
def TapeSplitsWrongFalsely : Prop := tapeSplitsRow.holds Try.pinned (OpenSpec.ofChange tapeSplitsWrong)

/-- 'tallymanlaw09.GadgetValues': WHATEVER THE INPUT: true; the input reads as it did. -/
def gadgetValuesSpec : ChangeSpec := { name := "gadgetValues", fn := fun _ => fun
  | [d1, d2, d3, d4] => { results := [.lit (.bool true)], args := [d1, d2, d3, d4] }
  | _ => none }
def gadgetValuesRow : OpenClaim := { program := "ytiphahbeedeebaa", sum := "7248477602c9ec91095e53b1e8b13048ed9421d602234a789cfda31730bff690", func := "tallyman/tallymanlaw09.GadgetValues", spec := "gadgetValues", inPlace := ["math/bits.Sub64", "math/bits.Add64"], apart := false }
def GadgetValuesSaid : Prop := gadgetValuesRow.holds Try.pinned (OpenSpec.ofChange gadgetValuesSpec)

/-- ITS FALSE NEIGHBOUR: 'it returns false'. Refute it at one input. -/
def gadgetValuesWrong : ChangeSpec := { name := "gadgetValues", fn := fun _ => fun
  | [d1, d2, d3, d4] => { results := [.lit (.bool false)], args := [d1, d2, d3, d4] }
  | _ => none }
def GadgetValuesWrongFalsely : Prop := gadgetValuesRow.holds Try.pinned (OpenSpec.ofChange gadgetValuesWrong)

/-- 'tallymanlaw09.GadgetBits': WHATEVER THE INPUT: true; the input reads as it did. -/
def gadgetBitsSpec : ChangeSpec := { name := "gadgetBits", fn := fun _ => fun
  | [d1, d2] => { results := [.lit (.bool true)], args := [d1, d2] }
  | _ => none }
def gadgetBitsRow : OpenClaim := { program := "ytiphahbeedeebaa", sum := "7248477602c9ec91095e53b1e8b13048ed9421d602234a789cfda31730bff690", func := "tallyman/tallymanlaw09.GadgetBits", spec := "gadgetBits", inPlace := ["math/bits.Sub64", "math/bits.Add64"], apart := false }
def GadgetBitsSaid : Prop := gadgetBitsRow.holds Try.pinned (OpenSpec.ofChange gadgetBitsSpec)

/-- ITS FALSE NEIGHBOUR: 'it returns false'. Refute it at one input. -/
def gadgetBitsWrong : ChangeSpec := { name := "gadgetBits", fn := fun _ => fun
  | [d1, d2] => { results := [.lit (.bool false)], args := [d1, d2] }
  | _ => none }
def GadgetBitsWrongFalsely : Prop := gadgetBitsRow.holds Try.pinned (OpenSpec.ofChange gadgetBitsWrong)

/-- 'tallymanlaw10.CircuitEncodes': WHATEVER THE INPUT: true; the input reads as it did. -/
def circuitEncodesSpec : ChangeSpec := { name := "circuitEncodes", fn := fun _ => fun
  | [d1, d2, d3] => { results := [.lit (.bool true)], args := [d1, d2, d3] }
  | _ => none }
def circuitEncodesRow : OpenClaim := { program := "ytiphahbeedeebaa", sum := "7248477602c9ec91095e53b1e8b13048ed9421d602234a789cfda31730bff690", func := "tallyman/tallymanlaw10.CircuitEncodes", spec := "circuitEncodes", inPlace := ["math/bits.Add64", "math/bits.Sub64"], apart := false }
def CircuitEncodesSaid : Prop := circuitEncodesRow.holds Try.pinned (OpenSpec.ofChange circuitEncodesSpec)

/-- ITS FALSE NEIGHBOUR: 'it returns false'. Refute it at one input. -/
def circuitEncodesWrong : ChangeSpec := { name := "circuitEncodes", fn := fun _ => fun
  | [d1, d2, d3] => { results := [.lit (.bool false)], args := [d1, d2, d3] }
  | _ => none }
def CircuitEncodesWrongFalsely : Prop := circuitEncodesRow.holds Try.pinned (OpenSpec.ofChange circuitEncodesWrong)

/-- 'tallymanlaw10.CircuitValid': WHATEVER THE INPUT: true; the input reads as it did. -/
def circuitValidSpec : ChangeSpec := { name := "circuitValid", fn := fun _ => fun
  | [d1, d2, d3, d4] => { results := [.lit (.bool true)], args := [d1, d2, d3, d4] }
  | _ => none }
def circuitValidRow : OpenClaim := { program := "ytiphahbeedeebaa", sum := "7248477602c9ec91095e53b1e8b13048ed9421d602234a789cfda31730bff690", func := "tallyman/tallymanlaw10.CircuitValid", spec := "circuitValid", inPlace := ["math/bits.Add64", "math/bits.Sub64"], apart := false }
def CircuitValidSaid : Prop := circuitValidRow.holds Try.pinned (OpenSpec.ofChange circuitValidSpec)

/-- ITS FALSE NEIGHBOUR: 'it returns false'. Refute it at one input. -/
def circuitValidWrong : ChangeSpec := { name := "circuitValid", fn := fun _ => fun
  | [d1, d2, d3, d4] => { results := [.lit (.bool false)], args := [d1, d2, d3, d4] }
  | _ => none }
def CircuitValidWrongFalsely : Prop := circuitValidRow.holds Try.pinned (OpenSpec.ofChange circuitValidWrong)

/-- 'tallymanlaw10.CircuitDecodes': WHATEVER THE INPUT: true; the input reads as it did. -/
def circuitDecodesSpec : ChangeSpec := { name := "circuitDecodes", fn := fun _ => fun
  | [d1, d2, d3, d4] => { results := [.lit (.bool true)], args := [d1, d2, d3, d4] }
  | _ => none }
def circuitDecodesRow : OpenClaim := { program := "ytiphahbeedeebaa", sum := "7248477602c9ec91095e53b1e8b13048ed9421d602234a789cfda31730bff690", func := "tallyman/tallymanlaw10.CircuitDecodes", spec := "circuitDecodes", inPlace := ["math/bits.Add64", "math/bits.Sub64"], apart := false }
def CircuitDecodesSaid : Prop := circuitDecodesRow.holds Try.pinned (OpenSpec.ofChange circuitDecodesSpec)

/-- ITS FALSE NEIGHBOUR: 'it returns false'. Refute it at one input. -/
def circuitDecodesWrong : ChangeSpec := { name := "circuitDecodes", fn := fun _ => fun
  | [d1, d2, d3, d4] => { results := [.lit (.bool false)], args := [d1, d2, d3, d4] }
  | _ => none }
def CircuitDecodesWrongFalsely : Prop := circuitDecodesRow.holds Try.pinned (OpenSpec.ofChange circuitDecodesWrong)

/-- 'tallymanlaw31.TapeSwaps': WHATEVER THE INPUT: true; the input reads as it did. -/
def tapeSwapsSpec : ChangeSpec := { name := "tapeSwaps", fn := fun _ => fun
  | [d1, d2, d3, d4, d5, d6, d7] => { results := [.lit (.bool true)], args := [d1, d2, d3, d4, d5, d6, d7] }
  | _ => none }
def tapeSwapsRow : OpenClaim := { program := "ytiphahbeedeebaa", sum := "7248477602c9ec91095e53b1e8b13048ed9421d602234a789cfda31730bff690", func := "tallyman/tallymanlaw31.TapeSwaps", spec := "tapeSwaps", inPlace := ["math/bits.Add64", "math/bits.Sub64"], unfollowed := true, recurses := true, apart := false }
def TapeSwapsSaid : Prop := tapeSwapsRow.holds Try.pinned (OpenSpec.ofChange tapeSwapsSpec)

/-- ITS FALSE NEIGHBOUR: 'it returns false'. Refute it at one input. -/
def tapeSwapsWrong : ChangeSpec := { name := "tapeSwaps", fn := fun _ => fun
  | [d1, d2, d3, d4, d5, d6, d7] => { results := [.lit (.bool false)], args := [d1, d2, d3, d4, d5, d6, d7] }
  | _ => none }
def TapeSwapsWrongFalsely : Prop := tapeSwapsRow.holds Try.pinned (OpenSpec.ofChange tapeSwapsWrong)

/-- 'tallymanlaw31.TapeReports': WHATEVER THE INPUT: true; the input reads as it did. -/
def tapeReportsSpec : ChangeSpec := { name := "tapeReports", fn := fun _ => fun
  | [d1, d2, d3, d4, d5, d6] => { results := [.lit (.bool true)], args := [d1, d2, d3, d4, d5, d6] }
  | _ => none }
def tapeReportsRow : OpenClaim := { program := "ytiphahbeedeebaa", sum := "7248477602c9ec91095e53b1e8b13048ed9421d602234a789cfda31730bff690", func := "tallyman/tallymanlaw31.TapeReports", spec := "tapeReports", inPlace := ["math/bits.Add64", "math/bits.Sub64"], unfollowed := true, recurses := true, apart := false }
def TapeReportsSaid : Prop := tapeReportsRow.holds Try.pinned (OpenSpec.ofChange tapeReportsSpec)

/-- ITS FALSE NEIGHBOUR: 'it returns false'. Refute it at one input. -/
def tapeReportsWrong : ChangeSpec := { name := "tapeReports", fn := fun _ => fun
  | [d1, d2, d3, d4, d5, d6] => { results := [.lit (.bool false)], args := [d1, d2, d3, d4, d5, d6] }
  | _ => none }
def TapeReportsWrongFalsely : Prop := tapeReportsRow.holds Try.pinned (OpenSpec.ofChange tapeReportsWrong)

/-- 'tallymanlaw10.CircuitSizes': WHATEVER THE INPUT: true; the input reads as it did. -/
def circuitSizesSpec : ChangeSpec := { name := "circuitSizes", fn := fun _ => fun
  | [d1, d2] => { results := [.lit (.bool true)], args := [d1, d2] }
  | _ => none }
def circuitSizesRow : OpenClaim := { program := "ytiphahbeedeebaa", sum := "7248477602c9ec91095e53b1e8b13048ed9421d602234a789cfda31730bff690", func := "tallyman/tallymanlaw10.CircuitSizes", spec := "circuitSizes", inPlace := ["math/bits.Add64", "math/bits.Sub64"], apart := false }
def CircuitSizesSaid : Prop := circuitSizesRow.holds Try.pinned (OpenSpec.ofChange circuitSizesSpec)

/-- ITS FALSE NEIGHBOUR: 'it returns false'. Refute it at one input. -/
def circuitSizesWrong : ChangeSpec := { name := "circuitSizes", fn := fun _ => fun
  | [d1, d2] => { results := [.lit (.bool false)], args := [d1, d2] }
  | _ => none }
def CircuitSizesWrongFalsely : Prop := circuitSizesRow.holds Try.pinned (OpenSpec.ofChange circuitSizesWrong)

/-- 'tallymanlaw31.TapeErrors': WHATEVER THE INPUT: true; the input reads as it did. -/
def tapeErrorsSpec : ChangeSpec := { name := "tapeErrors", fn := fun _ => fun
  | [d1, d2, d3, d4] => { results := [.lit (.bool true)], args := [d1, d2, d3, d4] }
  | _ => none }
def tapeErrorsRow : OpenClaim := { program := "ytiphahbeedeebaa", sum := "7248477602c9ec91095e53b1e8b13048ed9421d602234a789cfda31730bff690", func := "tallyman/tallymanlaw31.TapeErrors", spec := "tapeErrors", inPlace := ["math/bits.Add64", "math/bits.Sub64"], unfollowed := true, recurses := true, apart := false }
def TapeErrorsSaid : Prop := tapeErrorsRow.holds Try.pinned (OpenSpec.ofChange tapeErrorsSpec)

/-- ITS FALSE NEIGHBOUR: 'it returns false'. Refute it at one input. -/
def tapeErrorsWrong : ChangeSpec := { name := "tapeErrors", fn := fun _ => fun
  | [d1, d2, d3, d4] => { results := [.lit (.bool false)], args := [d1, d2, d3, d4] }
  | _ => none }
def TapeErrorsWrongFalsely : Prop := tapeErrorsRow.holds Try.pinned (OpenSpec.ofChange tapeErrorsWrong)

/-- 'tallymanlaw10.CircuitErrors': WHATEVER THE INPUT: true; the input reads as it did. -/
def circuitErrorsSpec : ChangeSpec := { name := "circuitErrors", fn := fun _ => fun
  | [d1, d2, d3, d4, d5, d6] => { results := [.lit (.bool true)], args := [d1, d2, d3, d4, d5, d6] }
  | _ => none }
def circuitErrorsRow : OpenClaim := { program := "ytiphahbeedeebaa", sum := "7248477602c9ec91095e53b1e8b13048ed9421d602234a789cfda31730bff690", func := "tallyman/tallymanlaw10.CircuitErrors", spec := "circuitErrors", inPlace := ["math/bits.Add64", "math/bits.Sub64"], unfollowed := true, recurses := true, apart := false }
def CircuitErrorsSaid : Prop := circuitErrorsRow.holds Try.pinned (OpenSpec.ofChange circuitErrorsSpec)

/-- ITS FALSE NEIGHBOUR: 'it returns false'. Refute it at one input. -/
def circuitErrorsWrong : ChangeSpec := { name := "circuitErrors", fn := fun _ => fun
  | [d1, d2, d3, d4, d5, d6] => { results := [.lit (.bool false)], args := [d1, d2, d3, d4, d5, d6] }
  | _ => none }
def CircuitErrorsWrongFalsely : Prop := circuitErrorsRow.holds Try.pinned (OpenSpec.ofChange circuitErrorsWrong)

/-- 'tallymanlaw10.CircuitRuns': WHATEVER THE INPUT: true; the input reads as it did. -/
def circuitRunsSpec : ChangeSpec := { name := "circuitRuns", fn := fun _ => fun
  | [d1, d2, d3, d4] => { results := [.lit (.bool true)], args := [d1, d2, d3, d4] }
  | _ => none }
def circuitRunsRow : OpenClaim := { program := "ytiphahbeedeebaa", sum := "7248477602c9ec91095e53b1e8b13048ed9421d602234a789cfda31730bff690", func := "tallyman/tallymanlaw10.CircuitRuns", spec := "circuitRuns", inPlace := ["math/bits.Add64", "math/bits.Sub64"], unfollowed := true, recurses := true, apart := false }
def CircuitRunsSaid : Prop := circuitRunsRow.holds Try.pinned (OpenSpec.ofChange circuitRunsSpec)

/-- ITS FALSE NEIGHBOUR: 'it returns false'. Refute it at one input. -/
def circuitRunsWrong : ChangeSpec := { name := "circuitRuns", fn := fun _ => fun
  | [d1, d2, d3, d4] => { results := [.lit (.bool false)], args := [d1, d2, d3, d4] }
  | _ => none }
def CircuitRunsWrongFalsely : Prop := circuitRunsRow.holds Try.pinned (OpenSpec.ofChange circuitRunsWrong)

/-- 'tallymanlaw10.CircuitShares': WHATEVER THE INPUT: true; the input reads as it did. -/
def circuitSharesSpec : ChangeSpec := { name := "circuitShares", fn := fun _ => fun
  | [d1, d2, d3, d4, d5] => { results := [.lit (.bool true)], args := [d1, d2, d3, d4, d5] }
  | _ => none }
def circuitSharesRow : OpenClaim := { program := "ytiphahbeedeebaa", sum := "7248477602c9ec91095e53b1e8b13048ed9421d602234a789cfda31730bff690", func := "tallyman/tallymanlaw10.CircuitShares", spec := "circuitShares", inPlace := ["math/bits.Add64", "math/bits.Sub64"], unfollowed := true, recurses := true, apart := false }
def CircuitSharesSaid : Prop := circuitSharesRow.holds Try.pinned (OpenSpec.ofChange circuitSharesSpec)

/-- ITS FALSE NEIGHBOUR: 'it returns false'. Refute it at one input. -/
def circuitSharesWrong : ChangeSpec := { name := "circuitShares", fn := fun _ => fun
  | [d1, d2, d3, d4, d5] => { results := [.lit (.bool false)], args := [d1, d2, d3, d4, d5] }
  | _ => none }
def CircuitSharesWrongFalsely : Prop := circuitSharesRow.holds Try.pinned (OpenSpec.ofChange circuitSharesWrong)

/- THE SECOND FORM. 'bulk': how many values and letters a reading holds, each counted each time it is reached (what is shared counts as often as it is met; a slice's spare places count too). A statement '..UptoSaid' is the law's where the arguments, and the package variables that the reading takes, are together of bulk at most 1048576: NARROWER than '..Said'. Prove '..Said' where nothing that the law and all that it calls make is longer than what came in: it says more and counts as full. Else prove '..UptoSaid'. A law counts once. -/
mutual
def uptoBulk {H : Type} : DataW H → Nat
  | .lit (.string bytes) => bytes.length + 1
  | .lit _ => 1
  | .nil => 1
  | .ptr d => uptoBulk d + 1
  | .slice elems spare => uptoBulkAll elems + uptoBulkAll spare + 1
  | .agg parts => uptoBulkAll parts + 1
  | .iface _ d => uptoBulk d + 1
  | .map entries => uptoBulkEntries entries + 1
  | .held _ => 1
def uptoBulkAll {H : Type} : List (DataW H) → Nat
  | [] => 0
  | d :: r => uptoBulk d + uptoBulkAll r
def uptoBulkEntries {H : Type} : List (Lit × DataW H) → Nat
  | [] => 0
  | x :: r => uptoBulkEntry x + uptoBulkEntries r
def uptoBulkEntry {H : Type} : Lit × DataW H → Nat
  | (.string bytes, d) => bytes.length + uptoBulk d + 1
  | (_, d) => uptoBulk d + 1
 end
def uptoSmall : (H : Type) → List (DataW H) → Bool := fun _ ds => decide (uptoBulkAll ds ≤ 1048576)
def OpenSpec.upto (s : _root_.Go.ChangeSpec) : _root_.Go.OpenSpec := { _root_.Go.OpenSpec.ofChange s with cond := some uptoSmall }

/-- 'tallymanlaw31.TapeBack', WHERE WHAT IT READS IS OF BULK AT MOST 1048576: true; the input reads as it did. -/
def tapeBackUptoRow : OpenClaim := { program := "ytiphahbeedeebaa", sum := "7248477602c9ec91095e53b1e8b13048ed9421d602234a789cfda31730bff690", func := "tallyman/tallymanlaw31.TapeBack", spec := "tapeBack", inPlace := ["math/bits.Add64", "math/bits.Sub64"], unfollowed := true, recurses := true, apart := false, narrowed := true }
def TapeBackUptoSaid : Prop := tapeBackUptoRow.holds Try.pinned (OpenSpec.upto tapeBackSpec)

/-- 'tallymanlaw31.TapeUnlike', WHERE WHAT IT READS IS OF BULK AT MOST 1048576: true; the input reads as it did. -/
def tapeUnlikeUptoRow : OpenClaim := { program := "ytiphahbeedeebaa", sum := "7248477602c9ec91095e53b1e8b13048ed9421d602234a789cfda31730bff690", func := "tallyman/tallymanlaw31.TapeUnlike", spec := "tapeUnlike", inPlace := ["math/bits.Add64", "math/bits.Sub64"], unfollowed := true, recurses := true, apart := false, narrowed := true }
def TapeUnlikeUptoSaid : Prop := tapeUnlikeUptoRow.holds Try.pinned (OpenSpec.upto tapeUnlikeSpec)

/-- 'tallymanlaw31.TapeSplits', WHERE WHAT IT READS IS OF BULK AT MOST 1048576: true; the input reads as it did. -/
def tapeSplitsUptoRow : OpenClaim := { program := "ytiphahbeedeebaa", sum := "7248477602c9ec91095e53b1e8b13048ed9421d602234a789cfda31730bff690", func := "tallyman/tallymanlaw31.TapeSplits", spec := "tapeSplits", inPlace := ["math/bits.Add64", "math/bits.Sub64"], unfollowed := true, recurses := true, apart := false, narrowed := true }
def TapeSplitsUptoSaid : Prop := tapeSplitsUptoRow.holds Try.pinned (OpenSpec.upto tapeSplitsSpec)

/-- 'tallymanlaw09.GadgetValues', WHERE WHAT IT READS IS OF BULK AT MOST 1048576: true; the input reads as it did. -/
def gadgetValuesUptoRow : OpenClaim := { program := "ytiphahbeedeebaa", sum := "7248477602c9ec91095e53b1e8b13048ed9421d602234a789cfda31730bff690", func := "tallyman/tallymanlaw09.GadgetValues", spec := "gadgetValues", inPlace := ["math/bits.Sub64", "math/bits.Add64"], apart := false, narrowed := true }
def GadgetValuesUptoSaid : Prop := gadgetValuesUptoRow.holds Try.pinned (OpenSpec.upto gadgetValuesSpec)

/-- 'tallymanlaw09.GadgetBits', WHERE WHAT IT READS IS OF BULK AT MOST 1048576: true; the input reads as it did. -/
def gadgetBitsUptoRow : OpenClaim := { program := "ytiphahbeedeebaa", sum := "7248477602c9ec91095e53b1e8b13048ed9421d602234a789cfda31730bff690", func := "tallyman/tallymanlaw09.GadgetBits", spec := "gadgetBits", inPlace := ["math/bits.Sub64", "math/bits.Add64"], apart := false, narrowed := true }
def GadgetBitsUptoSaid : Prop := gadgetBitsUptoRow.holds Try.pinned (OpenSpec.upto gadgetBitsSpec)

/-- 'tallymanlaw10.CircuitEncodes', WHERE WHAT IT READS IS OF BULK AT MOST 1048576: true; the input reads as it did. -/
def circuitEncodesUptoRow : OpenClaim := { program := "ytiphahbeedeebaa", sum := "7248477602c9ec91095e53b1e8b13048ed9421d602234a789cfda31730bff690", func := "tallyman/tallymanlaw10.CircuitEncodes", spec := "circuitEncodes", inPlace := ["math/bits.Add64", "math/bits.Sub64"], apart := false, narrowed := true }
def CircuitEncodesUptoSaid : Prop := circuitEncodesUptoRow.holds Try.pinned (OpenSpec.upto circuitEncodesSpec)

/-- 'tallymanlaw10.CircuitValid', WHERE WHAT IT READS IS OF BULK AT MOST 1048576: true; the input reads as it did. -/
def circuitValidUptoRow : OpenClaim := { program := "ytiphahbeedeebaa", sum := "7248477602c9ec91095e53b1e8b13048ed9421d602234a789cfda31730bff690", func := "tallyman/tallymanlaw10.CircuitValid", spec := "circuitValid", inPlace := ["math/bits.Add64", "math/bits.Sub64"], apart := false, narrowed := true }
def CircuitValidUptoSaid : Prop := circuitValidUptoRow.holds Try.pinned (OpenSpec.upto circuitValidSpec)

/-- 'tallymanlaw10.CircuitDecodes', WHERE WHAT IT READS IS OF BULK AT MOST 1048576: true; the input reads as it did. -/
def circuitDecodesUptoRow : OpenClaim := { program := "ytiphahbeedeebaa", sum := "7248477602c9ec91095e53b1e8b13048ed9421d602234a789cfda31730bff690", func := "tallyman/tallymanlaw10.CircuitDecodes", spec := "circuitDecodes", inPlace := ["math/bits.Add64", "math/bits.Sub64"], apart := false, narrowed := true }
def CircuitDecodesUptoSaid : Prop := circuitDecodesUptoRow.holds Try.pinned (OpenSpec.upto circuitDecodesSpec)

/-- 'tallymanlaw31.TapeSwaps', WHERE WHAT IT READS IS OF BULK AT MOST 1048576: true; the input reads as it did. -/
def tapeSwapsUptoRow : OpenClaim := { program := "ytiphahbeedeebaa", sum := "7248477602c9ec91095e53b1e8b13048ed9421d602234a789cfda31730bff690", func := "tallyman/tallymanlaw31.TapeSwaps", spec := "tapeSwaps", inPlace := ["math/bits.Add64", "math/bits.Sub64"], unfollowed := true, recurses := true, apart := false, narrowed := true }
def TapeSwapsUptoSaid : Prop := tapeSwapsUptoRow.holds Try.pinned (OpenSpec.upto tapeSwapsSpec)

/-- 'tallymanlaw31.TapeReports', WHERE WHAT IT READS IS OF BULK AT MOST 1048576: true; the input reads as it did. -/
def tapeReportsUptoRow : OpenClaim := { program := "ytiphahbeedeebaa", sum := "7248477602c9ec91095e53b1e8b13048ed9421d602234a789cfda31730bff690", func := "tallyman/tallymanlaw31.TapeReports", spec := "tapeReports", inPlace := ["math/bits.Add64", "math/bits.Sub64"], unfollowed := true, recurses := true, apart := false, narrowed := true }
def TapeReportsUptoSaid : Prop := tapeReportsUptoRow.holds Try.pinned (OpenSpec.upto tapeReportsSpec)

/-- 'tallymanlaw10.CircuitSizes', WHERE WHAT IT READS IS OF BULK AT MOST 1048576: true; the input reads as it did. -/
def circuitSizesUptoRow : OpenClaim := { program := "ytiphahbeedeebaa", sum := "7248477602c9ec91095e53b1e8b13048ed9421d602234a789cfda31730bff690", func := "tallyman/tallymanlaw10.CircuitSizes", spec := "circuitSizes", inPlace := ["math/bits.Add64", "math/bits.Sub64"], apart := false, narrowed := true }
def CircuitSizesUptoSaid : Prop := circuitSizesUptoRow.holds Try.pinned (OpenSpec.upto circuitSizesSpec)

/-- 'tallymanlaw31.TapeErrors', WHERE WHAT IT READS IS OF BULK AT MOST 1048576: true; the input reads as it did. -/
def tapeErrorsUptoRow : OpenClaim := { program := "ytiphahbeedeebaa", sum := "7248477602c9ec91095e53b1e8b13048ed9421d602234a789cfda31730bff690", func := "tallyman/tallymanlaw31.TapeErrors", spec := "tapeErrors", inPlace := ["math/bits.Add64", "math/bits.Sub64"], unfollowed := true, recurses := true, apart := false, narrowed := true }
def TapeErrorsUptoSaid : Prop := tapeErrorsUptoRow.holds Try.pinned (OpenSpec.upto tapeErrorsSpec)

/-- 'tallymanlaw10.CircuitErrors', WHERE WHAT IT READS IS OF BULK AT MOST 1048576: true; the input reads as it did. -/
def circuitErrorsUptoRow : OpenClaim := { program := "ytiphahbeedeebaa", sum := "7248477602c9ec91095e53b1e8b13048ed9421d602234a789cfda31730bff690", func := "tallyman/tallymanlaw10.CircuitErrors", spec := "circuitErrors", inPlace := ["math/bits.Add64", "math/bits.Sub64"], unfollowed := true, recurses := true, apart := false, narrowed := true }
def CircuitErrorsUptoSaid : Prop := circuitErrorsUptoRow.holds Try.pinned (OpenSpec.upto circuitErrorsSpec)

/-- 'tallymanlaw10.CircuitRuns', WHERE WHAT IT READS IS OF BULK AT MOST 1048576: true; the input reads as it did. -/
def circuitRunsUptoRow : OpenClaim := { program := "ytiphahbeedeebaa", sum := "7248477602c9ec91095e53b1e8b13048ed9421d602234a789cfda31730bff690", func := "tallyman/tallymanlaw10.CircuitRuns", spec := "circuitRuns", inPlace := ["math/bits.Add64", "math/bits.Sub64"], unfollowed := true, recurses := true, apart := false, narrowed := true }
def CircuitRunsUptoSaid : Prop := circuitRunsUptoRow.holds Try.pinned (OpenSpec.upto circuitRunsSpec)

/-- 'tallymanlaw10.CircuitShares', WHERE WHAT IT READS IS OF BULK AT MOST 1048576: true; the input reads as it did. -/
def circuitSharesUptoRow : OpenClaim := { program := "ytiphahbeedeebaa", sum := "7248477602c9ec91095e53b1e8b13048ed9421d602234a789cfda31730bff690", func := "tallyman/tallymanlaw10.CircuitShares", spec := "circuitShares", inPlace := ["math/bits.Add64", "math/bits.Sub64"], unfollowed := true, recurses := true, apart := false, narrowed := true }
def CircuitSharesUptoSaid : Prop := circuitSharesUptoRow.holds Try.pinned (OpenSpec.upto circuitSharesSpec)

end Rows
end Go.Proofs.Ytiphahbeedeebaa
