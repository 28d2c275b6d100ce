/-
  No cell of these rows narrows 'for every input' (looked for: loops, veiled, ifaces, maps, wideKeys, modest, calm, conditions, laid).
  DERIVED. THE GIVEN ROWS OF THIS SEAT. 9 by the template 'for every input the law returns true; each argument reads behind the call as it read before'; 0 by the template 'total and deterministic' (their statements: YtbakkmfjamcbfaaTotals.lean).
  GIVEN WITH THE SEED: the statements are not yours to turn. If you find one false, say at which input.
  Laid BY PROGRAM, IN A SANDBOX (cutbox-rows.mjs): the forced cells as the released guide's own fill.sh prints them over the translation 9bfd450dace7df72… (all of the seat's roots in one cut). By AI agents, Wed Nov 11 2026. No macro, syntax, notation, axiom, sorry.
-/
import Derived.Test.YtbakkmfjamcbfaaChecked
import GoSem.Claim
import GoSem.ClaimJoined
import GoSem.ClaimMapViews
import Derived.JoinedTies
import Derived.KernelRfl
namespace Go.Proofs.Ytbakkmfjamcbfaa
/- THE CELL 'sum', in the pinned program and in every row, IS THE sha256 OF THE DUMP (.gsa) THAT YtbakkmfjamcbfaaProg.lean LOADS. Nothing in Lean hashes anything: it is a label: what it is worth is what the hold of that sum in a sandbox is worth. -/
noncomputable def Try.pinned : Pinned := { name := "ytbakkmfjamcbfaa", sum := "9bfd450dace7df72fac1800203ec780c05f9f3d0944b58f226d5f72f78757e05", checked := Try.checked }
namespace Rows
def none {H : Type} : Left H := { results := [], args := [] }

/-- 'tallymanlaw22.ClientNone': WHATEVER THE INPUT: true; the input reads as it did. -/
def clientNoneSpec : ChangeSpec := { name := "clientNone", fn := fun _ => fun
  | [d1, d2, d3, d4, d5] => { results := [.lit (.bool true)], args := [d1, d2, d3, d4, d5] }
  | _ => none }
def clientNoneRow : OpenClaim := { program := "ytbakkmfjamcbfaa", sum := "9bfd450dace7df72fac1800203ec780c05f9f3d0944b58f226d5f72f78757e05", func := "tallyman/tallymanlaw22.ClientNone", spec := "clientNone", apart := false }
def ClientNoneSaid : Prop := clientNoneRow.holds Try.pinned (OpenSpec.ofChange clientNoneSpec)

/-- ITS FALSE NEIGHBOUR: 'it returns false'. Refute it at one input. -/
def clientNoneWrong : ChangeSpec := { name := "clientNone", fn := fun _ => fun
  | [d1, d2, d3, d4, d5] => { results := [.lit (.bool false)], args := [d1, d2, d3, d4, d5] }
  | _ => none }
def ClientNoneWrongFalsely : Prop := clientNoneRow.holds Try.pinned (OpenSpec.ofChange clientNoneWrong)

/-- 'tallymanlaw22.ClientPlays': WHATEVER THE INPUT: true; the input reads as it did. -/
def clientPlaysSpec : ChangeSpec := { name := "clientPlays", fn := fun _ => fun
  | [d1, d2, d3, d4, d5] => { results := [.lit (.bool true)], args := [d1, d2, d3, d4, d5] }
  | _ => none }
def clientPlaysRow : OpenClaim := { program := "ytbakkmfjamcbfaa", sum := "9bfd450dace7df72fac1800203ec780c05f9f3d0944b58f226d5f72f78757e05", func := "tallyman/tallymanlaw22.ClientPlays", spec := "clientPlays", apart := false }
def ClientPlaysSaid : Prop := clientPlaysRow.holds Try.pinned (OpenSpec.ofChange clientPlaysSpec)

/-- ITS FALSE NEIGHBOUR: 'it returns false'. Refute it at one input. -/
def clientPlaysWrong : ChangeSpec := { name := "clientPlays", fn := fun _ => fun
  | [d1, d2, d3, d4, d5] => { results := [.lit (.bool false)], args := [d1, d2, d3, d4, d5] }
  | _ => none }
def ClientPlaysWrongFalsely : Prop := clientPlaysRow.holds Try.pinned (OpenSpec.ofChange clientPlaysWrong)

/-- 'tallymanlaw25.CollectMany': WHATEVER THE INPUT: true; the input reads as it did. -/
def collectManySpec : ChangeSpec := { name := "collectMany", fn := fun _ => fun
  | [d1, d2] => { results := [.lit (.bool true)], args := [d1, d2] }
  | _ => none }
def collectManyRow : OpenClaim := { program := "ytbakkmfjamcbfaa", sum := "9bfd450dace7df72fac1800203ec780c05f9f3d0944b58f226d5f72f78757e05", func := "tallyman/tallymanlaw25.CollectMany", spec := "collectMany", apart := false }
def CollectManySaid : Prop := collectManyRow.holds Try.pinned (OpenSpec.ofChange collectManySpec)

/-- ITS FALSE NEIGHBOUR: 'it returns false'. Refute it at one input. -/
def collectManyWrong : ChangeSpec := { name := "collectMany", fn := fun _ => fun
  | [d1, d2] => { results := [.lit (.bool false)], args := [d1, d2] }
  | _ => none }
def CollectManyWrongFalsely : Prop := collectManyRow.holds Try.pinned (OpenSpec.ofChange collectManyWrong)

/-- 'tallymanlaw15.TotalAdds': WHATEVER THE INPUT: true; the input reads as it did. -/
def totalAddsSpec : ChangeSpec := { name := "totalAdds", fn := fun _ => fun
  | [d1, d2, d3] => { results := [.lit (.bool true)], args := [d1, d2, d3] }
  | _ => none }
def totalAddsRow : OpenClaim := { program := "ytbakkmfjamcbfaa", sum := "9bfd450dace7df72fac1800203ec780c05f9f3d0944b58f226d5f72f78757e05", func := "tallyman/tallymanlaw15.TotalAdds", spec := "totalAdds", inPlace := ["math/bits.Add64", "math/bits.Sub64"], unfollowed := true, recurses := true, apart := false }
def TotalAddsSaid : Prop := totalAddsRow.holds Try.pinned (OpenSpec.ofChange totalAddsSpec)

/-- ITS FALSE NEIGHBOUR: 'it returns false'. Refute it at one input. -/
def totalAddsWrong : ChangeSpec := { name := "totalAdds", fn := fun _ => fun
  | [d1, d2, d3] => { results := [.lit (.bool false)], args := [d1, d2, d3] }
  | _ => none }
def TotalAddsWrongFalsely : Prop := totalAddsRow.holds Try.pinned (OpenSpec.ofChange totalAddsWrong)

/-- 'tallymanlaw15.TotalUnshards': WHATEVER THE INPUT: true; the input reads as it did. -/
def totalUnshardsSpec : ChangeSpec := { name := "totalUnshards", fn := fun _ => fun
  | [d1, d2, d3, d4] => { results := [.lit (.bool true)], args := [d1, d2, d3, d4] }
  | _ => none }
def totalUnshardsRow : OpenClaim := { program := "ytbakkmfjamcbfaa", sum := "9bfd450dace7df72fac1800203ec780c05f9f3d0944b58f226d5f72f78757e05", func := "tallyman/tallymanlaw15.TotalUnshards", spec := "totalUnshards", inPlace := ["math/bits.Add64", "math/bits.Sub64"], unfollowed := true, recurses := true, apart := false }
def TotalUnshardsSaid : Prop := totalUnshardsRow.holds Try.pinned (OpenSpec.ofChange totalUnshardsSpec)

/-- ITS FALSE NEIGHBOUR: 'it returns false'. Refute it at one input. -/
def totalUnshardsWrong : ChangeSpec := { name := "totalUnshards", fn := fun _ => fun
  | [d1, d2, d3, d4] => { results := [.lit (.bool false)], args := [d1, d2, d3, d4] }
  | _ => none }
def TotalUnshardsWrongFalsely : Prop := totalUnshardsRow.holds Try.pinned (OpenSpec.ofChange totalUnshardsWrong)

/-- 'tallymanlaw15.TotalBytes': WHATEVER THE INPUT: true; the input reads as it did. -/
def totalBytesSpec : ChangeSpec := { name := "totalBytes", fn := fun _ => fun
  | [d1, d2, d3, d4] => { results := [.lit (.bool true)], args := [d1, d2, d3, d4] }
  | _ => none }
def totalBytesRow : OpenClaim := { program := "ytbakkmfjamcbfaa", sum := "9bfd450dace7df72fac1800203ec780c05f9f3d0944b58f226d5f72f78757e05", func := "tallyman/tallymanlaw15.TotalBytes", spec := "totalBytes", inPlace := ["math/bits.Add64", "math/bits.Sub64"], unfollowed := true, recurses := true, apart := false }
def TotalBytesSaid : Prop := totalBytesRow.holds Try.pinned (OpenSpec.ofChange totalBytesSpec)

/-- ITS FALSE NEIGHBOUR: 'it returns false'. Refute it at one input. -/
def totalBytesWrong : ChangeSpec := { name := "totalBytes", fn := fun _ => fun
  | [d1, d2, d3, d4] => { results := [.lit (.bool false)], args := [d1, d2, d3, d4] }
  | _ => none }
def TotalBytesWrongFalsely : Prop := totalBytesRow.holds Try.pinned (OpenSpec.ofChange totalBytesWrong)

/-- 'tallymanlaw15.TotalErrors': WHATEVER THE INPUT: true; the input reads as it did. -/
def totalErrorsSpec : ChangeSpec := { name := "totalErrors", fn := fun _ => fun
  | [d1, d2, d3, d4, d5] => { results := [.lit (.bool true)], args := [d1, d2, d3, d4, d5] }
  | _ => none }
def totalErrorsRow : OpenClaim := { program := "ytbakkmfjamcbfaa", sum := "9bfd450dace7df72fac1800203ec780c05f9f3d0944b58f226d5f72f78757e05", func := "tallyman/tallymanlaw15.TotalErrors", spec := "totalErrors", inPlace := ["math/bits.Add64", "math/bits.Sub64"], unfollowed := true, recurses := true, apart := false }
def TotalErrorsSaid : Prop := totalErrorsRow.holds Try.pinned (OpenSpec.ofChange totalErrorsSpec)

/-- ITS FALSE NEIGHBOUR: 'it returns false'. Refute it at one input. -/
def totalErrorsWrong : ChangeSpec := { name := "totalErrors", fn := fun _ => fun
  | [d1, d2, d3, d4, d5] => { results := [.lit (.bool false)], args := [d1, d2, d3, d4, d5] }
  | _ => none }
def TotalErrorsWrongFalsely : Prop := totalErrorsRow.holds Try.pinned (OpenSpec.ofChange totalErrorsWrong)

/-- 'tallymanlaw25.CollectRight': WHATEVER THE INPUT: true; the input reads as it did. -/
def collectRightSpec : ChangeSpec := { name := "collectRight", fn := fun _ => fun
  | [d1, d2, d3, d4, d5, d6] => { results := [.lit (.bool true)], args := [d1, d2, d3, d4, d5, d6] }
  | _ => none }
def collectRightRow : OpenClaim := { program := "ytbakkmfjamcbfaa", sum := "9bfd450dace7df72fac1800203ec780c05f9f3d0944b58f226d5f72f78757e05", func := "tallyman/tallymanlaw25.CollectRight", spec := "collectRight", inPlace := ["math/bits.Add64", "math/bits.Sub64"], unfollowed := true, recurses := true, apart := false }
def CollectRightSaid : Prop := collectRightRow.holds Try.pinned (OpenSpec.ofChange collectRightSpec)

/-- ITS FALSE NEIGHBOUR: 'it returns false'. Refute it at one input. -/
def collectRightWrong : ChangeSpec := { name := "collectRight", fn := fun _ => fun
  | [d1, d2, d3, d4, d5, d6] => { results := [.lit (.bool false)], args := [d1, d2, d3, d4, d5, d6] }
  | _ => none }
def CollectRightWrongFalsely : Prop := collectRightRow.holds Try.pinned (OpenSpec.ofChange collectRightWrong)

/-- 'tallymanlaw25.CollectPlays': WHATEVER THE INPUT: true; the input reads as it did. -/
def collectPlaysSpec : ChangeSpec := { name := "collectPlays", fn := fun _ => fun
  | [d1, d2] => { results := [.lit (.bool true)], args := [d1, d2] }
  | _ => none }
def collectPlaysRow : OpenClaim := { program := "ytbakkmfjamcbfaa", sum := "9bfd450dace7df72fac1800203ec780c05f9f3d0944b58f226d5f72f78757e05", func := "tallyman/tallymanlaw25.CollectPlays", spec := "collectPlays", inPlace := ["math/bits.Add64", "math/bits.Sub64"], unfollowed := true, recurses := true, apart := false }
def CollectPlaysSaid : Prop := collectPlaysRow.holds Try.pinned (OpenSpec.ofChange collectPlaysSpec)

/-- ITS FALSE NEIGHBOUR: 'it returns false'. Refute it at one input. -/
def collectPlaysWrong : ChangeSpec := { name := "collectPlays", fn := fun _ => fun
  | [d1, d2] => { results := [.lit (.bool false)], args := [d1, d2] }
  | _ => none }
def CollectPlaysWrongFalsely : Prop := collectPlaysRow.holds Try.pinned (OpenSpec.ofChange collectPlaysWrong)

/- THE SECOND FORM. 'bulk': how many values and letters a reading holds, each counted each time it is reached (what is shared counts as often as it is met; a slice's spare places count too). A statement '..UptoSaid' is the law's where the arguments, and the package variables that the reading takes, are together of bulk at most 1048576: NARROWER than '..Said'. Prove '..Said' where nothing that the law and all that it calls make is longer than what came in: it says more and counts as full. Else prove '..UptoSaid'. A law counts once. -/
mutual
def uptoBulk {H : Type} : DataW H → Nat
  | .lit (.string bytes) => bytes.length + 1
  | .lit _ => 1
  | .nil => 1
  | .ptr d => uptoBulk d + 1
  | .slice elems spare => uptoBulkAll elems + uptoBulkAll spare + 1
  | .agg parts => uptoBulkAll parts + 1
  | .iface _ d => uptoBulk d + 1
  | .map entries => uptoBulkEntries entries + 1
  | .held _ => 1
def uptoBulkAll {H : Type} : List (DataW H) → Nat
  | [] => 0
  | d :: r => uptoBulk d + uptoBulkAll r
def uptoBulkEntries {H : Type} : List (Lit × DataW H) → Nat
  | [] => 0
  | x :: r => uptoBulkEntry x + uptoBulkEntries r
def uptoBulkEntry {H : Type} : Lit × DataW H → Nat
  | (.string bytes, d) => bytes.length + uptoBulk d + 1
  | (_, d) => uptoBulk d + 1
 end
def uptoSmall : (H : Type) → List (DataW H) → Bool := fun _ ds => decide (uptoBulkAll ds ≤ 1048576)
def OpenSpec.upto (s : _root_.Go.ChangeSpec) : _root_.Go.OpenSpec := { _root_.Go.OpenSpec.ofChange s with cond := some uptoSmall }

/-- 'tallymanlaw22.ClientNone', WHERE WHAT IT READS IS OF BULK AT MOST 1048576: true; the input reads as it did. -/
def clientNoneUptoRow : OpenClaim := { program := "ytbakkmfjamcbfaa", sum := "9bfd450dace7df72fac1800203ec780c05f9f3d0944b58f226d5f72f78757e05", func := "tallyman/tallymanlaw22.ClientNone", spec := "clientNone", apart := false, narrowed := true }
def ClientNoneUptoSaid : Prop := clientNoneUptoRow.holds Try.pinned (OpenSpec.upto clientNoneSpec)

/-- 'tallymanlaw22.ClientPlays', WHERE WHAT IT READS IS OF BULK AT MOST 1048576: true; the input reads as it did. -/
def clientPlaysUptoRow : OpenClaim := { program := "ytbakkmfjamcbfaa", sum := "9bfd450dace7df72fac1800203ec780c05f9f3d0944b58f226d5f72f78757e05", func := "tallyman/tallymanlaw22.ClientPlays", spec := "clientPlays", apart := false, narrowed := true }
def ClientPlaysUptoSaid : Prop := clientPlaysUptoRow.holds Try.pinned (OpenSpec.upto clientPlaysSpec)

/-- 'tallymanlaw25.CollectMany', WHERE WHAT IT READS IS OF BULK AT MOST 1048576: true; the input reads as it did. -/
def collectManyUptoRow : OpenClaim := { program := "ytbakkmfjamcbfaa", sum := "9bfd450dace7df72fac1800203ec780c05f9f3d0944b58f226d5f72f78757e05", func := "tallyman/tallymanlaw25.CollectMany", spec := "collectMany", apart := false, narrowed := true }
def CollectManyUptoSaid : Prop := collectManyUptoRow.holds Try.pinned (OpenSpec.upto collectManySpec)

/-- 'tallymanlaw15.TotalAdds', WHERE WHAT IT READS IS OF BULK AT MOST 1048576: true; the input reads as it did. -/
def totalAddsUptoRow : OpenClaim := { program := "ytbakkmfjamcbfaa", sum := "9bfd450dace7df72fac1800203ec780c05f9f3d0944b58f226d5f72f78757e05", func := "tallyman/tallymanlaw15.TotalAdds", spec := "totalAdds", inPlace := ["math/bits.Add64", "math/bits.Sub64"], unfollowed := true, recurses := true, apart := false, narrowed := true }
def TotalAddsUptoSaid : Prop := totalAddsUptoRow.holds Try.pinned (OpenSpec.upto totalAddsSpec)

/-- 'tallymanlaw15.TotalUnshards', WHERE WHAT IT READS IS OF BULK AT MOST 1048576: true; the input reads as it did. -/
def totalUnshardsUptoRow : OpenClaim := { program := "ytbakkmfjamcbfaa", sum := "9bfd450dace7df72fac1800203ec780c05f9f3d0944b58f226d5f72f78757e05", func := "tallyman/tallymanlaw15.TotalUnshards", spec := "totalUnshards", inPlace := ["math/bits.Add64", "math/bits.Sub64"], unfollowed := true, recurses := true, apart := false, narrowed := true }
def TotalUnshardsUptoSaid : Prop := totalUnshardsUptoRow.holds Try.pinned (OpenSpec.upto totalUnshardsSpec)

/-- 'tallymanlaw15.TotalBytes', WHERE WHAT IT READS IS OF BULK AT MOST 1048576: true; the input reads as it did. -/
def totalBytesUptoRow : OpenClaim := { program := "ytbakkmfjamcbfaa", sum := "9bfd450dace7df72fac1800203ec780c05f9f3d0944b58f226d5f72f78757e05", func := "tallyman/tallymanlaw15.TotalBytes", spec := "totalBytes", inPlace := ["math/bits.Add64", "math/bits.Sub64"], unfollowed := true, recurses := true, apart := false, narrowed := true }
def TotalBytesUptoSaid : Prop := totalBytesUptoRow.holds Try.pinned (OpenSpec.upto totalBytesSpec)

/-- 'tallymanlaw15.TotalErrors', WHERE WHAT IT READS IS OF BULK AT MOST 1048576: true; the input reads as it did. -/
def totalErrorsUptoRow : OpenClaim := { program := "ytbakkmfjamcbfaa", sum := "9bfd450dace7df72fac1800203ec780c05f9f3d0944b58f226d5f72f78757e05", func := "tallyman/tallymanlaw15.TotalErrors", spec := "totalErrors", inPlace := ["math/bits.Add64", "math/bits.Sub64"], unfollowed := true, recurses := true, apart := false, narrowed := true }
def TotalErrorsUptoSaid : Prop := totalErrorsUptoRow.holds Try.pinned (OpenSpec.upto totalErrorsSpec)

/-- 'tallymanlaw25.CollectRight', WHERE WHAT IT READS IS OF BULK AT MOST 1048576: true; the input reads as it did. -/
def collectRightUptoRow : OpenClaim := { program := "ytbakkmfjamcbfaa", sum := "9bfd450dace7df72fac1800203ec780c05f9f3d0944b58f226d5f72f78757e05", func := "tallyman/tallymanlaw25.CollectRight", spec := "collectRight", inPlace := ["math/bits.Add64", "math/bits.Sub64"], unfollowed := true, recurses := true, apart := false, narrowed := true }
def CollectRightUptoSaid : Prop := collectRightUptoRow.holds Try.pinned (OpenSpec.upto collectRightSpec)

/-- 'tallymanlaw25.CollectPlays', WHERE WHAT IT READS IS OF BULK AT MOST 1048576: true; the input reads as it did. -/
def collectPlaysUptoRow : OpenClaim := { program := "ytbakkmfjamcbfaa", sum := "9bfd450dace7df72fac1800203ec780c05f9f3d0944b58f226d5f72f78757e05", func := "tallyman/tallymanlaw25.CollectPlays", spec := "collectPlays", inPlace := ["math/bits.Add64", "math/bits.Sub64"], unfollowed := true, recurses := true, apart := false, narrowed := true }
def CollectPlaysUptoSaid : Prop := collectPlaysUptoRow.holds Try.pinned (OpenSpec.upto collectPlaysSpec)

end Rows
end Go.Proofs.Ytbakkmfjamcbfaa
