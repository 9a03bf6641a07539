/-
  No cell of these rows narrows 'for every input' (looked for: loops, veiled, ifaces, maps, wideKeys, modest, calm, conditions, laid).
  DERIVED. THE GIVEN ROWS OF THIS SEAT. 7 by the template 'for every input the law returns true; each argument reads behind the call as it read before'; 0 by the template 'total and deterministic' (their statements: YtolncaccemfbdaaTotals.lean).
  GIVEN WITH THE SEED: the statements are not yours to turn. If you find one false, say at which input.
  Laid BY PROGRAM, IN A SANDBOX (cutbox-rows.mjs): the forced cells as the released guide's own fill.sh prints them over the translation ef07c6871b581411… (all of the seat's roots in one cut). By AI agents, Wed Nov 11 2026. No macro, syntax, notation, axiom, sorry.
-/
import Derived.Test.YtolncaccemfbdaaChecked
import GoSem.Claim
import GoSem.ClaimJoined
import GoSem.ClaimMapViews
import Derived.JoinedTies
import Derived.KernelRfl
namespace Go.Proofs.Ytolncaccemfbdaa
/- THE CELL 'sum', in the pinned program and in every row, IS THE sha256 OF THE DUMP (.gsa) THAT YtolncaccemfbdaaProg.lean LOADS. Nothing in Lean hashes anything: it is a label: what it is worth is what the hold of that sum in a sandbox is worth. -/
noncomputable def Try.pinned : Pinned := { name := "ytolncaccemfbdaa", sum := "ef07c6871b58141154dc89d38e6a5e55b63e9e640214985b15af4194be5a82ef", checked := Try.checked }
namespace Rows
def none {H : Type} : Left H := { results := [], args := [] }

/-- 'concordancelaw6.PackedWords': WHATEVER THE INPUT: true; the input reads as it did. -/
def packedWordsSpec : ChangeSpec := { name := "packedWords", fn := fun _ => fun
  | [d1, d2, d3, d4] => { results := [.lit (.bool true)], args := [d1, d2, d3, d4] }
  | _ => none }
def packedWordsRow : OpenClaim := { program := "ytolncaccemfbdaa", sum := "ef07c6871b58141154dc89d38e6a5e55b63e9e640214985b15af4194be5a82ef", func := "concordance/concordancelaw6.PackedWords", spec := "packedWords", unfollowed := true, recurses := true, apart := false }
def PackedWordsSaid : Prop := packedWordsRow.holds Try.pinned (OpenSpec.ofChange packedWordsSpec)

/-- ITS FALSE NEIGHBOUR: 'it returns false'. Refute it at one input. -/
def packedWordsWrong : ChangeSpec := { name := "packedWords", fn := fun _ => fun
  | [d1, d2, d3, d4] => { results := [.lit (.bool false)], args := [d1, d2, d3, d4] }
  | _ => none }
def PackedWordsWrongFalsely : Prop := packedWordsRow.holds Try.pinned (OpenSpec.ofChange packedWordsWrong)

/-- 'concordancelaw6.PackedLongs': WHATEVER THE INPUT: true; the input reads as it did. -/
def packedLongsSpec : ChangeSpec := { name := "packedLongs", fn := fun _ => fun
  | [d1, d2, d3, d4] => { results := [.lit (.bool true)], args := [d1, d2, d3, d4] }
  | _ => none }
def packedLongsRow : OpenClaim := { program := "ytolncaccemfbdaa", sum := "ef07c6871b58141154dc89d38e6a5e55b63e9e640214985b15af4194be5a82ef", func := "concordance/concordancelaw6.PackedLongs", spec := "packedLongs", unfollowed := true, recurses := true, apart := false }
def PackedLongsSaid : Prop := packedLongsRow.holds Try.pinned (OpenSpec.ofChange packedLongsSpec)

/-- ITS FALSE NEIGHBOUR: 'it returns false'. Refute it at one input. -/
def packedLongsWrong : ChangeSpec := { name := "packedLongs", fn := fun _ => fun
  | [d1, d2, d3, d4] => { results := [.lit (.bool false)], args := [d1, d2, d3, d4] }
  | _ => none }
def PackedLongsWrongFalsely : Prop := packedLongsRow.holds Try.pinned (OpenSpec.ofChange packedLongsWrong)

/-- 'concordancelaw6.PackedWidths': WHATEVER THE INPUT: true; the input reads as it did. -/
def packedWidthsSpec : ChangeSpec := { name := "packedWidths", fn := fun _ => fun
  | [d] => { results := [.lit (.bool true)], args := [d] }
  | _ => none }
def packedWidthsRow : OpenClaim := { program := "ytolncaccemfbdaa", sum := "ef07c6871b58141154dc89d38e6a5e55b63e9e640214985b15af4194be5a82ef", func := "concordance/concordancelaw6.PackedWidths", spec := "packedWidths", apart := false }
def PackedWidthsSaid : Prop := packedWidthsRow.holds Try.pinned (OpenSpec.ofChange packedWidthsSpec)

/-- ITS FALSE NEIGHBOUR: 'it returns false'. Refute it at one input. -/
def packedWidthsWrong : ChangeSpec := { name := "packedWidths", fn := fun _ => fun
  | [d] => { results := [.lit (.bool false)], args := [d] }
  | _ => none }
def PackedWidthsWrongFalsely : Prop := packedWidthsRow.holds Try.pinned (OpenSpec.ofChange packedWidthsWrong)

/-- 'concordancelaw6.PackedOwn': WHATEVER THE INPUT: true; the input reads as it did. -/
def packedOwnSpec : ChangeSpec := { name := "packedOwn", fn := fun _ => fun
  | [d] => { results := [.lit (.bool true)], args := [d] }
  | _ => none }
def packedOwnRow : OpenClaim := { program := "ytolncaccemfbdaa", sum := "ef07c6871b58141154dc89d38e6a5e55b63e9e640214985b15af4194be5a82ef", func := "concordance/concordancelaw6.PackedOwn", spec := "packedOwn", apart := false }
def PackedOwnSaid : Prop := packedOwnRow.holds Try.pinned (OpenSpec.ofChange packedOwnSpec)

/-- ITS FALSE NEIGHBOUR: 'it returns false'. Refute it at one input. -/
def packedOwnWrong : ChangeSpec := { name := "packedOwn", fn := fun _ => fun
  | [d] => { results := [.lit (.bool false)], args := [d] }
  | _ => none }
def PackedOwnWrongFalsely : Prop := packedOwnRow.holds Try.pinned (OpenSpec.ofChange packedOwnWrong)

/-- 'concordancelaw6.PackedSizes': WHATEVER THE INPUT: true; the input reads as it did. -/
def packedSizesSpec : ChangeSpec := { name := "packedSizes", fn := fun _ => fun
  | [d1, d2] => { results := [.lit (.bool true)], args := [d1, d2] }
  | _ => none }
def packedSizesRow : OpenClaim := { program := "ytolncaccemfbdaa", sum := "ef07c6871b58141154dc89d38e6a5e55b63e9e640214985b15af4194be5a82ef", func := "concordance/concordancelaw6.PackedSizes", spec := "packedSizes", apart := false }
def PackedSizesSaid : Prop := packedSizesRow.holds Try.pinned (OpenSpec.ofChange packedSizesSpec)

/-- ITS FALSE NEIGHBOUR: 'it returns false'. Refute it at one input. -/
def packedSizesWrong : ChangeSpec := { name := "packedSizes", fn := fun _ => fun
  | [d1, d2] => { results := [.lit (.bool false)], args := [d1, d2] }
  | _ => none }
def PackedSizesWrongFalsely : Prop := packedSizesRow.holds Try.pinned (OpenSpec.ofChange packedSizesWrong)

/-- 'concordancelaw6.PackedTwo': WHATEVER THE INPUT: true; the input reads as it did. -/
def packedTwoSpec : ChangeSpec := { name := "packedTwo", fn := fun _ => fun
  | [d1, d2, d3] => { results := [.lit (.bool true)], args := [d1, d2, d3] }
  | _ => none }
def packedTwoRow : OpenClaim := { program := "ytolncaccemfbdaa", sum := "ef07c6871b58141154dc89d38e6a5e55b63e9e640214985b15af4194be5a82ef", func := "concordance/concordancelaw6.PackedTwo", spec := "packedTwo", apart := false }
def PackedTwoSaid : Prop := packedTwoRow.holds Try.pinned (OpenSpec.ofChange packedTwoSpec)

/-- ITS FALSE NEIGHBOUR: 'it returns false'. Refute it at one input. -/
def packedTwoWrong : ChangeSpec := { name := "packedTwo", fn := fun _ => fun
  | [d1, d2, d3] => { results := [.lit (.bool false)], args := [d1, d2, d3] }
  | _ => none }
def PackedTwoWrongFalsely : Prop := packedTwoRow.holds Try.pinned (OpenSpec.ofChange packedTwoWrong)

/-- 'concordancelaw6.PackedShorts': WHATEVER THE INPUT: true; the input reads as it did. -/
def packedShortsSpec : ChangeSpec := { name := "packedShorts", fn := fun _ => fun
  | [d1, d2, d3, d4] => { results := [.lit (.bool true)], args := [d1, d2, d3, d4] }
  | _ => none }
def packedShortsRow : OpenClaim := { program := "ytolncaccemfbdaa", sum := "ef07c6871b58141154dc89d38e6a5e55b63e9e640214985b15af4194be5a82ef", func := "concordance/concordancelaw6.PackedShorts", spec := "packedShorts", unfollowed := true, recurses := true, apart := false }
def PackedShortsSaid : Prop := packedShortsRow.holds Try.pinned (OpenSpec.ofChange packedShortsSpec)

/-- ITS FALSE NEIGHBOUR: 'it returns false'. Refute it at one input. -/
def packedShortsWrong : ChangeSpec := { name := "packedShorts", fn := fun _ => fun
  | [d1, d2, d3, d4] => { results := [.lit (.bool false)], args := [d1, d2, d3, d4] }
  | _ => none }
def PackedShortsWrongFalsely : Prop := packedShortsRow.holds Try.pinned (OpenSpec.ofChange packedShortsWrong)

/- THE SECOND FORM. 'bulk': how many values and letters a reading holds, each counted each time it is reached (what is shared counts as often as it is met; a slice's spare places count too). A statement '..UptoSaid' is the law's where the arguments, and the package variables that the reading takes, are together of bulk at most 1048576: NARROWER than '..Said'. Prove '..Said' where nothing that the law and all that it calls make is longer than what came in: it says more and counts as full. Else prove '..UptoSaid'. A law counts once. -/
mutual
def uptoBulk {H : Type} : DataW H → Nat
  | .lit (.string bytes) => bytes.length + 1
  | .lit _ => 1
  | .nil => 1
  | .ptr d => uptoBulk d + 1
  | .slice elems spare => uptoBulkAll elems + uptoBulkAll spare + 1
  | .agg parts => uptoBulkAll parts + 1
  | .iface _ d => uptoBulk d + 1
  | .map entries => uptoBulkEntries entries + 1
  | .held _ => 1
def uptoBulkAll {H : Type} : List (DataW H) → Nat
  | [] => 0
  | d :: r => uptoBulk d + uptoBulkAll r
def uptoBulkEntries {H : Type} : List (Lit × DataW H) → Nat
  | [] => 0
  | x :: r => uptoBulkEntry x + uptoBulkEntries r
def uptoBulkEntry {H : Type} : Lit × DataW H → Nat
  | (.string bytes, d) => bytes.length + uptoBulk d + 1
  | (_, d) => uptoBulk d + 1
 end
def uptoSmall : (H : Type) → List (DataW H) → Bool := fun _ ds => decide (uptoBulkAll ds ≤ 1048576)
def OpenSpec.upto (s : _root_.Go.ChangeSpec) : _root_.Go.OpenSpec := { _root_.Go.OpenSpec.ofChange s with cond := some uptoSmall }

/-- 'concordancelaw6.PackedWords', WHERE WHAT IT READS IS OF BULK AT MOST 1048576: true; the input reads as it did. -/
def packedWordsUptoRow : OpenClaim := { program := "ytolncaccemfbdaa", sum := "ef07c6871b58141154dc89d38e6a5e55b63e9e640214985b15af4194be5a82ef", func := "concordance/concordancelaw6.PackedWords", spec := "packedWords", unfollowed := true, recurses := true, apart := false, narrowed := true }
def PackedWordsUptoSaid : Prop := packedWordsUptoRow.holds Try.pinned (OpenSpec.upto packedWordsSpec)

/-- 'concordancelaw6.PackedLongs', WHERE WHAT IT READS IS OF BULK AT MOST 1048576: true; the input reads as it did. -/
def packedLongsUptoRow : OpenClaim := { program := "ytolncaccemfbdaa", sum := "ef07c6871b58141154dc89d38e6a5e55b63e9e640214985b15af4194be5a82ef", func := "concordance/concordancelaw6.PackedLongs", spec := "packedLongs", unfollowed := true, recurses := true, apart := false, narrowed := true }
def PackedLongsUptoSaid : Prop := packedLongsUptoRow.holds Try.pinned (OpenSpec.upto packedLongsSpec)

/-- 'concordancelaw6.PackedWidths', WHERE WHAT IT READS IS OF BULK AT MOST 1048576: true; the input reads as it did. -/
def packedWidthsUptoRow : OpenClaim := { program := "ytolncaccemfbdaa", sum := "ef07c6871b58141154dc89d38e6a5e55b63e9e640214985b15af4194be5a82ef", func := "concordance/concordancelaw6.PackedWidths", spec := "packedWidths", apart := false, narrowed := true }
def PackedWidthsUptoSaid : Prop := packedWidthsUptoRow.holds Try.pinned (OpenSpec.upto packedWidthsSpec)

/-- 'concordancelaw6.PackedOwn', WHERE WHAT IT READS IS OF BULK AT MOST 1048576: true; the input reads as it did. -/
def packedOwnUptoRow : OpenClaim := { program := "ytolncaccemfbdaa", sum := "ef07c6871b58141154dc89d38e6a5e55b63e9e640214985b15af4194be5a82ef", func := "concordance/concordancelaw6.PackedOwn", spec := "packedOwn", apart := false, narrowed := true }
def PackedOwnUptoSaid : Prop := packedOwnUptoRow.holds Try.pinned (OpenSpec.upto packedOwnSpec)

/-- 'concordancelaw6.PackedSizes', WHERE WHAT IT READS IS OF BULK AT MOST 1048576: true; the input reads as it did. -/
def packedSizesUptoRow : OpenClaim := { program := "ytolncaccemfbdaa", sum := "ef07c6871b58141154dc89d38e6a5e55b63e9e640214985b15af4194be5a82ef", func := "concordance/concordancelaw6.PackedSizes", spec := "packedSizes", apart := false, narrowed := true }
def PackedSizesUptoSaid : Prop := packedSizesUptoRow.holds Try.pinned (OpenSpec.upto packedSizesSpec)

/-- 'concordancelaw6.PackedTwo', WHERE WHAT IT READS IS OF BULK AT MOST 1048576: true; the input reads as it did. -/
def packedTwoUptoRow : OpenClaim := { program := "ytolncaccemfbdaa", sum := "ef07c6871b58141154dc89d38e6a5e55b63e9e640214985b15af4194be5a82ef", func := "concordance/concordancelaw6.PackedTwo", spec := "packedTwo", apart := false, narrowed := true }
def PackedTwoUptoSaid : Prop := packedTwoUptoRow.holds Try.pinned (OpenSpec.upto packedTwoSpec)

/-- 'concordancelaw6.PackedShorts', WHERE WHAT IT READS IS OF BULK AT MOST 1048576: true; the input reads as it did. -/
def packedShortsUptoRow : OpenClaim := { program := "ytolncaccemfbdaa", sum := "ef07c6871b58141154dc89d38e6a5e55b63e9e640214985b15af4194be5a82ef", func := "concordance/concordancelaw6.PackedShorts", spec := "packedShorts", unfollowed := true, recurses := true, apart := false, narrowed := true }
def PackedShortsUptoSaid : Prop := packedShortsUptoRow.holds Try.pinned (OpenSpec.upto packedShortsSpec)

end Rows
end Go.Proofs.Ytolncaccemfbdaa
