/-
  No cell of these rows narrows 'for every input' (looked for: loops, veiled, ifaces, maps, wideKeys, modest, calm, conditions, laid).
  DERIVED. THE GIVEN ROWS OF THIS SEAT. 7 by the template 'for every input the law returns true; each argument reads behind the call as it read before'; 0 by the template 'total and deterministic' (their statements: YtpcjdgmjlnlfgaaTotals.lean).
  GIVEN WITH THE SEED: the statements are not yours to turn. If you find one false, say at which input.
  Laid BY PROGRAM, IN A SANDBOX (cutbox-rows.mjs): the forced cells as the released guide's own fill.sh prints them over the translation 8d0bc6be1efcbf97… (all of the seat's roots in one cut). By AI agents, Wed Nov 11 2026. No macro, syntax, notation, axiom, sorry.
-/
import Derived.Test.YtpcjdgmjlnlfgaaChecked
import GoSem.Claim
import GoSem.ClaimJoined
import GoSem.ClaimMapViews
import Derived.JoinedTies
import Derived.KernelRfl
namespace Go.Proofs.Ytpcjdgmjlnlfgaa
/- THE CELL 'sum', in the pinned program and in every row, IS THE sha256 OF THE DUMP (.gsa) THAT YtpcjdgmjlnlfgaaProg.lean LOADS. Nothing in Lean hashes anything: it is a label: what it is worth is what the hold of that sum in a sandbox is worth. -/
noncomputable def Try.pinned : Pinned := { name := "ytpcjdgmjlnlfgaa", sum := "8d0bc6be1efcbf97dcee4ed8f166e97791b147acd3dab1fff7d8464b63583fed", checked := Try.checked }
namespace Rows
def none {H : Type} : Left H := { results := [], args := [] }

/-- 'concordancelaw1.NumCanon': WHATEVER THE INPUT: true; the input reads as it did. -/
def numCanonSpec : ChangeSpec := { name := "numCanon", fn := fun _ => fun
  | [d1, d2] => { results := [.lit (.bool true)], args := [d1, d2] }
  | _ => none }
def numCanonRow : OpenClaim := { program := "ytpcjdgmjlnlfgaa", sum := "8d0bc6be1efcbf97dcee4ed8f166e97791b147acd3dab1fff7d8464b63583fed", func := "concordance/concordancelaw1.NumCanon", spec := "numCanon", apart := false }
def NumCanonSaid : Prop := numCanonRow.holds Try.pinned (OpenSpec.ofChange numCanonSpec)

/-- ITS FALSE NEIGHBOUR: 'it returns false'. Refute it at one input. -/
def numCanonWrong : ChangeSpec := { name := "numCanon", fn := fun _ => fun
  | [d1, d2] => { results := [.lit (.bool false)], args := [d1, d2] }
  | _ => none }
def NumCanonWrongFalsely : Prop := numCanonRow.holds Try.pinned (OpenSpec.ofChange numCanonWrong)

/-- 'concordancelaw1.NumZigs': WHATEVER THE INPUT: true; the input reads as it did. -/
def numZigsSpec : ChangeSpec := { name := "numZigs", fn := fun _ => fun
  | [d1, d2] => { results := [.lit (.bool true)], args := [d1, d2] }
  | _ => none }
def numZigsRow : OpenClaim := { program := "ytpcjdgmjlnlfgaa", sum := "8d0bc6be1efcbf97dcee4ed8f166e97791b147acd3dab1fff7d8464b63583fed", func := "concordance/concordancelaw1.NumZigs", spec := "numZigs", apart := false }
def NumZigsSaid : Prop := numZigsRow.holds Try.pinned (OpenSpec.ofChange numZigsSpec)

/-- ITS FALSE NEIGHBOUR: 'it returns false'. Refute it at one input. -/
def numZigsWrong : ChangeSpec := { name := "numZigs", fn := fun _ => fun
  | [d1, d2] => { results := [.lit (.bool false)], args := [d1, d2] }
  | _ => none }
def NumZigsWrongFalsely : Prop := numZigsRow.holds Try.pinned (OpenSpec.ofChange numZigsWrong)

/-- 'concordancelaw1.NumSizes': WHATEVER THE INPUT: true; the input reads as it did. -/
def numSizesSpec : ChangeSpec := { name := "numSizes", fn := fun _ => fun
  | [d1, d2, d3] => { results := [.lit (.bool true)], args := [d1, d2, d3] }
  | _ => none }
def numSizesRow : OpenClaim := { program := "ytpcjdgmjlnlfgaa", sum := "8d0bc6be1efcbf97dcee4ed8f166e97791b147acd3dab1fff7d8464b63583fed", func := "concordance/concordancelaw1.NumSizes", spec := "numSizes", apart := false }
def NumSizesSaid : Prop := numSizesRow.holds Try.pinned (OpenSpec.ofChange numSizesSpec)

/-- ITS FALSE NEIGHBOUR: 'it returns false'. Refute it at one input. -/
def numSizesWrong : ChangeSpec := { name := "numSizes", fn := fun _ => fun
  | [d1, d2, d3] => { results := [.lit (.bool false)], args := [d1, d2, d3] }
  | _ => none }
def NumSizesWrongFalsely : Prop := numSizesRow.holds Try.pinned (OpenSpec.ofChange numSizesWrong)

/-- 'concordancelaw1.NumPuts': WHATEVER THE INPUT: true; the input reads as it did. -/
def numPutsSpec : ChangeSpec := { name := "numPuts", fn := fun _ => fun
  | [d1, d2, d3, d4] => { results := [.lit (.bool true)], args := [d1, d2, d3, d4] }
  | _ => none }
def numPutsRow : OpenClaim := { program := "ytpcjdgmjlnlfgaa", sum := "8d0bc6be1efcbf97dcee4ed8f166e97791b147acd3dab1fff7d8464b63583fed", func := "concordance/concordancelaw1.NumPuts", spec := "numPuts", apart := false }
def NumPutsSaid : Prop := numPutsRow.holds Try.pinned (OpenSpec.ofChange numPutsSpec)

/-- ITS FALSE NEIGHBOUR: 'it returns false'. Refute it at one input. -/
def numPutsWrong : ChangeSpec := { name := "numPuts", fn := fun _ => fun
  | [d1, d2, d3, d4] => { results := [.lit (.bool false)], args := [d1, d2, d3, d4] }
  | _ => none }
def NumPutsWrongFalsely : Prop := numPutsRow.holds Try.pinned (OpenSpec.ofChange numPutsWrong)

/-- 'concordancelaw1.NumAll': WHATEVER THE INPUT: true; the input reads as it did. -/
def numAllSpec : ChangeSpec := { name := "numAll", fn := fun _ => fun
  | [d1, d2] => { results := [.lit (.bool true)], args := [d1, d2] }
  | _ => none }
def numAllRow : OpenClaim := { program := "ytpcjdgmjlnlfgaa", sum := "8d0bc6be1efcbf97dcee4ed8f166e97791b147acd3dab1fff7d8464b63583fed", func := "concordance/concordancelaw1.NumAll", spec := "numAll", unfollowed := true, recurses := true, apart := false }
def NumAllSaid : Prop := numAllRow.holds Try.pinned (OpenSpec.ofChange numAllSpec)

/-- ITS FALSE NEIGHBOUR: 'it returns false'. Refute it at one input. -/
def numAllWrong : ChangeSpec := { name := "numAll", fn := fun _ => fun
  | [d1, d2] => { results := [.lit (.bool false)], args := [d1, d2] }
  | _ => none }
def NumAllWrongFalsely : Prop := numAllRow.holds Try.pinned (OpenSpec.ofChange numAllWrong)

/-- 'concordancelaw1.NumRows': WHATEVER THE INPUT: true; the input reads as it did. -/
def numRowsSpec : ChangeSpec := { name := "numRows", fn := fun _ => fun
  | [d1, d2] => { results := [.lit (.bool true)], args := [d1, d2] }
  | _ => none }
def numRowsRow : OpenClaim := { program := "ytpcjdgmjlnlfgaa", sum := "8d0bc6be1efcbf97dcee4ed8f166e97791b147acd3dab1fff7d8464b63583fed", func := "concordance/concordancelaw1.NumRows", spec := "numRows", unfollowed := true, recurses := true, apart := false }
def NumRowsSaid : Prop := numRowsRow.holds Try.pinned (OpenSpec.ofChange numRowsSpec)

/-- ITS FALSE NEIGHBOUR: 'it returns false'. Refute it at one input. -/
def numRowsWrong : ChangeSpec := { name := "numRows", fn := fun _ => fun
  | [d1, d2] => { results := [.lit (.bool false)], args := [d1, d2] }
  | _ => none }
def NumRowsWrongFalsely : Prop := numRowsRow.holds Try.pinned (OpenSpec.ofChange numRowsWrong)

/-- 'concordancelaw1.NumFixes': WHATEVER THE INPUT: true; the input reads as it did. -/
def numFixesSpec : ChangeSpec := { name := "numFixes", fn := fun _ => fun
  | [d1, d2, d3] => { results := [.lit (.bool true)], args := [d1, d2, d3] }
  | _ => none }
def numFixesRow : OpenClaim := { program := "ytpcjdgmjlnlfgaa", sum := "8d0bc6be1efcbf97dcee4ed8f166e97791b147acd3dab1fff7d8464b63583fed", func := "concordance/concordancelaw1.NumFixes", spec := "numFixes", apart := false }
def NumFixesSaid : Prop := numFixesRow.holds Try.pinned (OpenSpec.ofChange numFixesSpec)

/-- ITS FALSE NEIGHBOUR: 'it returns false'. Refute it at one input. -/
def numFixesWrong : ChangeSpec := { name := "numFixes", fn := fun _ => fun
  | [d1, d2, d3] => { results := [.lit (.bool false)], args := [d1, d2, d3] }
  | _ => none }
def NumFixesWrongFalsely : Prop := numFixesRow.holds Try.pinned (OpenSpec.ofChange numFixesWrong)

/- THE SECOND FORM. 'bulk': how many values and letters a reading holds, each counted each time it is reached (what is shared counts as often as it is met; a slice's spare places count too). A statement '..UptoSaid' is the law's where the arguments, and the package variables that the reading takes, are together of bulk at most 1048576: NARROWER than '..Said'. Prove '..Said' where nothing that the law and all that it calls make is longer than what came in: it says more and counts as full. Else prove '..UptoSaid'. A law counts once. -/
mutual
def uptoBulk {H : Type} : DataW H → Nat
  | .lit (.string bytes) => bytes.length + 1
  | .lit _ => 1
  | .nil => 1
  | .ptr d => uptoBulk d + 1
  | .slice elems spare => uptoBulkAll elems + uptoBulkAll spare + 1
  | .agg parts => uptoBulkAll parts + 1
  | .iface _ d => uptoBulk d + 1
  | .map entries => uptoBulkEntries entries + 1
  | .held _ => 1
def uptoBulkAll {H : Type} : List (DataW H) → Nat
  | [] => 0
  | d :: r => uptoBulk d + uptoBulkAll r
def uptoBulkEntries {H : Type} : List (Lit × DataW H) → Nat
  | [] => 0
  | x :: r => uptoBulkEntry x + uptoBulkEntries r
def uptoBulkEntry {H : Type} : Lit × DataW H → Nat
  | (.string bytes, d) => bytes.length + uptoBulk d + 1
  | (_, d) => uptoBulk d + 1
 end
def uptoSmall : (H : Type) → List (DataW H) → Bool := fun _ ds => decide (uptoBulkAll ds ≤ 1048576)
def OpenSpec.upto (s : _root_.Go.ChangeSpec) : _root_.Go.OpenSpec := { _root_.Go.OpenSpec.ofChange s with cond := some uptoSmall }

/-- 'concordancelaw1.NumCanon', WHERE WHAT IT READS IS OF BULK AT MOST 1048576: true; the input reads as it did. -/
def numCanonUptoRow : OpenClaim := { program := "ytpcjdgmjlnlfgaa", sum := "8d0bc6be1efcbf97dcee4ed8f166e97791b147acd3dab1fff7d8464b63583fed", func := "concordance/concordancelaw1.NumCanon", spec := "numCanon", apart := false, narrowed := true }
def NumCanonUptoSaid : Prop := numCanonUptoRow.holds Try.pinned (OpenSpec.upto numCanonSpec)

/-- 'concordancelaw1.NumZigs', WHERE WHAT IT READS IS OF BULK AT MOST 1048576: true; the input reads as it did. -/
def numZigsUptoRow : OpenClaim := { program := "ytpcjdgmjlnlfgaa", sum := "8d0bc6be1efcbf97dcee4ed8f166e97791b147acd3dab1fff7d8464b63583fed", func := "concordance/concordancelaw1.NumZigs", spec := "numZigs", apart := false, narrowed := true }
def NumZigsUptoSaid : Prop := numZigsUptoRow.holds Try.pinned (OpenSpec.upto numZigsSpec)

/-- 'concordancelaw1.NumSizes', WHERE WHAT IT READS IS OF BULK AT MOST 1048576: true; the input reads as it did. -/
def numSizesUptoRow : OpenClaim := { program := "ytpcjdgmjlnlfgaa", sum := "8d0bc6be1efcbf97dcee4ed8f166e97791b147acd3dab1fff7d8464b63583fed", func := "concordance/concordancelaw1.NumSizes", spec := "numSizes", apart := false, narrowed := true }
def NumSizesUptoSaid : Prop := numSizesUptoRow.holds Try.pinned (OpenSpec.upto numSizesSpec)

/-- 'concordancelaw1.NumPuts', WHERE WHAT IT READS IS OF BULK AT MOST 1048576: true; the input reads as it did. -/
def numPutsUptoRow : OpenClaim := { program := "ytpcjdgmjlnlfgaa", sum := "8d0bc6be1efcbf97dcee4ed8f166e97791b147acd3dab1fff7d8464b63583fed", func := "concordance/concordancelaw1.NumPuts", spec := "numPuts", apart := false, narrowed := true }
def NumPutsUptoSaid : Prop := numPutsUptoRow.holds Try.pinned (OpenSpec.upto numPutsSpec)

/-- 'concordancelaw1.NumAll', WHERE WHAT IT READS IS OF BULK AT MOST 1048576: true; the input reads as it did. -/
def numAllUptoRow : OpenClaim := { program := "ytpcjdgmjlnlfgaa", sum := "8d0bc6be1efcbf97dcee4ed8f166e97791b147acd3dab1fff7d8464b63583fed", func := "concordance/concordancelaw1.NumAll", spec := "numAll", unfollowed := true, recurses := true, apart := false, narrowed := true }
def NumAllUptoSaid : Prop := numAllUptoRow.holds Try.pinned (OpenSpec.upto numAllSpec)

/-- 'concordancelaw1.NumRows', WHERE WHAT IT READS IS OF BULK AT MOST 1048576: true; the input reads as it did. -/
def numRowsUptoRow : OpenClaim := { program := "ytpcjdgmjlnlfgaa", sum := "8d0bc6be1efcbf97dcee4ed8f166e97791b147acd3dab1fff7d8464b63583fed", func := "concordance/concordancelaw1.NumRows", spec := "numRows", unfollowed := true, recurses := true, apart := false, narrowed := true }
def NumRowsUptoSaid : Prop := numRowsUptoRow.holds Try.pinned (OpenSpec.upto numRowsSpec)

/-- 'concordancelaw1.NumFixes', WHERE WHAT IT READS IS OF BULK AT MOST 1048576: true; the input reads as it did. -/
def numFixesUptoRow : OpenClaim := { program := "ytpcjdgmjlnlfgaa", sum := "8d0bc6be1efcbf97dcee4ed8f166e97791b147acd3dab1fff7d8464b63583fed", func := "concordance/concordancelaw1.NumFixes", spec := "numFixes", apart := false, narrowed := true }
def NumFixesUptoSaid : Prop := numFixesUptoRow.holds Try.pinned (OpenSpec.upto numFixesSpec)

end Rows
end Go.Proofs.Ytpcjdgmjlnlfgaa
