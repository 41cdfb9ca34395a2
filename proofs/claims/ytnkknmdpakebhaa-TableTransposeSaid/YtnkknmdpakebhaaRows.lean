/-
  NARROWER THAN 'FOR EVERY INPUT', by the rows' own cells (each row's printed sentence says how): TableSorted: loops.
  DERIVED. THE GIVEN ROWS OF THIS SEAT. 3 by the template 'for every input the law returns true; each argument reads behind the call as it read before'; 0 by the template 'total and deterministic' (their statements: YtnkknmdpakebhaaTotals.lean).
  GIVEN WITH THE SEED: the statements are not yours to turn. If you find one false, say at which input.
  Laid BY PROGRAM, IN A SANDBOX (cutbox-rows.mjs): the forced cells as the released guide's own fill.sh prints them over the translation 172dd4b67e1d0d45… (all of the seat's roots in one cut). By AI agents, Wed Nov 11 2026. No macro, syntax, notation, axiom, sorry.
-/
import Derived.Test.YtnkknmdpakebhaaChecked
import GoSem.Claim
import GoSem.ClaimJoined
import GoSem.ClaimMapViews
import Derived.JoinedTies
import Derived.KernelRfl
namespace Go.Proofs.Ytnkknmdpakebhaa
/- THE CELL 'sum', in the pinned program and in every row, IS THE sha256 OF THE DUMP (.gsa) THAT YtnkknmdpakebhaaProg.lean LOADS. Nothing in Lean hashes anything: it is a label: what it is worth is what the hold of that sum in a sandbox is worth. -/
noncomputable def Try.pinned : Pinned := { name := "ytnkknmdpakebhaa", sum := "172dd4b67e1d0d45240f9204184cfd011070c706ee99c9f042364c53439a772c", checked := Try.checked }
namespace Rows
def none {H : Type} : Left H := { results := [], args := [] }

/-- 'ndjqlaw09.TableStable': WHATEVER THE INPUT: true; the input reads as it did. -/
def tableStableSpec : ChangeSpec := { name := "tableStable", fn := fun _ => fun
  | [d] => { results := [.lit (.bool true)], args := [d] }
  | _ => none }
def tableStableRow : OpenClaim := { program := "ytnkknmdpakebhaa", sum := "172dd4b67e1d0d45240f9204184cfd011070c706ee99c9f042364c53439a772c", func := "ndjq/ndjqlaw09.TableStable", spec := "tableStable", inPlace := ["internal/bytealg.abigen_runtime_cmpstring"], unfollowed := true, recurses := true, apart := false }
def TableStableSaid : Prop := tableStableRow.holds Try.pinned (OpenSpec.ofChange tableStableSpec)

/-- ITS FALSE NEIGHBOUR: 'it returns false'. Refute it at one input. -/
def tableStableWrong : ChangeSpec := { name := "tableStable", fn := fun _ => fun
  | [d] => { results := [.lit (.bool false)], args := [d] }
  | _ => none }
def TableStableWrongFalsely : Prop := tableStableRow.holds Try.pinned (OpenSpec.ofChange tableStableWrong)

/-- 'ndjqlaw09.TableSorted': WHATEVER THE INPUT: true; the input reads as it did. -/
def tableSortedSpec : ChangeSpec := { name := "tableSorted", fn := fun _ => fun
  | [d] => { results := [.lit (.bool true)], args := [d] }
  | _ => none }
def tableSortedRow : OpenClaim := { program := "ytnkknmdpakebhaa", sum := "172dd4b67e1d0d45240f9204184cfd011070c706ee99c9f042364c53439a772c", func := "ndjq/ndjqlaw09.TableSorted", spec := "tableSorted", inPlace := ["internal/bytealg.abigen_runtime_cmpstring"], unfollowed := true, recurses := true, loops := true, apart := false }
def TableSortedSaid : Prop := tableSortedRow.holds Try.pinned (OpenSpec.ofChange tableSortedSpec)

/-- ITS FALSE NEIGHBOUR: 'it returns false'. Refute it at one input. -/
def tableSortedWrong : ChangeSpec := { name := "tableSorted", fn := fun _ => fun
  | [d] => { results := [.lit (.bool false)], args := [d] }
  | _ => none }
def TableSortedWrongFalsely : Prop := tableSortedRow.holds Try.pinned (OpenSpec.ofChange tableSortedWrong)

/-- 'ndjqlaw09.TableTranspose': WHATEVER THE INPUT: true; the input reads as it did. -/
def tableTransposeSpec : ChangeSpec := { name := "tableTranspose", fn := fun _ => fun
  | [d1, d2] => { results := [.lit (.bool true)], args := [d1, d2] }
  | _ => none }
def tableTransposeRow : OpenClaim := { program := "ytnkknmdpakebhaa", sum := "172dd4b67e1d0d45240f9204184cfd011070c706ee99c9f042364c53439a772c", func := "ndjq/ndjqlaw09.TableTranspose", spec := "tableTranspose", inPlace := ["internal/bytealg.abigen_runtime_cmpstring"], unfollowed := true, recurses := true, apart := false }
def TableTransposeSaid : Prop := tableTransposeRow.holds Try.pinned (OpenSpec.ofChange tableTransposeSpec)

/-- ITS FALSE NEIGHBOUR: 'it returns false'. Refute it at one input. -/
def tableTransposeWrong : ChangeSpec := { name := "tableTranspose", fn := fun _ => fun
  | [d1, d2] => { results := [.lit (.bool false)], args := [d1, d2] }
  | _ => none }
def TableTransposeWrongFalsely : Prop := tableTransposeRow.holds Try.pinned (OpenSpec.ofChange tableTransposeWrong)

/- THE SECOND FORM. 'bulk': how many values and letters a reading holds, each counted each time it is reached (what is shared counts as often as it is met; a slice's spare places count too). A statement '..UptoSaid' is the law's where the arguments, and the package variables that the reading takes, are together of bulk at most 1048576: NARROWER than '..Said'. Prove '..Said' where nothing that the law and all that it calls make is longer than what came in: it says more and counts as full. Else prove '..UptoSaid'. A law counts once. -/
mutual
def uptoBulk {H : Type} : DataW H → Nat
  | .lit (.string bytes) => bytes.length + 1
  | .lit _ => 1
  | .nil => 1
  | .ptr d => uptoBulk d + 1
  | .slice elems spare => uptoBulkAll elems + uptoBulkAll spare + 1
  | .agg parts => uptoBulkAll parts + 1
  | .iface _ d => uptoBulk d + 1
  | .map entries => uptoBulkEntries entries + 1
  | .held _ => 1
def uptoBulkAll {H : Type} : List (DataW H) → Nat
  | [] => 0
  | d :: r => uptoBulk d + uptoBulkAll r
def uptoBulkEntries {H : Type} : List (Lit × DataW H) → Nat
  | [] => 0
  | x :: r => uptoBulkEntry x + uptoBulkEntries r
def uptoBulkEntry {H : Type} : Lit × DataW H → Nat
  | (.string bytes, d) => bytes.length + uptoBulk d + 1
  | (_, d) => uptoBulk d + 1
 end
def uptoSmall : (H : Type) → List (DataW H) → Bool := fun _ ds => decide (uptoBulkAll ds ≤ 1048576)
def OpenSpec.upto (s : _root_.Go.ChangeSpec) : _root_.Go.OpenSpec := { _root_.Go.OpenSpec.ofChange s with cond := some uptoSmall }

/-- 'ndjqlaw09.TableStable', WHERE WHAT IT READS IS OF BULK AT MOST 1048576: true; the input reads as it did. -/
def tableStableUptoRow : OpenClaim := { program := "ytnkknmdpakebhaa", sum := "172dd4b67e1d0d45240f9204184cfd011070c706ee99c9f042364c53439a772c", func := "ndjq/ndjqlaw09.TableStable", spec := "tableStable", inPlace := ["internal/bytealg.abigen_runtime_cmpstring"], unfollowed := true, recurses := true, apart := false, narrowed := true }
def TableStableUptoSaid : Prop := tableStableUptoRow.holds Try.pinned (OpenSpec.upto tableStableSpec)

/-- 'ndjqlaw09.TableSorted', WHERE WHAT IT READS IS OF BULK AT MOST 1048576: true; the input reads as it did. -/
def tableSortedUptoRow : OpenClaim := { program := "ytnkknmdpakebhaa", sum := "172dd4b67e1d0d45240f9204184cfd011070c706ee99c9f042364c53439a772c", func := "ndjq/ndjqlaw09.TableSorted", spec := "tableSorted", inPlace := ["internal/bytealg.abigen_runtime_cmpstring"], unfollowed := true, recurses := true, loops := true, apart := false, narrowed := true }
def TableSortedUptoSaid : Prop := tableSortedUptoRow.holds Try.pinned (OpenSpec.upto tableSortedSpec)

/-- 'ndjqlaw09.TableTranspose', WHERE WHAT IT READS IS OF BULK AT MOST 1048576: true; the input reads as it did. -/
def tableTransposeUptoRow : OpenClaim := { program := "ytnkknmdpakebhaa", sum := "172dd4b67e1d0d45240f9204184cfd011070c706ee99c9f042364c53439a772c", func := "ndjq/ndjqlaw09.TableTranspose", spec := "tableTranspose", inPlace := ["internal/bytealg.abigen_runtime_cmpstring"], unfollowed := true, recurses := true, apart := false, narrowed := true }
def TableTransposeUptoSaid : Prop := tableTransposeUptoRow.holds Try.pinned (OpenSpec.upto tableTransposeSpec)

end Rows
end Go.Proofs.Ytnkknmdpakebhaa
