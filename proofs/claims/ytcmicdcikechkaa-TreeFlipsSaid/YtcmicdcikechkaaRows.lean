/-
  No cell of these rows narrows 'for every input' (looked for: loops, veiled, ifaces, maps, wideKeys, modest, calm, conditions, laid).
  DERIVED. THE GIVEN ROWS OF THIS SEAT. 4 by the template 'for every input the law returns true; each argument reads behind the call as it read before'; 0 by the template 'total and deterministic' (their statements: YtcmicdcikechkaaTotals.lean).
  GIVEN WITH THE SEED: the statements are not yours to turn. If you find one false, say at which input.
  Laid BY PROGRAM, IN A SANDBOX (cutbox-rows.mjs): the forced cells as the released guide's own fill.sh prints them over the translation f285900af11d736f… (all of the seat's roots in one cut). By AI agents, Wed Nov 11 2026. No macro, syntax, notation, axiom, sorry.
-/
import Derived.Test.YtcmicdcikechkaaChecked
import GoSem.Claim
import GoSem.ClaimJoined
import GoSem.ClaimMapViews
import Derived.JoinedTies
import Derived.KernelRfl
namespace Go.Proofs.Ytcmicdcikechkaa
/- THE CELL 'sum', in the pinned program and in every row, IS THE sha256 OF THE DUMP (.gsa) THAT YtcmicdcikechkaaProg.lean LOADS. Nothing in Lean hashes anything: it is a label: what it is worth is what the hold of that sum in a sandbox is worth. -/
noncomputable def Try.pinned : Pinned := { name := "ytcmicdcikechkaa", sum := "f285900af11d736f3fb2e20b235d3d736320a1b50a508c8fcc164cbd3676ccb6", checked := Try.checked }
namespace Rows
def none {H : Type} : Left H := { results := [], args := [] }

/-- 'headlandlaw5.TreePieces': WHATEVER THE INPUT: true; the input reads as it did. -/
def treePiecesSpec : ChangeSpec := { name := "treePieces", fn := fun _ => fun
  | [d1, d2, d3] => { results := [.lit (.bool true)], args := [d1, d2, d3] }
  | _ => none }
def treePiecesRow : OpenClaim := { program := "ytcmicdcikechkaa", sum := "f285900af11d736f3fb2e20b235d3d736320a1b50a508c8fcc164cbd3676ccb6", func := "headland/headlandlaw5.TreePieces", spec := "treePieces", inPlace := ["internal/bytealg.Compare", "maps.clone"], unfollowed := true, recurses := true, apart := false }
def TreePiecesSaid : Prop := treePiecesRow.holds Try.pinned (OpenSpec.ofChange treePiecesSpec)

/-- ITS FALSE NEIGHBOUR: 'it returns false'. Refute it at one input. -/
def treePiecesWrong : ChangeSpec := { name := "treePieces", fn := fun _ => fun
  | [d1, d2, d3] => { results := [.lit (.bool false)], args := [d1, d2, d3] }
  | _ => none }
def TreePiecesWrongFalsely : Prop := treePiecesRow.holds Try.pinned (OpenSpec.ofChange treePiecesWrong)

/-- 'headlandlaw5.TreeFull': WHATEVER THE INPUT: true; the input reads as it did. -/
def treeFullSpec : ChangeSpec := { name := "treeFull", fn := fun _ => fun
  | [d1, d2] => { results := [.lit (.bool true)], args := [d1, d2] }
  | _ => none }
def treeFullRow : OpenClaim := { program := "ytcmicdcikechkaa", sum := "f285900af11d736f3fb2e20b235d3d736320a1b50a508c8fcc164cbd3676ccb6", func := "headland/headlandlaw5.TreeFull", spec := "treeFull", inPlace := ["internal/bytealg.Compare", "maps.clone"], unfollowed := true, recurses := true, apart := false }
def TreeFullSaid : Prop := treeFullRow.holds Try.pinned (OpenSpec.ofChange treeFullSpec)

/-- ITS FALSE NEIGHBOUR: 'it returns false'. Refute it at one input. -/
def treeFullWrong : ChangeSpec := { name := "treeFull", fn := fun _ => fun
  | [d1, d2] => { results := [.lit (.bool false)], args := [d1, d2] }
  | _ => none }
def TreeFullWrongFalsely : Prop := treeFullRow.holds Try.pinned (OpenSpec.ofChange treeFullWrong)

/-- 'headlandlaw5.TreeFlips': WHATEVER THE INPUT: true; the input reads as it did. -/
def treeFlipsSpec : ChangeSpec := { name := "treeFlips", fn := fun _ => fun
  | [d1, d2, d3] => { results := [.lit (.bool true)], args := [d1, d2, d3] }
  | _ => none }
def treeFlipsRow : OpenClaim := { program := "ytcmicdcikechkaa", sum := "f285900af11d736f3fb2e20b235d3d736320a1b50a508c8fcc164cbd3676ccb6", func := "headland/headlandlaw5.TreeFlips", spec := "treeFlips", inPlace := ["internal/bytealg.Compare", "maps.clone"], unfollowed := true, recurses := true, apart := false }
def TreeFlipsSaid : Prop := treeFlipsRow.holds Try.pinned (OpenSpec.ofChange treeFlipsSpec)

/-- ITS FALSE NEIGHBOUR: 'it returns false'. Refute it at one input. -/
def treeFlipsWrong : ChangeSpec := { name := "treeFlips", fn := fun _ => fun
  | [d1, d2, d3] => { results := [.lit (.bool false)], args := [d1, d2, d3] }
  | _ => none }
def TreeFlipsWrongFalsely : Prop := treeFlipsRow.holds Try.pinned (OpenSpec.ofChange treeFlipsWrong)

/-- 'headlandlaw5.TreeOrders': WHATEVER THE INPUT: true; the input reads as it did. -/
def treeOrdersSpec : ChangeSpec := { name := "treeOrders", fn := fun _ => fun
  | [d1, d2] => { results := [.lit (.bool true)], args := [d1, d2] }
  | _ => none }
def treeOrdersRow : OpenClaim := { program := "ytcmicdcikechkaa", sum := "f285900af11d736f3fb2e20b235d3d736320a1b50a508c8fcc164cbd3676ccb6", func := "headland/headlandlaw5.TreeOrders", spec := "treeOrders", inPlace := ["internal/bytealg.Compare", "maps.clone"], unfollowed := true, recurses := true, apart := false }
def TreeOrdersSaid : Prop := treeOrdersRow.holds Try.pinned (OpenSpec.ofChange treeOrdersSpec)

/-- ITS FALSE NEIGHBOUR: 'it returns false'. Refute it at one input. -/
def treeOrdersWrong : ChangeSpec := { name := "treeOrders", fn := fun _ => fun
  | [d1, d2] => { results := [.lit (.bool false)], args := [d1, d2] }
  | _ => none }
def TreeOrdersWrongFalsely : Prop := treeOrdersRow.holds Try.pinned (OpenSpec.ofChange treeOrdersWrong)

/- THE SECOND FORM. 'bulk': how many values and letters a reading holds, each counted each time it is reached (what is shared counts as often as it is met; a slice's spare places count too). A statement '..UptoSaid' is the law's where the arguments, and the package variables that the reading takes, are together of bulk at most 1048576: NARROWER than '..Said'. Prove '..Said' where nothing that the law and all that it calls make is longer than what came in: it says more and counts as full. Else prove '..UptoSaid'. A law counts once. -/
mutual
def uptoBulk {H : Type} : DataW H → Nat
  | .lit (.string bytes) => bytes.length + 1
  | .lit _ => 1
  | .nil => 1
  | .ptr d => uptoBulk d + 1
  | .slice elems spare => uptoBulkAll elems + uptoBulkAll spare + 1
  | .agg parts => uptoBulkAll parts + 1
  | .iface _ d => uptoBulk d + 1
  | .map entries => uptoBulkEntries entries + 1
  | .held _ => 1
def uptoBulkAll {H : Type} : List (DataW H) → Nat
  | [] => 0
  | d :: r => uptoBulk d + uptoBulkAll r
def uptoBulkEntries {H : Type} : List (Lit × DataW H) → Nat
  | [] => 0
  | x :: r => uptoBulkEntry x + uptoBulkEntries r
def uptoBulkEntry {H : Type} : Lit × DataW H → Nat
  | (.string bytes, d) => bytes.length + uptoBulk d + 1
  | (_, d) => uptoBulk d + 1
 end
def uptoSmall : (H : Type) → List (DataW H) → Bool := fun _ ds => decide (uptoBulkAll ds ≤ 1048576)
def OpenSpec.upto (s : _root_.Go.ChangeSpec) : _root_.Go.OpenSpec := { _root_.Go.OpenSpec.ofChange s with cond := some uptoSmall }

/-- 'headlandlaw5.TreePieces', WHERE WHAT IT READS IS OF BULK AT MOST 1048576: true; the input reads as it did. -/
def treePiecesUptoRow : OpenClaim := { program := "ytcmicdcikechkaa", sum := "f285900af11d736f3fb2e20b235d3d736320a1b50a508c8fcc164cbd3676ccb6", func := "headland/headlandlaw5.TreePieces", spec := "treePieces", inPlace := ["internal/bytealg.Compare", "maps.clone"], unfollowed := true, recurses := true, apart := false, narrowed := true }
def TreePiecesUptoSaid : Prop := treePiecesUptoRow.holds Try.pinned (OpenSpec.upto treePiecesSpec)

/-- 'headlandlaw5.TreeFull', WHERE WHAT IT READS IS OF BULK AT MOST 1048576: true; the input reads as it did. -/
def treeFullUptoRow : OpenClaim := { program := "ytcmicdcikechkaa", sum := "f285900af11d736f3fb2e20b235d3d736320a1b50a508c8fcc164cbd3676ccb6", func := "headland/headlandlaw5.TreeFull", spec := "treeFull", inPlace := ["internal/bytealg.Compare", "maps.clone"], unfollowed := true, recurses := true, apart := false, narrowed := true }
def TreeFullUptoSaid : Prop := treeFullUptoRow.holds Try.pinned (OpenSpec.upto treeFullSpec)

/-- 'headlandlaw5.TreeFlips', WHERE WHAT IT READS IS OF BULK AT MOST 1048576: true; the input reads as it did. -/
def treeFlipsUptoRow : OpenClaim := { program := "ytcmicdcikechkaa", sum := "f285900af11d736f3fb2e20b235d3d736320a1b50a508c8fcc164cbd3676ccb6", func := "headland/headlandlaw5.TreeFlips", spec := "treeFlips", inPlace := ["internal/bytealg.Compare", "maps.clone"], unfollowed := true, recurses := true, apart := false, narrowed := true }
def TreeFlipsUptoSaid : Prop := treeFlipsUptoRow.holds Try.pinned (OpenSpec.upto treeFlipsSpec)

/-- 'headlandlaw5.TreeOrders', WHERE WHAT IT READS IS OF BULK AT MOST 1048576: true; the input reads as it did. -/
def treeOrdersUptoRow : OpenClaim := { program := "ytcmicdcikechkaa", sum := "f285900af11d736f3fb2e20b235d3d736320a1b50a508c8fcc164cbd3676ccb6", func := "headland/headlandlaw5.TreeOrders", spec := "treeOrders", inPlace := ["internal/bytealg.Compare", "maps.clone"], unfollowed := true, recurses := true, apart := false, narrowed := true }
def TreeOrdersUptoSaid : Prop := treeOrdersUptoRow.holds Try.pinned (OpenSpec.upto treeOrdersSpec)

end Rows
end Go.Proofs.Ytcmicdcikechkaa
