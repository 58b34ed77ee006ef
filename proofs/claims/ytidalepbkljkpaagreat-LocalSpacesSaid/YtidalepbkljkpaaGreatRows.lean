/-
  No cell of these rows narrows 'for every input' (looked for: loops, veiled, ifaces, maps, wideKeys, modest, calm, conditions, laid).
  DERIVED. THE GIVEN ROWS OF THIS SEAT. 8 by the template 'for every input the law returns true; each argument reads behind the call as it read before'; 0 by the template 'total and deterministic' (their statements: YtidalepbkljkpaaGreatTotals.lean).
  GIVEN WITH THE SEED: the statements are not yours to turn. If you find one false, say at which input.
  Laid BY PROGRAM, IN A SANDBOX (cutbox-rows.mjs): the forced cells as the released guide's own fill.sh prints them over the translation 560c191334868199… (all of the seat's roots in one cut). By AI agents, Wed Nov 11 2026. No macro, syntax, notation, axiom, sorry.
-/
import Derived.Test.YtidalepbkljkpaaGreatChecked
import GoSem.Claim
import GoSem.ClaimJoined
import GoSem.ClaimMapViews
import Derived.JoinedTies
import Derived.KernelRfl
namespace Go.Proofs.YtidalepbkljkpaaGreat
/- THE CELL 'sum', in the pinned program and in every row, IS THE sha256 OF THE DUMP (.gsa) THAT YtidalepbkljkpaaGreatProg.lean LOADS. Nothing in Lean hashes anything: it is a label: what it is worth is what the hold of that sum in a sandbox is worth. -/
noncomputable def Tryz.pinned : Pinned := { name := "ytidalepbkljkpaagreat", sum := "560c191334868199ddc7e921e712514d6a0b0d9b73b3d801b5bceca831dfbe70", checked := Tryz.checked }
namespace Rows
def none {H : Type} : Left H := { results := [], args := [] }

/-- 'headlandlaw13.DraftBack': WHATEVER THE INPUT: true; the input reads as it did. -/
def draftBackSpec : ChangeSpec := { name := "draftBack", fn := fun _ => fun
  | [d1, d2] => { results := [.lit (.bool true)], args := [d1, d2] }
  | _ => none }
def draftBackRow : OpenClaim := { program := "ytidalepbkljkpaagreat", sum := "560c191334868199ddc7e921e712514d6a0b0d9b73b3d801b5bceca831dfbe70", func := "headland/headlandlaw13.DraftBack", spec := "draftBack", inPlace := ["internal/bytealg.Compare"], unfollowed := true, recurses := true, apart := false }
def DraftBackSaid : Prop := draftBackRow.holds Tryz.pinned (OpenSpec.ofChange draftBackSpec)

/-- ITS FALSE NEIGHBOUR: 'it returns false'. Refute it at one input. -/
def draftBackWrong : ChangeSpec := { name := "draftBack", fn := fun _ => fun
  | [d1, d2] => { results := [.lit (.bool false)], args := [d1, d2] }
  | _ => none }
def DraftBackWrongFalsely : Prop := draftBackRow.holds Tryz.pinned (OpenSpec.ofChange draftBackWrong)

/-- 'headlandlaw13.DraftSame': WHATEVER THE INPUT: true; the input reads as it did. -/
def draftSameSpec : ChangeSpec := { name := "draftSame", fn := fun _ => fun
  | [d] => { results := [.lit (.bool true)], args := [d] }
  | _ => none }
def draftSameRow : OpenClaim := { program := "ytidalepbkljkpaagreat", sum := "560c191334868199ddc7e921e712514d6a0b0d9b73b3d801b5bceca831dfbe70", func := "headland/headlandlaw13.DraftSame", spec := "draftSame", inPlace := ["internal/bytealg.Compare"], unfollowed := true, recurses := true, apart := false }
def DraftSameSaid : Prop := draftSameRow.holds Tryz.pinned (OpenSpec.ofChange draftSameSpec)

/-- ITS FALSE NEIGHBOUR: 'it returns false'. Refute it at one input. -/
def draftSameWrong : ChangeSpec := { name := "draftSame", fn := fun _ => fun
  | [d] => { results := [.lit (.bool false)], args := [d] }
  | _ => none }
def DraftSameWrongFalsely : Prop := draftSameRow.holds Tryz.pinned (OpenSpec.ofChange draftSameWrong)

/-- 'headlandlaw6.LocalFull': WHATEVER THE INPUT: true; the input reads as it did. -/
def localFullSpec : ChangeSpec := { name := "localFull", fn := fun _ => fun
  | [d1, d2] => { results := [.lit (.bool true)], args := [d1, d2] }
  | _ => none }
def localFullRow : OpenClaim := { program := "ytidalepbkljkpaagreat", sum := "560c191334868199ddc7e921e712514d6a0b0d9b73b3d801b5bceca831dfbe70", func := "headland/headlandlaw6.LocalFull", spec := "localFull", inPlace := ["internal/bytealg.Compare"], unfollowed := true, recurses := true, apart := false }
def LocalFullSaid : Prop := localFullRow.holds Tryz.pinned (OpenSpec.ofChange localFullSpec)

/-- ITS FALSE NEIGHBOUR: 'it returns false'. Refute it at one input. -/
def localFullWrong : ChangeSpec := { name := "localFull", fn := fun _ => fun
  | [d1, d2] => { results := [.lit (.bool false)], args := [d1, d2] }
  | _ => none }
def LocalFullWrongFalsely : Prop := localFullRow.holds Tryz.pinned (OpenSpec.ofChange localFullWrong)

/-- 'headlandlaw6.LocalSpaces': WHATEVER THE INPUT: true; the input reads as it did. -/
def localSpacesSpec : ChangeSpec := { name := "localSpaces", fn := fun _ => fun
  | [d1, d2, d3] => { results := [.lit (.bool true)], args := [d1, d2, d3] }
  | _ => none }
def localSpacesRow : OpenClaim := { program := "ytidalepbkljkpaagreat", sum := "560c191334868199ddc7e921e712514d6a0b0d9b73b3d801b5bceca831dfbe70", func := "headland/headlandlaw6.LocalSpaces", spec := "localSpaces", inPlace := ["internal/bytealg.Compare"], unfollowed := true, recurses := true, apart := false }
def LocalSpacesSaid : Prop := localSpacesRow.holds Tryz.pinned (OpenSpec.ofChange localSpacesSpec)

/-- ITS FALSE NEIGHBOUR: 'it returns false'. Refute it at one input. -/
def localSpacesWrong : ChangeSpec := { name := "localSpaces", fn := fun _ => fun
  | [d1, d2, d3] => { results := [.lit (.bool false)], args := [d1, d2, d3] }
  | _ => none }
def LocalSpacesWrongFalsely : Prop := localSpacesRow.holds Tryz.pinned (OpenSpec.ofChange localSpacesWrong)

/-- 'headlandlaw6.LocalAgain': WHATEVER THE INPUT: true; the input reads as it did. -/
def localAgainSpec : ChangeSpec := { name := "localAgain", fn := fun _ => fun
  | [d1, d2] => { results := [.lit (.bool true)], args := [d1, d2] }
  | _ => none }
def localAgainRow : OpenClaim := { program := "ytidalepbkljkpaagreat", sum := "560c191334868199ddc7e921e712514d6a0b0d9b73b3d801b5bceca831dfbe70", func := "headland/headlandlaw6.LocalAgain", spec := "localAgain", inPlace := ["internal/bytealg.Compare"], unfollowed := true, recurses := true, apart := false }
def LocalAgainSaid : Prop := localAgainRow.holds Tryz.pinned (OpenSpec.ofChange localAgainSpec)

/-- ITS FALSE NEIGHBOUR: 'it returns false'. Refute it at one input. -/
def localAgainWrong : ChangeSpec := { name := "localAgain", fn := fun _ => fun
  | [d1, d2] => { results := [.lit (.bool false)], args := [d1, d2] }
  | _ => none }
def LocalAgainWrongFalsely : Prop := localAgainRow.holds Tryz.pinned (OpenSpec.ofChange localAgainWrong)

/-- 'headlandlaw6.LocalMoves': WHATEVER THE INPUT: true; the input reads as it did. -/
def localMovesSpec : ChangeSpec := { name := "localMoves", fn := fun _ => fun
  | [d1, d2] => { results := [.lit (.bool true)], args := [d1, d2] }
  | _ => none }
def localMovesRow : OpenClaim := { program := "ytidalepbkljkpaagreat", sum := "560c191334868199ddc7e921e712514d6a0b0d9b73b3d801b5bceca831dfbe70", func := "headland/headlandlaw6.LocalMoves", spec := "localMoves", inPlace := ["internal/bytealg.Compare"], unfollowed := true, recurses := true, apart := false }
def LocalMovesSaid : Prop := localMovesRow.holds Tryz.pinned (OpenSpec.ofChange localMovesSpec)

/-- ITS FALSE NEIGHBOUR: 'it returns false'. Refute it at one input. -/
def localMovesWrong : ChangeSpec := { name := "localMoves", fn := fun _ => fun
  | [d1, d2] => { results := [.lit (.bool false)], args := [d1, d2] }
  | _ => none }
def LocalMovesWrongFalsely : Prop := localMovesRow.holds Tryz.pinned (OpenSpec.ofChange localMovesWrong)

/-- 'headlandlaw6.LocalKeeps': WHATEVER THE INPUT: true; the input reads as it did. -/
def localKeepsSpec : ChangeSpec := { name := "localKeeps", fn := fun _ => fun
  | [d] => { results := [.lit (.bool true)], args := [d] }
  | _ => none }
def localKeepsRow : OpenClaim := { program := "ytidalepbkljkpaagreat", sum := "560c191334868199ddc7e921e712514d6a0b0d9b73b3d801b5bceca831dfbe70", func := "headland/headlandlaw6.LocalKeeps", spec := "localKeeps", inPlace := ["internal/bytealg.Compare"], unfollowed := true, recurses := true, apart := false }
def LocalKeepsSaid : Prop := localKeepsRow.holds Tryz.pinned (OpenSpec.ofChange localKeepsSpec)

/-- ITS FALSE NEIGHBOUR: 'it returns false'. Refute it at one input. -/
def localKeepsWrong : ChangeSpec := { name := "localKeeps", fn := fun _ => fun
  | [d] => { results := [.lit (.bool false)], args := [d] }
  | _ => none }
def LocalKeepsWrongFalsely : Prop := localKeepsRow.holds Tryz.pinned (OpenSpec.ofChange localKeepsWrong)

/-- 'headlandlaw6.LocalPlays': WHATEVER THE INPUT: true; the input reads as it did. -/
def localPlaysSpec : ChangeSpec := { name := "localPlays", fn := fun _ => fun
  | [d] => { results := [.lit (.bool true)], args := [d] }
  | _ => none }
def localPlaysRow : OpenClaim := { program := "ytidalepbkljkpaagreat", sum := "560c191334868199ddc7e921e712514d6a0b0d9b73b3d801b5bceca831dfbe70", func := "headland/headlandlaw6.LocalPlays", spec := "localPlays", inPlace := ["internal/bytealg.Compare"], unfollowed := true, recurses := true, apart := false }
def LocalPlaysSaid : Prop := localPlaysRow.holds Tryz.pinned (OpenSpec.ofChange localPlaysSpec)

/-- ITS FALSE NEIGHBOUR: 'it returns false'. Refute it at one input. -/
def localPlaysWrong : ChangeSpec := { name := "localPlays", fn := fun _ => fun
  | [d] => { results := [.lit (.bool false)], args := [d] }
  | _ => none }
def LocalPlaysWrongFalsely : Prop := localPlaysRow.holds Tryz.pinned (OpenSpec.ofChange localPlaysWrong)

/- THE SECOND FORM. 'bulk': how many values and letters a reading holds, each counted each time it is reached (what is shared counts as often as it is met; a slice's spare places count too). A statement '..UptoSaid' is the law's where the arguments, and the package variables that the reading takes, are together of bulk at most 1048576: NARROWER than '..Said'. Prove '..Said' where nothing that the law and all that it calls make is longer than what came in: it says more and counts as full. Else prove '..UptoSaid'. A law counts once. -/
mutual
def uptoBulk {H : Type} : DataW H → Nat
  | .lit (.string bytes) => bytes.length + 1
  | .lit _ => 1
  | .nil => 1
  | .ptr d => uptoBulk d + 1
  | .slice elems spare => uptoBulkAll elems + uptoBulkAll spare + 1
  | .agg parts => uptoBulkAll parts + 1
  | .iface _ d => uptoBulk d + 1
  | .map entries => uptoBulkEntries entries + 1
  | .held _ => 1
def uptoBulkAll {H : Type} : List (DataW H) → Nat
  | [] => 0
  | d :: r => uptoBulk d + uptoBulkAll r
def uptoBulkEntries {H : Type} : List (Lit × DataW H) → Nat
  | [] => 0
  | x :: r => uptoBulkEntry x + uptoBulkEntries r
def uptoBulkEntry {H : Type} : Lit × DataW H → Nat
  | (.string bytes, d) => bytes.length + uptoBulk d + 1
  | (_, d) => uptoBulk d + 1
 end
def uptoSmall : (H : Type) → List (DataW H) → Bool := fun _ ds => decide (uptoBulkAll ds ≤ 1048576)
def OpenSpec.upto (s : _root_.Go.ChangeSpec) : _root_.Go.OpenSpec := { _root_.Go.OpenSpec.ofChange s with cond := some uptoSmall }

/-- 'headlandlaw13.DraftBack', WHERE WHAT IT READS IS OF BULK AT MOST 1048576: true; the input reads as it did. -/
def draftBackUptoRow : OpenClaim := { program := "ytidalepbkljkpaagreat", sum := "560c191334868199ddc7e921e712514d6a0b0d9b73b3d801b5bceca831dfbe70", func := "headland/headlandlaw13.DraftBack", spec := "draftBack", inPlace := ["internal/bytealg.Compare"], unfollowed := true, recurses := true, apart := false, narrowed := true }
def DraftBackUptoSaid : Prop := draftBackUptoRow.holds Tryz.pinned (OpenSpec.upto draftBackSpec)

/-- 'headlandlaw13.DraftSame', WHERE WHAT IT READS IS OF BULK AT MOST 1048576: true; the input reads as it did. -/
def draftSameUptoRow : OpenClaim := { program := "ytidalepbkljkpaagreat", sum := "560c191334868199ddc7e921e712514d6a0b0d9b73b3d801b5bceca831dfbe70", func := "headland/headlandlaw13.DraftSame", spec := "draftSame", inPlace := ["internal/bytealg.Compare"], unfollowed := true, recurses := true, apart := false, narrowed := true }
def DraftSameUptoSaid : Prop := draftSameUptoRow.holds Tryz.pinned (OpenSpec.upto draftSameSpec)

/-- 'headlandlaw6.LocalFull', WHERE WHAT IT READS IS OF BULK AT MOST 1048576: true; the input reads as it did. -/
def localFullUptoRow : OpenClaim := { program := "ytidalepbkljkpaagreat", sum := "560c191334868199ddc7e921e712514d6a0b0d9b73b3d801b5bceca831dfbe70", func := "headland/headlandlaw6.LocalFull", spec := "localFull", inPlace := ["internal/bytealg.Compare"], unfollowed := true, recurses := true, apart := false, narrowed := true }
def LocalFullUptoSaid : Prop := localFullUptoRow.holds Tryz.pinned (OpenSpec.upto localFullSpec)

/-- 'headlandlaw6.LocalSpaces', WHERE WHAT IT READS IS OF BULK AT MOST 1048576: true; the input reads as it did. -/
def localSpacesUptoRow : OpenClaim := { program := "ytidalepbkljkpaagreat", sum := "560c191334868199ddc7e921e712514d6a0b0d9b73b3d801b5bceca831dfbe70", func := "headland/headlandlaw6.LocalSpaces", spec := "localSpaces", inPlace := ["internal/bytealg.Compare"], unfollowed := true, recurses := true, apart := false, narrowed := true }
def LocalSpacesUptoSaid : Prop := localSpacesUptoRow.holds Tryz.pinned (OpenSpec.upto localSpacesSpec)

/-- 'headlandlaw6.LocalAgain', WHERE WHAT IT READS IS OF BULK AT MOST 1048576: true; the input reads as it did. -/
def localAgainUptoRow : OpenClaim := { program := "ytidalepbkljkpaagreat", sum := "560c191334868199ddc7e921e712514d6a0b0d9b73b3d801b5bceca831dfbe70", func := "headland/headlandlaw6.LocalAgain", spec := "localAgain", inPlace := ["internal/bytealg.Compare"], unfollowed := true, recurses := true, apart := false, narrowed := true }
def LocalAgainUptoSaid : Prop := localAgainUptoRow.holds Tryz.pinned (OpenSpec.upto localAgainSpec)

/-- 'headlandlaw6.LocalMoves', WHERE WHAT IT READS IS OF BULK AT MOST 1048576: true; the input reads as it did. -/
def localMovesUptoRow : OpenClaim := { program := "ytidalepbkljkpaagreat", sum := "560c191334868199ddc7e921e712514d6a0b0d9b73b3d801b5bceca831dfbe70", func := "headland/headlandlaw6.LocalMoves", spec := "localMoves", inPlace := ["internal/bytealg.Compare"], unfollowed := true, recurses := true, apart := false, narrowed := true }
def LocalMovesUptoSaid : Prop := localMovesUptoRow.holds Tryz.pinned (OpenSpec.upto localMovesSpec)

/-- 'headlandlaw6.LocalKeeps', WHERE WHAT IT READS IS OF BULK AT MOST 1048576: true; the input reads as it did. -/
def localKeepsUptoRow : OpenClaim := { program := "ytidalepbkljkpaagreat", sum := "560c191334868199ddc7e921e712514d6a0b0d9b73b3d801b5bceca831dfbe70", func := "headland/headlandlaw6.LocalKeeps", spec := "localKeeps", inPlace := ["internal/bytealg.Compare"], unfollowed := true, recurses := true, apart := false, narrowed := true }
def LocalKeepsUptoSaid : Prop := localKeepsUptoRow.holds Tryz.pinned (OpenSpec.upto localKeepsSpec)

/-- 'headlandlaw6.LocalPlays', WHERE WHAT IT READS IS OF BULK AT MOST 1048576: true; the input reads as it did. -/
def localPlaysUptoRow : OpenClaim := { program := "ytidalepbkljkpaagreat", sum := "560c191334868199ddc7e921e712514d6a0b0d9b73b3d801b5bceca831dfbe70", func := "headland/headlandlaw6.LocalPlays", spec := "localPlays", inPlace := ["internal/bytealg.Compare"], unfollowed := true, recurses := true, apart := false, narrowed := true }
def LocalPlaysUptoSaid : Prop := localPlaysUptoRow.holds Tryz.pinned (OpenSpec.upto localPlaysSpec)

end Rows
end Go.Proofs.YtidalepbkljkpaaGreat
