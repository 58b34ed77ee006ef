/-
  No cell of these rows narrows 'for every input' (looked for: loops, veiled, ifaces, maps, wideKeys, modest, calm, conditions, laid).
  DERIVED. THE GIVEN ROWS OF THIS SEAT. 5 by the template 'for every input the law returns true; each argument reads behind the call as it read before'; 0 by the template 'total and deterministic' (their statements: YtcmicdcikechkaaGreatTotals.lean).
  GIVEN WITH THE SEED: the statements are not yours to turn. If you find one false, say at which input.
  Laid BY PROGRAM, IN A SANDBOX (cutbox-rows.mjs): the forced cells as the released guide's own fill.sh prints them over the translation 953ade8b7449c8d1… (all of the seat's roots in one cut). By AI agents, Wed Nov 11 2026. No macro, syntax, notation, axiom, sorry.
-/
import Derived.Test.YtcmicdcikechkaaGreatChecked
import GoSem.Claim
import GoSem.ClaimJoined
import GoSem.ClaimMapViews
import Derived.JoinedTies
import Derived.KernelRfl
namespace Go.Proofs.YtcmicdcikechkaaGreat
/- THE CELL 'sum', in the pinned program and in every row, IS THE sha256 OF THE DUMP (.gsa) THAT YtcmicdcikechkaaGreatProg.lean LOADS. Nothing in Lean hashes anything: it is a label: what it is worth is what the hold of that sum in a sandbox is worth. -/
noncomputable def Tryz.pinned : Pinned := { name := "ytcmicdcikechkaagreat", sum := "953ade8b7449c8d16dde1e13636b904e40d2f0f105e1bd8adfcd7f5dd7a53217", checked := Tryz.checked }
namespace Rows
def none {H : Type} : Left H := { results := [], args := [] }

/-- 'headlandlaw5.TreeEmpty': WHATEVER THE INPUT: true; the input reads as it did. -/
def treeEmptySpec : ChangeSpec := { name := "treeEmpty", fn := fun _ => fun
  | [d] => { results := [.lit (.bool true)], args := [d] }
  | _ => none }
def treeEmptyRow : OpenClaim := { program := "ytcmicdcikechkaagreat", sum := "953ade8b7449c8d16dde1e13636b904e40d2f0f105e1bd8adfcd7f5dd7a53217", func := "headland/headlandlaw5.TreeEmpty", spec := "treeEmpty", inPlace := ["internal/bytealg.Compare", "maps.clone"], unfollowed := true, recurses := true, apart := false }
def TreeEmptySaid : Prop := treeEmptyRow.holds Tryz.pinned (OpenSpec.ofChange treeEmptySpec)

/-- ITS FALSE NEIGHBOUR: 'it returns false'. Refute it at one input. -/
def treeEmptyWrong : ChangeSpec := { name := "treeEmpty", fn := fun _ => fun
  | [d] => { results := [.lit (.bool false)], args := [d] }
  | _ => none }
def TreeEmptyWrongFalsely : Prop := treeEmptyRow.holds Tryz.pinned (OpenSpec.ofChange treeEmptyWrong)

/-- 'headlandlaw5.TreeAgain': WHATEVER THE INPUT: true; the input reads as it did. -/
def treeAgainSpec : ChangeSpec := { name := "treeAgain", fn := fun _ => fun
  | [d] => { results := [.lit (.bool true)], args := [d] }
  | _ => none }
def treeAgainRow : OpenClaim := { program := "ytcmicdcikechkaagreat", sum := "953ade8b7449c8d16dde1e13636b904e40d2f0f105e1bd8adfcd7f5dd7a53217", func := "headland/headlandlaw5.TreeAgain", spec := "treeAgain", inPlace := ["internal/bytealg.Compare", "maps.clone"], unfollowed := true, recurses := true, apart := false }
def TreeAgainSaid : Prop := treeAgainRow.holds Tryz.pinned (OpenSpec.ofChange treeAgainSpec)

/-- ITS FALSE NEIGHBOUR: 'it returns false'. Refute it at one input. -/
def treeAgainWrong : ChangeSpec := { name := "treeAgain", fn := fun _ => fun
  | [d] => { results := [.lit (.bool false)], args := [d] }
  | _ => none }
def TreeAgainWrongFalsely : Prop := treeAgainRow.holds Tryz.pinned (OpenSpec.ofChange treeAgainWrong)

/-- 'headlandlaw5.TreeKeeps': WHATEVER THE INPUT: true; the input reads as it did. -/
def treeKeepsSpec : ChangeSpec := { name := "treeKeeps", fn := fun _ => fun
  | [d] => { results := [.lit (.bool true)], args := [d] }
  | _ => none }
def treeKeepsRow : OpenClaim := { program := "ytcmicdcikechkaagreat", sum := "953ade8b7449c8d16dde1e13636b904e40d2f0f105e1bd8adfcd7f5dd7a53217", func := "headland/headlandlaw5.TreeKeeps", spec := "treeKeeps", inPlace := ["internal/bytealg.Compare", "maps.clone"], unfollowed := true, recurses := true, apart := false }
def TreeKeepsSaid : Prop := treeKeepsRow.holds Tryz.pinned (OpenSpec.ofChange treeKeepsSpec)

/-- ITS FALSE NEIGHBOUR: 'it returns false'. Refute it at one input. -/
def treeKeepsWrong : ChangeSpec := { name := "treeKeeps", fn := fun _ => fun
  | [d] => { results := [.lit (.bool false)], args := [d] }
  | _ => none }
def TreeKeepsWrongFalsely : Prop := treeKeepsRow.holds Tryz.pinned (OpenSpec.ofChange treeKeepsWrong)

/-- 'headlandlaw5.TreeSnaps': WHATEVER THE INPUT: true; the input reads as it did. -/
def treeSnapsSpec : ChangeSpec := { name := "treeSnaps", fn := fun _ => fun
  | [d1, d2] => { results := [.lit (.bool true)], args := [d1, d2] }
  | _ => none }
def treeSnapsRow : OpenClaim := { program := "ytcmicdcikechkaagreat", sum := "953ade8b7449c8d16dde1e13636b904e40d2f0f105e1bd8adfcd7f5dd7a53217", func := "headland/headlandlaw5.TreeSnaps", spec := "treeSnaps", inPlace := ["internal/bytealg.Compare", "maps.clone"], unfollowed := true, recurses := true, apart := false }
def TreeSnapsSaid : Prop := treeSnapsRow.holds Tryz.pinned (OpenSpec.ofChange treeSnapsSpec)

/-- ITS FALSE NEIGHBOUR: 'it returns false'. Refute it at one input. -/
def treeSnapsWrong : ChangeSpec := { name := "treeSnaps", fn := fun _ => fun
  | [d1, d2] => { results := [.lit (.bool false)], args := [d1, d2] }
  | _ => none }
def TreeSnapsWrongFalsely : Prop := treeSnapsRow.holds Tryz.pinned (OpenSpec.ofChange treeSnapsWrong)

/-- 'headlandlaw5.TreePlays': WHATEVER THE INPUT: true; the input reads as it did. -/
def treePlaysSpec : ChangeSpec := { name := "treePlays", fn := fun _ => fun
  | [d] => { results := [.lit (.bool true)], args := [d] }
  | _ => none }
def treePlaysRow : OpenClaim := { program := "ytcmicdcikechkaagreat", sum := "953ade8b7449c8d16dde1e13636b904e40d2f0f105e1bd8adfcd7f5dd7a53217", func := "headland/headlandlaw5.TreePlays", spec := "treePlays", inPlace := ["internal/bytealg.Compare", "maps.clone"], unfollowed := true, recurses := true, apart := false }
def TreePlaysSaid : Prop := treePlaysRow.holds Tryz.pinned (OpenSpec.ofChange treePlaysSpec)

/-- ITS FALSE NEIGHBOUR: 'it returns false'. Refute it at one input. -/
def treePlaysWrong : ChangeSpec := { name := "treePlays", fn := fun _ => fun
  | [d] => { results := [.lit (.bool false)], args := [d] }
  | _ => none }
def TreePlaysWrongFalsely : Prop := treePlaysRow.holds Tryz.pinned (OpenSpec.ofChange treePlaysWrong)

/- THE SECOND FORM. 'bulk': how many values and letters a reading holds, each counted each time it is reached (what is shared counts as often as it is met; a slice's spare places count too). A statement '..UptoSaid' is the law's where the arguments, and the package variables that the reading takes, are together of bulk at most 1048576: NARROWER than '..Said'. Prove '..Said' where nothing that the law and all that it calls make is longer than what came in: it says more and counts as full. Else prove '..UptoSaid'. A law counts once. -/
mutual
def uptoBulk {H : Type} : DataW H → Nat
  | .lit (.string bytes) => bytes.length + 1
  | .lit _ => 1
  | .nil => 1
  | .ptr d => uptoBulk d + 1
  | .slice elems spare => uptoBulkAll elems + uptoBulkAll spare + 1
  | .agg parts => uptoBulkAll parts + 1
  | .iface _ d => uptoBulk d + 1
  | .map entries => uptoBulkEntries entries + 1
  | .held _ => 1
def uptoBulkAll {H : Type} : List (DataW H) → Nat
  | [] => 0
  | d :: r => uptoBulk d + uptoBulkAll r
def uptoBulkEntries {H : Type} : List (Lit × DataW H) → Nat
  | [] => 0
  | x :: r => uptoBulkEntry x + uptoBulkEntries r
def uptoBulkEntry {H : Type} : Lit × DataW H → Nat
  | (.string bytes, d) => bytes.length + uptoBulk d + 1
  | (_, d) => uptoBulk d + 1
 end
def uptoSmall : (H : Type) → List (DataW H) → Bool := fun _ ds => decide (uptoBulkAll ds ≤ 1048576)
def OpenSpec.upto (s : _root_.Go.ChangeSpec) : _root_.Go.OpenSpec := { _root_.Go.OpenSpec.ofChange s with cond := some uptoSmall }

/-- 'headlandlaw5.TreeEmpty', WHERE WHAT IT READS IS OF BULK AT MOST 1048576: true; the input reads as it did. -/
def treeEmptyUptoRow : OpenClaim := { program := "ytcmicdcikechkaagreat", sum := "953ade8b7449c8d16dde1e13636b904e40d2f0f105e1bd8adfcd7f5dd7a53217", func := "headland/headlandlaw5.TreeEmpty", spec := "treeEmpty", inPlace := ["internal/bytealg.Compare", "maps.clone"], unfollowed := true, recurses := true, apart := false, narrowed := true }
def TreeEmptyUptoSaid : Prop := treeEmptyUptoRow.holds Tryz.pinned (OpenSpec.upto treeEmptySpec)

/-- 'headlandlaw5.TreeAgain', WHERE WHAT IT READS IS OF BULK AT MOST 1048576: true; the input reads as it did. -/
def treeAgainUptoRow : OpenClaim := { program := "ytcmicdcikechkaagreat", sum := "953ade8b7449c8d16dde1e13636b904e40d2f0f105e1bd8adfcd7f5dd7a53217", func := "headland/headlandlaw5.TreeAgain", spec := "treeAgain", inPlace := ["internal/bytealg.Compare", "maps.clone"], unfollowed := true, recurses := true, apart := false, narrowed := true }
def TreeAgainUptoSaid : Prop := treeAgainUptoRow.holds Tryz.pinned (OpenSpec.upto treeAgainSpec)

/-- 'headlandlaw5.TreeKeeps', WHERE WHAT IT READS IS OF BULK AT MOST 1048576: true; the input reads as it did. -/
def treeKeepsUptoRow : OpenClaim := { program := "ytcmicdcikechkaagreat", sum := "953ade8b7449c8d16dde1e13636b904e40d2f0f105e1bd8adfcd7f5dd7a53217", func := "headland/headlandlaw5.TreeKeeps", spec := "treeKeeps", inPlace := ["internal/bytealg.Compare", "maps.clone"], unfollowed := true, recurses := true, apart := false, narrowed := true }
def TreeKeepsUptoSaid : Prop := treeKeepsUptoRow.holds Tryz.pinned (OpenSpec.upto treeKeepsSpec)

/-- 'headlandlaw5.TreeSnaps', WHERE WHAT IT READS IS OF BULK AT MOST 1048576: true; the input reads as it did. -/
def treeSnapsUptoRow : OpenClaim := { program := "ytcmicdcikechkaagreat", sum := "953ade8b7449c8d16dde1e13636b904e40d2f0f105e1bd8adfcd7f5dd7a53217", func := "headland/headlandlaw5.TreeSnaps", spec := "treeSnaps", inPlace := ["internal/bytealg.Compare", "maps.clone"], unfollowed := true, recurses := true, apart := false, narrowed := true }
def TreeSnapsUptoSaid : Prop := treeSnapsUptoRow.holds Tryz.pinned (OpenSpec.upto treeSnapsSpec)

/-- 'headlandlaw5.TreePlays', WHERE WHAT IT READS IS OF BULK AT MOST 1048576: true; the input reads as it did. -/
def treePlaysUptoRow : OpenClaim := { program := "ytcmicdcikechkaagreat", sum := "953ade8b7449c8d16dde1e13636b904e40d2f0f105e1bd8adfcd7f5dd7a53217", func := "headland/headlandlaw5.TreePlays", spec := "treePlays", inPlace := ["internal/bytealg.Compare", "maps.clone"], unfollowed := true, recurses := true, apart := false, narrowed := true }
def TreePlaysUptoSaid : Prop := treePlaysUptoRow.holds Tryz.pinned (OpenSpec.upto treePlaysSpec)

end Rows
end Go.Proofs.YtcmicdcikechkaaGreat
