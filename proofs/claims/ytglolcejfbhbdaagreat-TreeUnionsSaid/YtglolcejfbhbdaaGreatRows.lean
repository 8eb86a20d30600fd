/-
  No cell of these rows narrows 'for every input' (looked for: loops, veiled, ifaces, maps, wideKeys, modest, calm, conditions, laid).
  DERIVED. THE GIVEN ROWS OF THIS SEAT. 5 by the template 'for every input the law returns true; each argument reads behind the call as it read before'; 0 by the template 'total and deterministic' (their statements: YtglolcejfbhbdaaGreatTotals.lean).
  GIVEN WITH THE SEED: the statements are not yours to turn. If you find one false, say at which input.
  Laid BY PROGRAM, IN A SANDBOX (cutbox-rows.mjs): the forced cells as the released guide's own fill.sh prints them over the translation 0e8f25c19b9e8ad5… (all of the seat's roots in one cut). By AI agents, Wed Nov 11 2026. No macro, syntax, notation, axiom, sorry.
-/
import Derived.Test.YtglolcejfbhbdaaGreatChecked
import GoSem.Claim
import GoSem.ClaimJoined
import GoSem.ClaimMapViews
import Derived.JoinedTies
import Derived.KernelRfl
namespace Go.Proofs.YtglolcejfbhbdaaGreat
/- THE CELL 'sum', in the pinned program and in every row, IS THE sha256 OF THE DUMP (.gsa) THAT YtglolcejfbhbdaaGreatProg.lean LOADS. Nothing in Lean hashes anything: it is a label: what it is worth is what the hold of that sum in a sandbox is worth. -/
noncomputable def Tryz.pinned : Pinned := { name := "ytglolcejfbhbdaagreat", sum := "0e8f25c19b9e8ad554e9417efc9dd614116f2fab409c6f8bbe4f4603675d1fde", checked := Tryz.checked }
namespace Rows
def none {H : Type} : Left H := { results := [], args := [] }

/-- 'ductuslaw16.TreeSets': WHATEVER THE INPUT: true; the input reads as it did. -/
def treeSetsSpec : ChangeSpec := { name := "treeSets", fn := fun _ => fun
  | [d1, d2, d3] => { results := [.lit (.bool true)], args := [d1, d2, d3] }
  | _ => none }
def treeSetsRow : OpenClaim := { program := "ytglolcejfbhbdaagreat", sum := "0e8f25c19b9e8ad554e9417efc9dd614116f2fab409c6f8bbe4f4603675d1fde", func := "ductus/ductuslaw16.TreeSets", spec := "treeSets", inPlace := ["internal/bytealg.IndexByteString"], unfollowed := true, recurses := true, apart := false }
def TreeSetsSaid : Prop := treeSetsRow.holds Tryz.pinned (OpenSpec.ofChange treeSetsSpec)

/-- ITS FALSE NEIGHBOUR: 'it returns false'. Refute it at one input. -/
def treeSetsWrong : ChangeSpec := { name := "treeSets", fn := fun _ => fun
  | [d1, d2, d3] => { results := [.lit (.bool false)], args := [d1, d2, d3] }
  | _ => none }
def TreeSetsWrongFalsely : Prop := treeSetsRow.holds Tryz.pinned (OpenSpec.ofChange treeSetsWrong)

/-- 'ductuslaw16.TreeTurns': WHATEVER THE INPUT: true; the input reads as it did. -/
def treeTurnsSpec : ChangeSpec := { name := "treeTurns", fn := fun _ => fun
  | [d1, d2] => { results := [.lit (.bool true)], args := [d1, d2] }
  | _ => none }
def treeTurnsRow : OpenClaim := { program := "ytglolcejfbhbdaagreat", sum := "0e8f25c19b9e8ad554e9417efc9dd614116f2fab409c6f8bbe4f4603675d1fde", func := "ductus/ductuslaw16.TreeTurns", spec := "treeTurns", inPlace := ["internal/bytealg.IndexByteString"], unfollowed := true, recurses := true, apart := false }
def TreeTurnsSaid : Prop := treeTurnsRow.holds Tryz.pinned (OpenSpec.ofChange treeTurnsSpec)

/-- ITS FALSE NEIGHBOUR: 'it returns false'. Refute it at one input. -/
def treeTurnsWrong : ChangeSpec := { name := "treeTurns", fn := fun _ => fun
  | [d1, d2] => { results := [.lit (.bool false)], args := [d1, d2] }
  | _ => none }
def TreeTurnsWrongFalsely : Prop := treeTurnsRow.holds Tryz.pinned (OpenSpec.ofChange treeTurnsWrong)

/-- 'ductuslaw16.TreeCloses': WHATEVER THE INPUT: true; the input reads as it did. -/
def treeClosesSpec : ChangeSpec := { name := "treeCloses", fn := fun _ => fun
  | [d1, d2] => { results := [.lit (.bool true)], args := [d1, d2] }
  | _ => none }
def treeClosesRow : OpenClaim := { program := "ytglolcejfbhbdaagreat", sum := "0e8f25c19b9e8ad554e9417efc9dd614116f2fab409c6f8bbe4f4603675d1fde", func := "ductus/ductuslaw16.TreeCloses", spec := "treeCloses", inPlace := ["internal/bytealg.IndexByteString"], unfollowed := true, recurses := true, apart := false }
def TreeClosesSaid : Prop := treeClosesRow.holds Tryz.pinned (OpenSpec.ofChange treeClosesSpec)

/-- ITS FALSE NEIGHBOUR: 'it returns false'. Refute it at one input. -/
def treeClosesWrong : ChangeSpec := { name := "treeCloses", fn := fun _ => fun
  | [d1, d2] => { results := [.lit (.bool false)], args := [d1, d2] }
  | _ => none }
def TreeClosesWrongFalsely : Prop := treeClosesRow.holds Tryz.pinned (OpenSpec.ofChange treeClosesWrong)

/-- 'ductuslaw16.TreeQuotes': WHATEVER THE INPUT: true; the input reads as it did. -/
def treeQuotesSpec : ChangeSpec := { name := "treeQuotes", fn := fun _ => fun
  | [d] => { results := [.lit (.bool true)], args := [d] }
  | _ => none }
def treeQuotesRow : OpenClaim := { program := "ytglolcejfbhbdaagreat", sum := "0e8f25c19b9e8ad554e9417efc9dd614116f2fab409c6f8bbe4f4603675d1fde", func := "ductus/ductuslaw16.TreeQuotes", spec := "treeQuotes", inPlace := ["internal/bytealg.IndexByteString"], unfollowed := true, recurses := true, apart := false }
def TreeQuotesSaid : Prop := treeQuotesRow.holds Tryz.pinned (OpenSpec.ofChange treeQuotesSpec)

/-- ITS FALSE NEIGHBOUR: 'it returns false'. Refute it at one input. -/
def treeQuotesWrong : ChangeSpec := { name := "treeQuotes", fn := fun _ => fun
  | [d] => { results := [.lit (.bool false)], args := [d] }
  | _ => none }
def TreeQuotesWrongFalsely : Prop := treeQuotesRow.holds Tryz.pinned (OpenSpec.ofChange treeQuotesWrong)

/-- 'ductuslaw16.TreeUnions': WHATEVER THE INPUT: true; the input reads as it did. -/
def treeUnionsSpec : ChangeSpec := { name := "treeUnions", fn := fun _ => fun
  | [d1, d2, d3] => { results := [.lit (.bool true)], args := [d1, d2, d3] }
  | _ => none }
def treeUnionsRow : OpenClaim := { program := "ytglolcejfbhbdaagreat", sum := "0e8f25c19b9e8ad554e9417efc9dd614116f2fab409c6f8bbe4f4603675d1fde", func := "ductus/ductuslaw16.TreeUnions", spec := "treeUnions", inPlace := ["internal/bytealg.IndexByteString"], unfollowed := true, recurses := true, apart := false }
def TreeUnionsSaid : Prop := treeUnionsRow.holds Tryz.pinned (OpenSpec.ofChange treeUnionsSpec)

/-- ITS FALSE NEIGHBOUR: 'it returns false'. Refute it at one input. -/
def treeUnionsWrong : ChangeSpec := { name := "treeUnions", fn := fun _ => fun
  | [d1, d2, d3] => { results := [.lit (.bool false)], args := [d1, d2, d3] }
  | _ => none }
def TreeUnionsWrongFalsely : Prop := treeUnionsRow.holds Tryz.pinned (OpenSpec.ofChange treeUnionsWrong)

/- THE SECOND FORM. 'bulk': how many values and letters a reading holds, each counted each time it is reached (what is shared counts as often as it is met; a slice's spare places count too). A statement '..UptoSaid' is the law's where the arguments, and the package variables that the reading takes, are together of bulk at most 1048576: NARROWER than '..Said'. Prove '..Said' where nothing that the law and all that it calls make is longer than what came in: it says more and counts as full. Else prove '..UptoSaid'. A law counts once. -/
mutual
def uptoBulk {H : Type} : DataW H → Nat
  | .lit (.string bytes) => bytes.length + 1
  | .lit _ => 1
  | .nil => 1
  | .ptr d => uptoBulk d + 1
  | .slice elems spare => uptoBulkAll elems + uptoBulkAll spare + 1
  | .agg parts => uptoBulkAll parts + 1
  | .iface _ d => uptoBulk d + 1
  | .map entries => uptoBulkEntries entries + 1
  | .held _ => 1
def uptoBulkAll {H : Type} : List (DataW H) → Nat
  | [] => 0
  | d :: r => uptoBulk d + uptoBulkAll r
def uptoBulkEntries {H : Type} : List (Lit × DataW H) → Nat
  | [] => 0
  | x :: r => uptoBulkEntry x + uptoBulkEntries r
def uptoBulkEntry {H : Type} : Lit × DataW H → Nat
  | (.string bytes, d) => bytes.length + uptoBulk d + 1
  | (_, d) => uptoBulk d + 1
 end
def uptoSmall : (H : Type) → List (DataW H) → Bool := fun _ ds => decide (uptoBulkAll ds ≤ 1048576)
def OpenSpec.upto (s : _root_.Go.ChangeSpec) : _root_.Go.OpenSpec := { _root_.Go.OpenSpec.ofChange s with cond := some uptoSmall }

/-- 'ductuslaw16.TreeSets', WHERE WHAT IT READS IS OF BULK AT MOST 1048576: true; the input reads as it did. -/
def treeSetsUptoRow : OpenClaim := { program := "ytglolcejfbhbdaagreat", sum := "0e8f25c19b9e8ad554e9417efc9dd614116f2fab409c6f8bbe4f4603675d1fde", func := "ductus/ductuslaw16.TreeSets", spec := "treeSets", inPlace := ["internal/bytealg.IndexByteString"], unfollowed := true, recurses := true, apart := false, narrowed := true }
def TreeSetsUptoSaid : Prop := treeSetsUptoRow.holds Tryz.pinned (OpenSpec.upto treeSetsSpec)

/-- 'ductuslaw16.TreeTurns', WHERE WHAT IT READS IS OF BULK AT MOST 1048576: true; the input reads as it did. -/
def treeTurnsUptoRow : OpenClaim := { program := "ytglolcejfbhbdaagreat", sum := "0e8f25c19b9e8ad554e9417efc9dd614116f2fab409c6f8bbe4f4603675d1fde", func := "ductus/ductuslaw16.TreeTurns", spec := "treeTurns", inPlace := ["internal/bytealg.IndexByteString"], unfollowed := true, recurses := true, apart := false, narrowed := true }
def TreeTurnsUptoSaid : Prop := treeTurnsUptoRow.holds Tryz.pinned (OpenSpec.upto treeTurnsSpec)

/-- 'ductuslaw16.TreeCloses', WHERE WHAT IT READS IS OF BULK AT MOST 1048576: true; the input reads as it did. -/
def treeClosesUptoRow : OpenClaim := { program := "ytglolcejfbhbdaagreat", sum := "0e8f25c19b9e8ad554e9417efc9dd614116f2fab409c6f8bbe4f4603675d1fde", func := "ductus/ductuslaw16.TreeCloses", spec := "treeCloses", inPlace := ["internal/bytealg.IndexByteString"], unfollowed := true, recurses := true, apart := false, narrowed := true }
def TreeClosesUptoSaid : Prop := treeClosesUptoRow.holds Tryz.pinned (OpenSpec.upto treeClosesSpec)

/-- 'ductuslaw16.TreeQuotes', WHERE WHAT IT READS IS OF BULK AT MOST 1048576: true; the input reads as it did. -/
def treeQuotesUptoRow : OpenClaim := { program := "ytglolcejfbhbdaagreat", sum := "0e8f25c19b9e8ad554e9417efc9dd614116f2fab409c6f8bbe4f4603675d1fde", func := "ductus/ductuslaw16.TreeQuotes", spec := "treeQuotes", inPlace := ["internal/bytealg.IndexByteString"], unfollowed := true, recurses := true, apart := false, narrowed := true }
def TreeQuotesUptoSaid : Prop := treeQuotesUptoRow.holds Tryz.pinned (OpenSpec.upto treeQuotesSpec)

/-- 'ductuslaw16.TreeUnions', WHERE WHAT IT READS IS OF BULK AT MOST 1048576: true; the input reads as it did. -/
def treeUnionsUptoRow : OpenClaim := { program := "ytglolcejfbhbdaagreat", sum := "0e8f25c19b9e8ad554e9417efc9dd614116f2fab409c6f8bbe4f4603675d1fde", func := "ductus/ductuslaw16.TreeUnions", spec := "treeUnions", inPlace := ["internal/bytealg.IndexByteString"], unfollowed := true, recurses := true, apart := false, narrowed := true }
def TreeUnionsUptoSaid : Prop := treeUnionsUptoRow.holds Tryz.pinned (OpenSpec.upto treeUnionsSpec)

end Rows
end Go.Proofs.YtglolcejfbhbdaaGreat
