/-
  No cell of these rows narrows 'for every input' (looked for: loops, veiled, ifaces, maps, wideKeys, modest, calm, conditions, laid).
  DERIVED. THE GIVEN ROWS OF THIS SEAT. 8 by the template 'for every input the law returns true; each argument reads behind the call as it read before'; 0 by the template 'total and deterministic' (their statements: YtpogneedafoiaaaTotals.lean).
  GIVEN WITH THE SEED: the statements are not yours to turn. If you find one false, say at which input.
  Laid BY PROGRAM, IN A SANDBOX (cutbox-rows.mjs): the forced cells as the released guide's own fill.sh prints them over the translation 1f1f8c68ac2e50a5… (all of the seat's roots in one cut). By AI agents, Wed Nov 11 2026. No macro, syntax, notation, axiom, sorry.
-/
import Derived.Test.YtpogneedafoiaaaChecked
import GoSem.Claim
import GoSem.ClaimJoined
import GoSem.ClaimMapViews
import Derived.JoinedTies
import Derived.KernelRfl
namespace Go.Proofs.Ytpogneedafoiaaa
/- THE CELL 'sum', in the pinned program and in every row, IS THE sha256 OF THE DUMP (.gsa) THAT YtpogneedafoiaaaProg.lean LOADS. Nothing in Lean hashes anything: it is a label: what it is worth is what the hold of that sum in a sandbox is worth. -/
noncomputable def Try.pinned : Pinned := { name := "ytpogneedafoiaaa", sum := "1f1f8c68ac2e50a5de3990b52b55b6eea138451e587c0c0a1d4464c33c16d16a", checked := Try.checked }
namespace Rows
def none {H : Type} : Left H := { results := [], args := [] }

/-- 'munimentlaw5.PageLayouts': WHATEVER THE INPUT: true; the input reads as it did. -/
def pageLayoutsSpec : ChangeSpec := { name := "pageLayouts", fn := fun _ => fun
  | [d1, d2] => { results := [.lit (.bool true)], args := [d1, d2] }
  | _ => none }
def pageLayoutsRow : OpenClaim := { program := "ytpogneedafoiaaa", sum := "1f1f8c68ac2e50a5de3990b52b55b6eea138451e587c0c0a1d4464c33c16d16a", func := "muniment/munimentlaw5.PageLayouts", spec := "pageLayouts", apart := false }
def PageLayoutsSaid : Prop := pageLayoutsRow.holds Try.pinned (OpenSpec.ofChange pageLayoutsSpec)

/-- ITS FALSE NEIGHBOUR: 'it returns false'. Refute it at one input. -/
def pageLayoutsWrong : ChangeSpec := { name := "pageLayouts", fn := fun _ => fun
  | [d1, d2] => { results := [.lit (.bool false)], args := [d1, d2] }
  | _ => none }
def PageLayoutsWrongFalsely : Prop := pageLayoutsRow.holds Try.pinned (OpenSpec.ofChange pageLayoutsWrong)

/-- 'munimentlaw5.PageChanges': WHATEVER THE INPUT: true; the input reads as it did. -/
def pageChangesSpec : ChangeSpec := { name := "pageChanges", fn := fun _ => fun
  | [d1, d2, d3] => { results := [.lit (.bool true)], args := [d1, d2, d3] }
  | _ => none }
def pageChangesRow : OpenClaim := { program := "ytpogneedafoiaaa", sum := "1f1f8c68ac2e50a5de3990b52b55b6eea138451e587c0c0a1d4464c33c16d16a", func := "muniment/munimentlaw5.PageChanges", spec := "pageChanges", apart := false }
def PageChangesSaid : Prop := pageChangesRow.holds Try.pinned (OpenSpec.ofChange pageChangesSpec)

/-- ITS FALSE NEIGHBOUR: 'it returns false'. Refute it at one input. -/
def pageChangesWrong : ChangeSpec := { name := "pageChanges", fn := fun _ => fun
  | [d1, d2, d3] => { results := [.lit (.bool false)], args := [d1, d2, d3] }
  | _ => none }
def PageChangesWrongFalsely : Prop := pageChangesRow.holds Try.pinned (OpenSpec.ofChange pageChangesWrong)

/-- 'munimentlaw5.PageSeals': WHATEVER THE INPUT: true; the input reads as it did. -/
def pageSealsSpec : ChangeSpec := { name := "pageSeals", fn := fun _ => fun
  | [d1, d2, d3] => { results := [.lit (.bool true)], args := [d1, d2, d3] }
  | _ => none }
def pageSealsRow : OpenClaim := { program := "ytpogneedafoiaaa", sum := "1f1f8c68ac2e50a5de3990b52b55b6eea138451e587c0c0a1d4464c33c16d16a", func := "muniment/munimentlaw5.PageSeals", spec := "pageSeals", apart := false }
def PageSealsSaid : Prop := pageSealsRow.holds Try.pinned (OpenSpec.ofChange pageSealsSpec)

/-- ITS FALSE NEIGHBOUR: 'it returns false'. Refute it at one input. -/
def pageSealsWrong : ChangeSpec := { name := "pageSeals", fn := fun _ => fun
  | [d1, d2, d3] => { results := [.lit (.bool false)], args := [d1, d2, d3] }
  | _ => none }
def PageSealsWrongFalsely : Prop := pageSealsRow.holds Try.pinned (OpenSpec.ofChange pageSealsWrong)

/-- 'munimentlaw5.PageKnown': WHATEVER THE INPUT: true; the input reads as it did. -/
def pageKnownSpec : ChangeSpec := { name := "pageKnown", fn := fun _ => fun
  | [] => { results := [.lit (.bool true)], args := [] }
  | _ => none }
def pageKnownRow : OpenClaim := { program := "ytpogneedafoiaaa", sum := "1f1f8c68ac2e50a5de3990b52b55b6eea138451e587c0c0a1d4464c33c16d16a", func := "muniment/munimentlaw5.PageKnown", spec := "pageKnown", apart := false }
def PageKnownSaid : Prop := pageKnownRow.holds Try.pinned (OpenSpec.ofChange pageKnownSpec)

/-- ITS FALSE NEIGHBOUR: 'it returns false'. Refute it at one input. -/
def pageKnownWrong : ChangeSpec := { name := "pageKnown", fn := fun _ => fun
  | [] => { results := [.lit (.bool false)], args := [] }
  | _ => none }
def PageKnownWrongFalsely : Prop := pageKnownRow.holds Try.pinned (OpenSpec.ofChange pageKnownWrong)

/-- 'munimentlaw5.PageLists': WHATEVER THE INPUT: true; the input reads as it did. -/
def pageListsSpec : ChangeSpec := { name := "pageLists", fn := fun _ => fun
  | [d] => { results := [.lit (.bool true)], args := [d] }
  | _ => none }
def pageListsRow : OpenClaim := { program := "ytpogneedafoiaaa", sum := "1f1f8c68ac2e50a5de3990b52b55b6eea138451e587c0c0a1d4464c33c16d16a", func := "muniment/munimentlaw5.PageLists", spec := "pageLists", apart := false }
def PageListsSaid : Prop := pageListsRow.holds Try.pinned (OpenSpec.ofChange pageListsSpec)

/-- ITS FALSE NEIGHBOUR: 'it returns false'. Refute it at one input. -/
def pageListsWrong : ChangeSpec := { name := "pageLists", fn := fun _ => fun
  | [d] => { results := [.lit (.bool false)], args := [d] }
  | _ => none }
def PageListsWrongFalsely : Prop := pageListsRow.holds Try.pinned (OpenSpec.ofChange pageListsWrong)

/-- 'munimentlaw5.PageHeads': WHATEVER THE INPUT: true; the input reads as it did. -/
def pageHeadsSpec : ChangeSpec := { name := "pageHeads", fn := fun _ => fun
  | [d1, d2, d3, d4] => { results := [.lit (.bool true)], args := [d1, d2, d3, d4] }
  | _ => none }
def pageHeadsRow : OpenClaim := { program := "ytpogneedafoiaaa", sum := "1f1f8c68ac2e50a5de3990b52b55b6eea138451e587c0c0a1d4464c33c16d16a", func := "muniment/munimentlaw5.PageHeads", spec := "pageHeads", apart := false }
def PageHeadsSaid : Prop := pageHeadsRow.holds Try.pinned (OpenSpec.ofChange pageHeadsSpec)

/-- ITS FALSE NEIGHBOUR: 'it returns false'. Refute it at one input. -/
def pageHeadsWrong : ChangeSpec := { name := "pageHeads", fn := fun _ => fun
  | [d1, d2, d3, d4] => { results := [.lit (.bool false)], args := [d1, d2, d3, d4] }
  | _ => none }
def PageHeadsWrongFalsely : Prop := pageHeadsRow.holds Try.pinned (OpenSpec.ofChange pageHeadsWrong)

/-- 'munimentlaw5.PageParts': WHATEVER THE INPUT: true; the input reads as it did. -/
def pagePartsSpec : ChangeSpec := { name := "pageParts", fn := fun _ => fun
  | [d1, d2, d3, d4, d5, d6] => { results := [.lit (.bool true)], args := [d1, d2, d3, d4, d5, d6] }
  | _ => none }
def pagePartsRow : OpenClaim := { program := "ytpogneedafoiaaa", sum := "1f1f8c68ac2e50a5de3990b52b55b6eea138451e587c0c0a1d4464c33c16d16a", func := "muniment/munimentlaw5.PageParts", spec := "pageParts", apart := false }
def PagePartsSaid : Prop := pagePartsRow.holds Try.pinned (OpenSpec.ofChange pagePartsSpec)

/-- ITS FALSE NEIGHBOUR: 'it returns false'. Refute it at one input. -/
def pagePartsWrong : ChangeSpec := { name := "pageParts", fn := fun _ => fun
  | [d1, d2, d3, d4, d5, d6] => { results := [.lit (.bool false)], args := [d1, d2, d3, d4, d5, d6] }
  | _ => none }
def PagePartsWrongFalsely : Prop := pagePartsRow.holds Try.pinned (OpenSpec.ofChange pagePartsWrong)

/-- 'munimentlaw5.PageKept': WHATEVER THE INPUT: true; the input reads as it did. -/
def pageKeptSpec : ChangeSpec := { name := "pageKept", fn := fun _ => fun
  | [d1, d2, d3] => { results := [.lit (.bool true)], args := [d1, d2, d3] }
  | _ => none }
def pageKeptRow : OpenClaim := { program := "ytpogneedafoiaaa", sum := "1f1f8c68ac2e50a5de3990b52b55b6eea138451e587c0c0a1d4464c33c16d16a", func := "muniment/munimentlaw5.PageKept", spec := "pageKept", apart := false }
def PageKeptSaid : Prop := pageKeptRow.holds Try.pinned (OpenSpec.ofChange pageKeptSpec)

/-- ITS FALSE NEIGHBOUR: 'it returns false'. Refute it at one input. -/
def pageKeptWrong : ChangeSpec := { name := "pageKept", fn := fun _ => fun
  | [d1, d2, d3] => { results := [.lit (.bool false)], args := [d1, d2, d3] }
  | _ => none }
def PageKeptWrongFalsely : Prop := pageKeptRow.holds Try.pinned (OpenSpec.ofChange pageKeptWrong)

/- THE SECOND FORM. 'bulk': how many values and letters a reading holds, each counted each time it is reached (what is shared counts as often as it is met; a slice's spare places count too). A statement '..UptoSaid' is the law's where the arguments, and the package variables that the reading takes, are together of bulk at most 1048576: NARROWER than '..Said'. Prove '..Said' where nothing that the law and all that it calls make is longer than what came in: it says more and counts as full. Else prove '..UptoSaid'. A law counts once. -/
mutual
def uptoBulk {H : Type} : DataW H → Nat
  | .lit (.string bytes) => bytes.length + 1
  | .lit _ => 1
  | .nil => 1
  | .ptr d => uptoBulk d + 1
  | .slice elems spare => uptoBulkAll elems + uptoBulkAll spare + 1
  | .agg parts => uptoBulkAll parts + 1
  | .iface _ d => uptoBulk d + 1
  | .map entries => uptoBulkEntries entries + 1
  | .held _ => 1
def uptoBulkAll {H : Type} : List (DataW H) → Nat
  | [] => 0
  | d :: r => uptoBulk d + uptoBulkAll r
def uptoBulkEntries {H : Type} : List (Lit × DataW H) → Nat
  | [] => 0
  | x :: r => uptoBulkEntry x + uptoBulkEntries r
def uptoBulkEntry {H : Type} : Lit × DataW H → Nat
  | (.string bytes, d) => bytes.length + uptoBulk d + 1
  | (_, d) => uptoBulk d + 1
 end
def uptoSmall : (H : Type) → List (DataW H) → Bool := fun _ ds => decide (uptoBulkAll ds ≤ 1048576)
def OpenSpec.upto (s : _root_.Go.ChangeSpec) : _root_.Go.OpenSpec := { _root_.Go.OpenSpec.ofChange s with cond := some uptoSmall }

/-- 'munimentlaw5.PageLayouts', WHERE WHAT IT READS IS OF BULK AT MOST 1048576: true; the input reads as it did. -/
def pageLayoutsUptoRow : OpenClaim := { program := "ytpogneedafoiaaa", sum := "1f1f8c68ac2e50a5de3990b52b55b6eea138451e587c0c0a1d4464c33c16d16a", func := "muniment/munimentlaw5.PageLayouts", spec := "pageLayouts", apart := false, narrowed := true }
def PageLayoutsUptoSaid : Prop := pageLayoutsUptoRow.holds Try.pinned (OpenSpec.upto pageLayoutsSpec)

/-- 'munimentlaw5.PageChanges', WHERE WHAT IT READS IS OF BULK AT MOST 1048576: true; the input reads as it did. -/
def pageChangesUptoRow : OpenClaim := { program := "ytpogneedafoiaaa", sum := "1f1f8c68ac2e50a5de3990b52b55b6eea138451e587c0c0a1d4464c33c16d16a", func := "muniment/munimentlaw5.PageChanges", spec := "pageChanges", apart := false, narrowed := true }
def PageChangesUptoSaid : Prop := pageChangesUptoRow.holds Try.pinned (OpenSpec.upto pageChangesSpec)

/-- 'munimentlaw5.PageSeals', WHERE WHAT IT READS IS OF BULK AT MOST 1048576: true; the input reads as it did. -/
def pageSealsUptoRow : OpenClaim := { program := "ytpogneedafoiaaa", sum := "1f1f8c68ac2e50a5de3990b52b55b6eea138451e587c0c0a1d4464c33c16d16a", func := "muniment/munimentlaw5.PageSeals", spec := "pageSeals", apart := false, narrowed := true }
def PageSealsUptoSaid : Prop := pageSealsUptoRow.holds Try.pinned (OpenSpec.upto pageSealsSpec)

/-- 'munimentlaw5.PageKnown', WHERE WHAT IT READS IS OF BULK AT MOST 1048576: true; the input reads as it did. -/
def pageKnownUptoRow : OpenClaim := { program := "ytpogneedafoiaaa", sum := "1f1f8c68ac2e50a5de3990b52b55b6eea138451e587c0c0a1d4464c33c16d16a", func := "muniment/munimentlaw5.PageKnown", spec := "pageKnown", apart := false, narrowed := true }
def PageKnownUptoSaid : Prop := pageKnownUptoRow.holds Try.pinned (OpenSpec.upto pageKnownSpec)

/-- 'munimentlaw5.PageLists', WHERE WHAT IT READS IS OF BULK AT MOST 1048576: true; the input reads as it did. -/
def pageListsUptoRow : OpenClaim := { program := "ytpogneedafoiaaa", sum := "1f1f8c68ac2e50a5de3990b52b55b6eea138451e587c0c0a1d4464c33c16d16a", func := "muniment/munimentlaw5.PageLists", spec := "pageLists", apart := false, narrowed := true }
def PageListsUptoSaid : Prop := pageListsUptoRow.holds Try.pinned (OpenSpec.upto pageListsSpec)

/-- 'munimentlaw5.PageHeads', WHERE WHAT IT READS IS OF BULK AT MOST 1048576: true; the input reads as it did. -/
def pageHeadsUptoRow : OpenClaim := { program := "ytpogneedafoiaaa", sum := "1f1f8c68ac2e50a5de3990b52b55b6eea138451e587c0c0a1d4464c33c16d16a", func := "muniment/munimentlaw5.PageHeads", spec := "pageHeads", apart := false, narrowed := true }
def PageHeadsUptoSaid : Prop := pageHeadsUptoRow.holds Try.pinned (OpenSpec.upto pageHeadsSpec)

/-- 'munimentlaw5.PageParts', WHERE WHAT IT READS IS OF BULK AT MOST 1048576: true; the input reads as it did. -/
def pagePartsUptoRow : OpenClaim := { program := "ytpogneedafoiaaa", sum := "1f1f8c68ac2e50a5de3990b52b55b6eea138451e587c0c0a1d4464c33c16d16a", func := "muniment/munimentlaw5.PageParts", spec := "pageParts", apart := false, narrowed := true }
def PagePartsUptoSaid : Prop := pagePartsUptoRow.holds Try.pinned (OpenSpec.upto pagePartsSpec)

/-- 'munimentlaw5.PageKept', WHERE WHAT IT READS IS OF BULK AT MOST 1048576: true; the input reads as it did. -/
def pageKeptUptoRow : OpenClaim := { program := "ytpogneedafoiaaa", sum := "1f1f8c68ac2e50a5de3990b52b55b6eea138451e587c0c0a1d4464c33c16d16a", func := "muniment/munimentlaw5.PageKept", spec := "pageKept", apart := false, narrowed := true }
def PageKeptUptoSaid : Prop := pageKeptUptoRow.holds Try.pinned (OpenSpec.upto pageKeptSpec)

end Rows
end Go.Proofs.Ytpogneedafoiaaa
