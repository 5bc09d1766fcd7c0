/-
  NARROWER THAN 'FOR EVERY INPUT', by the rows' own cells (each row's printed sentence says how): WireReplies: loops, laid · WireKnown: laid · WireSplits: laid · WireTold: loops, laid · WireRequests: loops, laid · WireBack: loops, laid · WireKept: loops, laid · WireMany: loops, laid.
  DERIVED. THE GIVEN ROWS OF THIS SEAT. 8 by the template 'for every input the law returns true; each argument reads behind the call as it read before'; 0 by the template 'total and deterministic' (their statements: YtppdblikbdibmaaDoorTotals.lean).
  GIVEN WITH THE SEED: the statements are not yours to turn. If you find one false, say at which input.
  Laid BY PROGRAM, IN A SANDBOX (cutbox-rows.mjs): the forced cells as the released guide's own fill.sh prints them over the translation 3b20c11cb4623114… (all of the seat's roots in one cut). By AI agents, Wed Nov 11 2026. No macro, syntax, notation, axiom, sorry.
-/
import Derived.Test.YtppdblikbdibmaaDoorChecked
import GoSem.PinnedTables
import GoSem.Claim
import GoSem.ClaimJoined
import GoSem.ClaimMapViews
import Derived.JoinedTies
import Derived.KernelRfl
namespace Go.Proofs.YtppdblikbdibmaaDoor
/- THE CELL 'sum', in the pinned program and in every row, IS THE sha256 OF THE DUMP (.gsa) THAT YtppdblikbdibmaaDoorProg.lean LOADS. Nothing in Lean hashes anything: it is a label: what it is worth is what the hold of that sum in a sandbox is worth. -/
noncomputable def Tryd.pinned : Pinned := { name := "ytppdblikbdibmaadoor", sum := "3b20c11cb462311465e55e3711195efb1c8e3cecf5a58d4326915af9fbfe7d8e", checked := Tryd.checked }
namespace Rows
def none {H : Type} : Left H := { results := [], args := [] }

/- WHAT THE LISTED PACKAGE-LEVEL VARIABLES READ AS WHEN THE CALL BEGINS. Each datum BY PROGRAM (the guide's laid-datum.mjs) off the statement by which the dump's own 'gosem.cut.vars' lays the variable. In a bare row this is a premise. The card (YtppdblikbdibmaaDoorCards.lean) ties it to the program's text. -/
def laid_unicode_utf8_acceptRanges {H : Type} : DataW H := .agg [.agg [.lit (.int .u8 128), .lit (.int .u8 191)], .agg [.lit (.int .u8 160), .lit (.int .u8 191)], .agg [.lit (.int .u8 128), .lit (.int .u8 159)], .agg [.lit (.int .u8 144), .lit (.int .u8 191)], .agg [.lit (.int .u8 128), .lit (.int .u8 143)], .agg [.lit (.int .u8 0), .lit (.int .u8 0)], .agg [.lit (.int .u8 0), .lit (.int .u8 0)], .agg [.lit (.int .u8 0), .lit (.int .u8 0)], .agg [.lit (.int .u8 0), .lit (.int .u8 0)], .agg [.lit (.int .u8 0), .lit (.int .u8 0)], .agg [.lit (.int .u8 0), .lit (.int .u8 0)], .agg [.lit (.int .u8 0), .lit (.int .u8 0)], .agg [.lit (.int .u8 0), .lit (.int .u8 0)], .agg [.lit (.int .u8 0), .lit (.int .u8 0)], .agg [.lit (.int .u8 0), .lit (.int .u8 0)], .agg [.lit (.int .u8 0), .lit (.int .u8 0)]]
/-- One of Go's own tables, pinned by name: the form's constant. -/
def laid_unicode_utf8_first : DataW Unit := Go.Pinned.utf8First

/-- 'munimentlaw19.WireReplies': WHATEVER THE INPUT: true; the input reads as it did. -/
def wireRepliesSpec : ChangeSpec := { name := "wireReplies", fn := fun _ => fun
  | [d1, d2] => { results := [.lit (.bool true)], args := [d1, d2] }
  | _ => none }
def wireRepliesRow : OpenClaim := { program := "ytppdblikbdibmaadoor", sum := "3b20c11cb462311465e55e3711195efb1c8e3cecf5a58d4326915af9fbfe7d8e", func := "muniment/munimentlaw19.WireReplies", spec := "wireReplies", unfollowed := true, recurses := true, named := ["unicode/utf8.first", "unicode/utf8.acceptRanges"], loops := true, apart := false, laid := [("unicode/utf8.acceptRanges", laid_unicode_utf8_acceptRanges), ("unicode/utf8.first", laid_unicode_utf8_first)] }
def WireRepliesSaid : Prop := wireRepliesRow.holds Tryd.pinned (OpenSpec.ofChange wireRepliesSpec)

/-- ITS FALSE NEIGHBOUR: 'it returns false'. Refute it at one input. -/
def wireRepliesWrong : ChangeSpec := { name := "wireReplies", fn := fun _ => fun
  | [d1, d2] => { results := [.lit (.bool false)], args := [d1, d2] }
  | _ => none }
def WireRepliesWrongFalsely : Prop := wireRepliesRow.holds Tryd.pinned (OpenSpec.ofChange wireRepliesWrong)

/-- 'munimentlaw19.WireKnown': WHATEVER THE INPUT: true; the input reads as it did. -/
def wireKnownSpec : ChangeSpec := { name := "wireKnown", fn := fun _ => fun
  | [] => { results := [.lit (.bool true)], args := [] }
  | _ => none }
def wireKnownRow : OpenClaim := { program := "ytppdblikbdibmaadoor", sum := "3b20c11cb462311465e55e3711195efb1c8e3cecf5a58d4326915af9fbfe7d8e", func := "muniment/munimentlaw19.WireKnown", spec := "wireKnown", unfollowed := true, recurses := true, named := ["unicode/utf8.first", "unicode/utf8.acceptRanges"], apart := false, laid := [("unicode/utf8.acceptRanges", laid_unicode_utf8_acceptRanges), ("unicode/utf8.first", laid_unicode_utf8_first)] }
def WireKnownSaid : Prop := wireKnownRow.holds Tryd.pinned (OpenSpec.ofChange wireKnownSpec)

/-- ITS FALSE NEIGHBOUR: 'it returns false'. Refute it at one input. -/
def wireKnownWrong : ChangeSpec := { name := "wireKnown", fn := fun _ => fun
  | [] => { results := [.lit (.bool false)], args := [] }
  | _ => none }
def WireKnownWrongFalsely : Prop := wireKnownRow.holds Tryd.pinned (OpenSpec.ofChange wireKnownWrong)

/-- 'munimentlaw19.WireSplits': WHATEVER THE INPUT: true; the input reads as it did. -/
def wireSplitsSpec : ChangeSpec := { name := "wireSplits", fn := fun _ => fun
  | [d] => { results := [.lit (.bool true)], args := [d] }
  | _ => none }
def wireSplitsRow : OpenClaim := { program := "ytppdblikbdibmaadoor", sum := "3b20c11cb462311465e55e3711195efb1c8e3cecf5a58d4326915af9fbfe7d8e", func := "muniment/munimentlaw19.WireSplits", spec := "wireSplits", unfollowed := true, recurses := true, named := ["unicode/utf8.first", "unicode/utf8.acceptRanges"], apart := false, laid := [("unicode/utf8.acceptRanges", laid_unicode_utf8_acceptRanges), ("unicode/utf8.first", laid_unicode_utf8_first)] }
def WireSplitsSaid : Prop := wireSplitsRow.holds Tryd.pinned (OpenSpec.ofChange wireSplitsSpec)

/-- ITS FALSE NEIGHBOUR: 'it returns false'. Refute it at one input. -/
def wireSplitsWrong : ChangeSpec := { name := "wireSplits", fn := fun _ => fun
  | [d] => { results := [.lit (.bool false)], args := [d] }
  | _ => none }
def WireSplitsWrongFalsely : Prop := wireSplitsRow.holds Tryd.pinned (OpenSpec.ofChange wireSplitsWrong)

/-- 'munimentlaw19.WireTold': WHATEVER THE INPUT: true; the input reads as it did. -/
def wireToldSpec : ChangeSpec := { name := "wireTold", fn := fun _ => fun
  | [d1, d2, d3] => { results := [.lit (.bool true)], args := [d1, d2, d3] }
  | _ => none }
def wireToldRow : OpenClaim := { program := "ytppdblikbdibmaadoor", sum := "3b20c11cb462311465e55e3711195efb1c8e3cecf5a58d4326915af9fbfe7d8e", func := "muniment/munimentlaw19.WireTold", spec := "wireTold", unfollowed := true, recurses := true, named := ["unicode/utf8.first", "unicode/utf8.acceptRanges"], loops := true, apart := false, laid := [("unicode/utf8.acceptRanges", laid_unicode_utf8_acceptRanges), ("unicode/utf8.first", laid_unicode_utf8_first)] }
def WireToldSaid : Prop := wireToldRow.holds Tryd.pinned (OpenSpec.ofChange wireToldSpec)

/-- ITS FALSE NEIGHBOUR: 'it returns false'. Refute it at one input. -/
def wireToldWrong : ChangeSpec := { name := "wireTold", fn := fun _ => fun
  | [d1, d2, d3] => { results := [.lit (.bool false)], args := [d1, d2, d3] }
  | _ => none }
def WireToldWrongFalsely : Prop := wireToldRow.holds Tryd.pinned (OpenSpec.ofChange wireToldWrong)

/-- 'munimentlaw19.WireRequests': WHATEVER THE INPUT: true; the input reads as it did. -/
def wireRequestsSpec : ChangeSpec := { name := "wireRequests", fn := fun _ => fun
  | [d1, d2] => { results := [.lit (.bool true)], args := [d1, d2] }
  | _ => none }
def wireRequestsRow : OpenClaim := { program := "ytppdblikbdibmaadoor", sum := "3b20c11cb462311465e55e3711195efb1c8e3cecf5a58d4326915af9fbfe7d8e", func := "muniment/munimentlaw19.WireRequests", spec := "wireRequests", unfollowed := true, recurses := true, named := ["unicode/utf8.first", "unicode/utf8.acceptRanges"], loops := true, apart := false, laid := [("unicode/utf8.acceptRanges", laid_unicode_utf8_acceptRanges), ("unicode/utf8.first", laid_unicode_utf8_first)] }
def WireRequestsSaid : Prop := wireRequestsRow.holds Tryd.pinned (OpenSpec.ofChange wireRequestsSpec)

/-- ITS FALSE NEIGHBOUR: 'it returns false'. Refute it at one input. -/
def wireRequestsWrong : ChangeSpec := { name := "wireRequests", fn := fun _ => fun
  | [d1, d2] => { results := [.lit (.bool false)], args := [d1, d2] }
  | _ => none }
def WireRequestsWrongFalsely : Prop := wireRequestsRow.holds Tryd.pinned (OpenSpec.ofChange wireRequestsWrong)

/-- 'munimentlaw19.WireBack': WHATEVER THE INPUT: true; the input reads as it did. -/
def wireBackSpec : ChangeSpec := { name := "wireBack", fn := fun _ => fun
  | [d1, d2, d3, d4] => { results := [.lit (.bool true)], args := [d1, d2, d3, d4] }
  | _ => none }
def wireBackRow : OpenClaim := { program := "ytppdblikbdibmaadoor", sum := "3b20c11cb462311465e55e3711195efb1c8e3cecf5a58d4326915af9fbfe7d8e", func := "muniment/munimentlaw19.WireBack", spec := "wireBack", unfollowed := true, recurses := true, named := ["unicode/utf8.first", "unicode/utf8.acceptRanges"], loops := true, apart := false, laid := [("unicode/utf8.acceptRanges", laid_unicode_utf8_acceptRanges), ("unicode/utf8.first", laid_unicode_utf8_first)] }
def WireBackSaid : Prop := wireBackRow.holds Tryd.pinned (OpenSpec.ofChange wireBackSpec)

/-- ITS FALSE NEIGHBOUR: 'it returns false'. Refute it at one input. -/
def wireBackWrong : ChangeSpec := { name := "wireBack", fn := fun _ => fun
  | [d1, d2, d3, d4] => { results := [.lit (.bool false)], args := [d1, d2, d3, d4] }
  | _ => none }
def WireBackWrongFalsely : Prop := wireBackRow.holds Tryd.pinned (OpenSpec.ofChange wireBackWrong)

/-- 'munimentlaw19.WireKept': WHATEVER THE INPUT: true; the input reads as it did. -/
def wireKeptSpec : ChangeSpec := { name := "wireKept", fn := fun _ => fun
  | [d1, d2] => { results := [.lit (.bool true)], args := [d1, d2] }
  | _ => none }
def wireKeptRow : OpenClaim := { program := "ytppdblikbdibmaadoor", sum := "3b20c11cb462311465e55e3711195efb1c8e3cecf5a58d4326915af9fbfe7d8e", func := "muniment/munimentlaw19.WireKept", spec := "wireKept", unfollowed := true, recurses := true, named := ["unicode/utf8.first", "unicode/utf8.acceptRanges"], loops := true, apart := false, laid := [("unicode/utf8.acceptRanges", laid_unicode_utf8_acceptRanges), ("unicode/utf8.first", laid_unicode_utf8_first)] }
def WireKeptSaid : Prop := wireKeptRow.holds Tryd.pinned (OpenSpec.ofChange wireKeptSpec)

/-- ITS FALSE NEIGHBOUR: 'it returns false'. Refute it at one input. -/
def wireKeptWrong : ChangeSpec := { name := "wireKept", fn := fun _ => fun
  | [d1, d2] => { results := [.lit (.bool false)], args := [d1, d2] }
  | _ => none }
def WireKeptWrongFalsely : Prop := wireKeptRow.holds Tryd.pinned (OpenSpec.ofChange wireKeptWrong)

/-- 'munimentlaw19.WireMany': WHATEVER THE INPUT: true; the input reads as it did. -/
def wireManySpec : ChangeSpec := { name := "wireMany", fn := fun _ => fun
  | [d1, d2] => { results := [.lit (.bool true)], args := [d1, d2] }
  | _ => none }
def wireManyRow : OpenClaim := { program := "ytppdblikbdibmaadoor", sum := "3b20c11cb462311465e55e3711195efb1c8e3cecf5a58d4326915af9fbfe7d8e", func := "muniment/munimentlaw19.WireMany", spec := "wireMany", unfollowed := true, recurses := true, named := ["unicode/utf8.first", "unicode/utf8.acceptRanges"], loops := true, apart := false, laid := [("unicode/utf8.acceptRanges", laid_unicode_utf8_acceptRanges), ("unicode/utf8.first", laid_unicode_utf8_first)] }
def WireManySaid : Prop := wireManyRow.holds Tryd.pinned (OpenSpec.ofChange wireManySpec)

/-- ITS FALSE NEIGHBOUR: 'it returns false'. Refute it at one input. -/
def wireManyWrong : ChangeSpec := { name := "wireMany", fn := fun _ => fun
  | [d1, d2] => { results := [.lit (.bool false)], args := [d1, d2] }
  | _ => none }
def WireManyWrongFalsely : Prop := wireManyRow.holds Tryd.pinned (OpenSpec.ofChange wireManyWrong)

/- THE SECOND FORM. 'bulk': how many values and letters a reading holds, each counted each time it is reached (what is shared counts as often as it is met; a slice's spare places count too). A statement '..UptoSaid' is the law's where the arguments, and the package variables that the reading takes, are together of bulk at most 1048576: NARROWER than '..Said'. Prove '..Said' where nothing that the law and all that it calls make is longer than what came in: it says more and counts as full. Else prove '..UptoSaid'. A law counts once. -/
mutual
def uptoBulk {H : Type} : DataW H → Nat
  | .lit (.string bytes) => bytes.length + 1
  | .lit _ => 1
  | .nil => 1
  | .ptr d => uptoBulk d + 1
  | .slice elems spare => uptoBulkAll elems + uptoBulkAll spare + 1
  | .agg parts => uptoBulkAll parts + 1
  | .iface _ d => uptoBulk d + 1
  | .map entries => uptoBulkEntries entries + 1
  | .held _ => 1
def uptoBulkAll {H : Type} : List (DataW H) → Nat
  | [] => 0
  | d :: r => uptoBulk d + uptoBulkAll r
def uptoBulkEntries {H : Type} : List (Lit × DataW H) → Nat
  | [] => 0
  | x :: r => uptoBulkEntry x + uptoBulkEntries r
def uptoBulkEntry {H : Type} : Lit × DataW H → Nat
  | (.string bytes, d) => bytes.length + uptoBulk d + 1
  | (_, d) => uptoBulk d + 1
 end
def uptoSmall : (H : Type) → List (DataW H) → Bool := fun _ ds => decide (uptoBulkAll ds ≤ 1048576)
def OpenSpec.upto (s : _root_.Go.ChangeSpec) : _root_.Go.OpenSpec := { _root_.Go.OpenSpec.ofChange s with cond := some uptoSmall }

/-- 'munimentlaw19.WireReplies', WHERE WHAT IT READS IS OF BULK AT MOST 1048576: true; the input reads as it did. -/
def wireRepliesUptoRow : OpenClaim := { program := "ytppdblikbdibmaadoor", sum := "3b20c11cb462311465e55e3711195efb1c8e3cecf5a58d4326915af9fbfe7d8e", func := "muniment/munimentlaw19.WireReplies", spec := "wireReplies", unfollowed := true, recurses := true, named := ["unicode/utf8.first", "unicode/utf8.acceptRanges"], loops := true, apart := false, laid := [("unicode/utf8.acceptRanges", laid_unicode_utf8_acceptRanges), ("unicode/utf8.first", laid_unicode_utf8_first)], narrowed := true }
def WireRepliesUptoSaid : Prop := wireRepliesUptoRow.holds Tryd.pinned (OpenSpec.upto wireRepliesSpec)

/-- 'munimentlaw19.WireKnown', WHERE WHAT IT READS IS OF BULK AT MOST 1048576: true; the input reads as it did. -/
def wireKnownUptoRow : OpenClaim := { program := "ytppdblikbdibmaadoor", sum := "3b20c11cb462311465e55e3711195efb1c8e3cecf5a58d4326915af9fbfe7d8e", func := "muniment/munimentlaw19.WireKnown", spec := "wireKnown", unfollowed := true, recurses := true, named := ["unicode/utf8.first", "unicode/utf8.acceptRanges"], apart := false, laid := [("unicode/utf8.acceptRanges", laid_unicode_utf8_acceptRanges), ("unicode/utf8.first", laid_unicode_utf8_first)], narrowed := true }
def WireKnownUptoSaid : Prop := wireKnownUptoRow.holds Tryd.pinned (OpenSpec.upto wireKnownSpec)

/-- 'munimentlaw19.WireSplits', WHERE WHAT IT READS IS OF BULK AT MOST 1048576: true; the input reads as it did. -/
def wireSplitsUptoRow : OpenClaim := { program := "ytppdblikbdibmaadoor", sum := "3b20c11cb462311465e55e3711195efb1c8e3cecf5a58d4326915af9fbfe7d8e", func := "muniment/munimentlaw19.WireSplits", spec := "wireSplits", unfollowed := true, recurses := true, named := ["unicode/utf8.first", "unicode/utf8.acceptRanges"], apart := false, laid := [("unicode/utf8.acceptRanges", laid_unicode_utf8_acceptRanges), ("unicode/utf8.first", laid_unicode_utf8_first)], narrowed := true }
def WireSplitsUptoSaid : Prop := wireSplitsUptoRow.holds Tryd.pinned (OpenSpec.upto wireSplitsSpec)

/-- 'munimentlaw19.WireTold', WHERE WHAT IT READS IS OF BULK AT MOST 1048576: true; the input reads as it did. -/
def wireToldUptoRow : OpenClaim := { program := "ytppdblikbdibmaadoor", sum := "3b20c11cb462311465e55e3711195efb1c8e3cecf5a58d4326915af9fbfe7d8e", func := "muniment/munimentlaw19.WireTold", spec := "wireTold", unfollowed := true, recurses := true, named := ["unicode/utf8.first", "unicode/utf8.acceptRanges"], loops := true, apart := false, laid := [("unicode/utf8.acceptRanges", laid_unicode_utf8_acceptRanges), ("unicode/utf8.first", laid_unicode_utf8_first)], narrowed := true }
def WireToldUptoSaid : Prop := wireToldUptoRow.holds Tryd.pinned (OpenSpec.upto wireToldSpec)

/-- 'munimentlaw19.WireRequests', WHERE WHAT IT READS IS OF BULK AT MOST 1048576: true; the input reads as it did. -/
def wireRequestsUptoRow : OpenClaim := { program := "ytppdblikbdibmaadoor", sum := "3b20c11cb462311465e55e3711195efb1c8e3cecf5a58d4326915af9fbfe7d8e", func := "muniment/munimentlaw19.WireRequests", spec := "wireRequests", unfollowed := true, recurses := true, named := ["unicode/utf8.first", "unicode/utf8.acceptRanges"], loops := true, apart := false, laid := [("unicode/utf8.acceptRanges", laid_unicode_utf8_acceptRanges), ("unicode/utf8.first", laid_unicode_utf8_first)], narrowed := true }
def WireRequestsUptoSaid : Prop := wireRequestsUptoRow.holds Tryd.pinned (OpenSpec.upto wireRequestsSpec)

/-- 'munimentlaw19.WireBack', WHERE WHAT IT READS IS OF BULK AT MOST 1048576: true; the input reads as it did. -/
def wireBackUptoRow : OpenClaim := { program := "ytppdblikbdibmaadoor", sum := "3b20c11cb462311465e55e3711195efb1c8e3cecf5a58d4326915af9fbfe7d8e", func := "muniment/munimentlaw19.WireBack", spec := "wireBack", unfollowed := true, recurses := true, named := ["unicode/utf8.first", "unicode/utf8.acceptRanges"], loops := true, apart := false, laid := [("unicode/utf8.acceptRanges", laid_unicode_utf8_acceptRanges), ("unicode/utf8.first", laid_unicode_utf8_first)], narrowed := true }
def WireBackUptoSaid : Prop := wireBackUptoRow.holds Tryd.pinned (OpenSpec.upto wireBackSpec)

/-- 'munimentlaw19.WireKept', WHERE WHAT IT READS IS OF BULK AT MOST 1048576: true; the input reads as it did. -/
def wireKeptUptoRow : OpenClaim := { program := "ytppdblikbdibmaadoor", sum := "3b20c11cb462311465e55e3711195efb1c8e3cecf5a58d4326915af9fbfe7d8e", func := "muniment/munimentlaw19.WireKept", spec := "wireKept", unfollowed := true, recurses := true, named := ["unicode/utf8.first", "unicode/utf8.acceptRanges"], loops := true, apart := false, laid := [("unicode/utf8.acceptRanges", laid_unicode_utf8_acceptRanges), ("unicode/utf8.first", laid_unicode_utf8_first)], narrowed := true }
def WireKeptUptoSaid : Prop := wireKeptUptoRow.holds Tryd.pinned (OpenSpec.upto wireKeptSpec)

/-- 'munimentlaw19.WireMany', WHERE WHAT IT READS IS OF BULK AT MOST 1048576: true; the input reads as it did. -/
def wireManyUptoRow : OpenClaim := { program := "ytppdblikbdibmaadoor", sum := "3b20c11cb462311465e55e3711195efb1c8e3cecf5a58d4326915af9fbfe7d8e", func := "muniment/munimentlaw19.WireMany", spec := "wireMany", unfollowed := true, recurses := true, named := ["unicode/utf8.first", "unicode/utf8.acceptRanges"], loops := true, apart := false, laid := [("unicode/utf8.acceptRanges", laid_unicode_utf8_acceptRanges), ("unicode/utf8.first", laid_unicode_utf8_first)], narrowed := true }
def WireManyUptoSaid : Prop := wireManyUptoRow.holds Tryd.pinned (OpenSpec.upto wireManySpec)

end Rows
end Go.Proofs.YtppdblikbdibmaaDoor
