/-
  No cell of these rows narrows 'for every input' (looked for: loops, veiled, ifaces, maps, wideKeys, modest, calm, conditions, laid).
  DERIVED. THE GIVEN ROWS OF THIS SEAT. 8 by the template 'for every input the law returns true; each argument reads behind the call as it read before'; 0 by the template 'total and deterministic' (their statements: YtdcoflglkfbpcaaTotals.lean).
  GIVEN WITH THE SEED: the statements are not yours to turn. If you find one false, say at which input.
  Laid BY PROGRAM, IN A SANDBOX (cutbox-rows.mjs): the forced cells as the released guide's own fill.sh prints them over the translation 90cf983d51fad055… (all of the seat's roots in one cut). By AI agents, Wed Nov 11 2026. No macro, syntax, notation, axiom, sorry.
-/
import Derived.Test.YtdcoflglkfbpcaaChecked
import GoSem.Claim
import GoSem.ClaimJoined
import GoSem.ClaimMapViews
import Derived.JoinedTies
import Derived.KernelRfl
namespace Go.Proofs.Ytdcoflglkfbpcaa
/- THE CELL 'sum', in the pinned program and in every row, IS THE sha256 OF THE DUMP (.gsa) THAT YtdcoflglkfbpcaaProg.lean LOADS. Nothing in Lean hashes anything: it is a label: what it is worth is what the hold of that sum in a sandbox is worth. -/
noncomputable def Try.pinned : Pinned := { name := "ytdcoflglkfbpcaa", sum := "90cf983d51fad055497f83a0272c7a10e78d4e4a59cafe2638bc962098269cba", checked := Try.checked }
namespace Rows
def none {H : Type} : Left H := { results := [], args := [] }

/-- 'treadmilllaw29.ViewPaths': WHATEVER THE INPUT: true; the input reads as it did. -/
def viewPathsSpec : ChangeSpec := { name := "viewPaths", fn := fun _ => fun
  | [d1, d2, d3] => { results := [.lit (.bool true)], args := [d1, d2, d3] }
  | _ => none }
def viewPathsRow : OpenClaim := { program := "ytdcoflglkfbpcaa", sum := "90cf983d51fad055497f83a0272c7a10e78d4e4a59cafe2638bc962098269cba", func := "treadmill/treadmilllaw29.ViewPaths", spec := "viewPaths", unfollowed := true, recurses := true, apart := false }
def ViewPathsSaid : Prop := viewPathsRow.holds Try.pinned (OpenSpec.ofChange viewPathsSpec)

/-- ITS FALSE NEIGHBOUR: 'it returns false'. Refute it at one input. -/
def viewPathsWrong : ChangeSpec := { name := "viewPaths", fn := fun _ => fun
  | [d1, d2, d3] => { results := [.lit (.bool false)], args := [d1, d2, d3] }
  | _ => none }
def ViewPathsWrongFalsely : Prop := viewPathsRow.holds Try.pinned (OpenSpec.ofChange viewPathsWrong)

/-- 'treadmilllaw29.ViewClosed': WHATEVER THE INPUT: true; the input reads as it did. -/
def viewClosedSpec : ChangeSpec := { name := "viewClosed", fn := fun _ => fun
  | [d] => { results := [.lit (.bool true)], args := [d] }
  | _ => none }
def viewClosedRow : OpenClaim := { program := "ytdcoflglkfbpcaa", sum := "90cf983d51fad055497f83a0272c7a10e78d4e4a59cafe2638bc962098269cba", func := "treadmill/treadmilllaw29.ViewClosed", spec := "viewClosed", unfollowed := true, recurses := true, apart := false }
def ViewClosedSaid : Prop := viewClosedRow.holds Try.pinned (OpenSpec.ofChange viewClosedSpec)

/-- ITS FALSE NEIGHBOUR: 'it returns false'. Refute it at one input. -/
def viewClosedWrong : ChangeSpec := { name := "viewClosed", fn := fun _ => fun
  | [d] => { results := [.lit (.bool false)], args := [d] }
  | _ => none }
def ViewClosedWrongFalsely : Prop := viewClosedRow.holds Try.pinned (OpenSpec.ofChange viewClosedWrong)

/-- 'treadmilllaw29.ViewLess': WHATEVER THE INPUT: true; the input reads as it did. -/
def viewLessSpec : ChangeSpec := { name := "viewLess", fn := fun _ => fun
  | [d1, d2, d3] => { results := [.lit (.bool true)], args := [d1, d2, d3] }
  | _ => none }
def viewLessRow : OpenClaim := { program := "ytdcoflglkfbpcaa", sum := "90cf983d51fad055497f83a0272c7a10e78d4e4a59cafe2638bc962098269cba", func := "treadmill/treadmilllaw29.ViewLess", spec := "viewLess", unfollowed := true, recurses := true, apart := false }
def ViewLessSaid : Prop := viewLessRow.holds Try.pinned (OpenSpec.ofChange viewLessSpec)

/-- ITS FALSE NEIGHBOUR: 'it returns false'. Refute it at one input. -/
def viewLessWrong : ChangeSpec := { name := "viewLess", fn := fun _ => fun
  | [d1, d2, d3] => { results := [.lit (.bool false)], args := [d1, d2, d3] }
  | _ => none }
def ViewLessWrongFalsely : Prop := viewLessRow.holds Try.pinned (OpenSpec.ofChange viewLessWrong)

/-- 'treadmilllaw29.ViewRoots': WHATEVER THE INPUT: true; the input reads as it did. -/
def viewRootsSpec : ChangeSpec := { name := "viewRoots", fn := fun _ => fun
  | [d1, d2, d3] => { results := [.lit (.bool true)], args := [d1, d2, d3] }
  | _ => none }
def viewRootsRow : OpenClaim := { program := "ytdcoflglkfbpcaa", sum := "90cf983d51fad055497f83a0272c7a10e78d4e4a59cafe2638bc962098269cba", func := "treadmill/treadmilllaw29.ViewRoots", spec := "viewRoots", unfollowed := true, recurses := true, apart := false }
def ViewRootsSaid : Prop := viewRootsRow.holds Try.pinned (OpenSpec.ofChange viewRootsSpec)

/-- ITS FALSE NEIGHBOUR: 'it returns false'. Refute it at one input. -/
def viewRootsWrong : ChangeSpec := { name := "viewRoots", fn := fun _ => fun
  | [d1, d2, d3] => { results := [.lit (.bool false)], args := [d1, d2, d3] }
  | _ => none }
def ViewRootsWrongFalsely : Prop := viewRootsRow.holds Try.pinned (OpenSpec.ofChange viewRootsWrong)

/-- 'treadmilllaw29.ViewChains': WHATEVER THE INPUT: true; the input reads as it did. -/
def viewChainsSpec : ChangeSpec := { name := "viewChains", fn := fun _ => fun
  | [d1, d2, d3] => { results := [.lit (.bool true)], args := [d1, d2, d3] }
  | _ => none }
def viewChainsRow : OpenClaim := { program := "ytdcoflglkfbpcaa", sum := "90cf983d51fad055497f83a0272c7a10e78d4e4a59cafe2638bc962098269cba", func := "treadmill/treadmilllaw29.ViewChains", spec := "viewChains", unfollowed := true, recurses := true, apart := false }
def ViewChainsSaid : Prop := viewChainsRow.holds Try.pinned (OpenSpec.ofChange viewChainsSpec)

/-- ITS FALSE NEIGHBOUR: 'it returns false'. Refute it at one input. -/
def viewChainsWrong : ChangeSpec := { name := "viewChains", fn := fun _ => fun
  | [d1, d2, d3] => { results := [.lit (.bool false)], args := [d1, d2, d3] }
  | _ => none }
def ViewChainsWrongFalsely : Prop := viewChainsRow.holds Try.pinned (OpenSpec.ofChange viewChainsWrong)

/-- 'treadmilllaw30.AuditRules': WHATEVER THE INPUT: true; the input reads as it did. -/
def auditRulesSpec : ChangeSpec := { name := "auditRules", fn := fun _ => fun
  | [d1, d2, d3] => { results := [.lit (.bool true)], args := [d1, d2, d3] }
  | _ => none }
def auditRulesRow : OpenClaim := { program := "ytdcoflglkfbpcaa", sum := "90cf983d51fad055497f83a0272c7a10e78d4e4a59cafe2638bc962098269cba", func := "treadmill/treadmilllaw30.AuditRules", spec := "auditRules", unfollowed := true, recurses := true, apart := false }
def AuditRulesSaid : Prop := auditRulesRow.holds Try.pinned (OpenSpec.ofChange auditRulesSpec)

/-- ITS FALSE NEIGHBOUR: 'it returns false'. Refute it at one input. -/
def auditRulesWrong : ChangeSpec := { name := "auditRules", fn := fun _ => fun
  | [d1, d2, d3] => { results := [.lit (.bool false)], args := [d1, d2, d3] }
  | _ => none }
def AuditRulesWrongFalsely : Prop := auditRulesRow.holds Try.pinned (OpenSpec.ofChange auditRulesWrong)

/-- 'treadmilllaw30.AuditEach': WHATEVER THE INPUT: true; the input reads as it did. -/
def auditEachSpec : ChangeSpec := { name := "auditEach", fn := fun _ => fun
  | [d1, d2] => { results := [.lit (.bool true)], args := [d1, d2] }
  | _ => none }
def auditEachRow : OpenClaim := { program := "ytdcoflglkfbpcaa", sum := "90cf983d51fad055497f83a0272c7a10e78d4e4a59cafe2638bc962098269cba", func := "treadmill/treadmilllaw30.AuditEach", spec := "auditEach", unfollowed := true, recurses := true, apart := false }
def AuditEachSaid : Prop := auditEachRow.holds Try.pinned (OpenSpec.ofChange auditEachSpec)

/-- ITS FALSE NEIGHBOUR: 'it returns false'. Refute it at one input. -/
def auditEachWrong : ChangeSpec := { name := "auditEach", fn := fun _ => fun
  | [d1, d2] => { results := [.lit (.bool false)], args := [d1, d2] }
  | _ => none }
def AuditEachWrongFalsely : Prop := auditEachRow.holds Try.pinned (OpenSpec.ofChange auditEachWrong)

/-- 'treadmilllaw29.ViewAsks': WHATEVER THE INPUT: true; the input reads as it did. -/
def viewAsksSpec : ChangeSpec := { name := "viewAsks", fn := fun _ => fun
  | [d1, d2, d3] => { results := [.lit (.bool true)], args := [d1, d2, d3] }
  | _ => none }
def viewAsksRow : OpenClaim := { program := "ytdcoflglkfbpcaa", sum := "90cf983d51fad055497f83a0272c7a10e78d4e4a59cafe2638bc962098269cba", func := "treadmill/treadmilllaw29.ViewAsks", spec := "viewAsks", unfollowed := true, recurses := true, apart := false }
def ViewAsksSaid : Prop := viewAsksRow.holds Try.pinned (OpenSpec.ofChange viewAsksSpec)

/-- ITS FALSE NEIGHBOUR: 'it returns false'. Refute it at one input. -/
def viewAsksWrong : ChangeSpec := { name := "viewAsks", fn := fun _ => fun
  | [d1, d2, d3] => { results := [.lit (.bool false)], args := [d1, d2, d3] }
  | _ => none }
def ViewAsksWrongFalsely : Prop := viewAsksRow.holds Try.pinned (OpenSpec.ofChange viewAsksWrong)

/- THE SECOND FORM. 'bulk': how many values and letters a reading holds, each counted each time it is reached (what is shared counts as often as it is met; a slice's spare places count too). A statement '..UptoSaid' is the law's where the arguments, and the package variables that the reading takes, are together of bulk at most 1048576: NARROWER than '..Said'. Prove '..Said' where nothing that the law and all that it calls make is longer than what came in: it says more and counts as full. Else prove '..UptoSaid'. A law counts once. -/
mutual
def uptoBulk {H : Type} : DataW H → Nat
  | .lit (.string bytes) => bytes.length + 1
  | .lit _ => 1
  | .nil => 1
  | .ptr d => uptoBulk d + 1
  | .slice elems spare => uptoBulkAll elems + uptoBulkAll spare + 1
  | .agg parts => uptoBulkAll parts + 1
  | .iface _ d => uptoBulk d + 1
  | .map entries => uptoBulkEntries entries + 1
  | .held _ => 1
def uptoBulkAll {H : Type} : List (DataW H) → Nat
  | [] => 0
  | d :: r => uptoBulk d + uptoBulkAll r
def uptoBulkEntries {H : Type} : List (Lit × DataW H) → Nat
  | [] => 0
  | x :: r => uptoBulkEntry x + uptoBulkEntries r
def uptoBulkEntry {H : Type} : Lit × DataW H → Nat
  | (.string bytes, d) => bytes.length + uptoBulk d + 1
  | (_, d) => uptoBulk d + 1
 end
def uptoSmall : (H : Type) → List (DataW H) → Bool := fun _ ds => decide (uptoBulkAll ds ≤ 1048576)
def OpenSpec.upto (s : _root_.Go.ChangeSpec) : _root_.Go.OpenSpec := { _root_.Go.OpenSpec.ofChange s with cond := some uptoSmall }

/-- 'treadmilllaw29.ViewPaths', WHERE WHAT IT READS IS OF BULK AT MOST 1048576: true; the input reads as it did. -/
def viewPathsUptoRow : OpenClaim := { program := "ytdcoflglkfbpcaa", sum := "90cf983d51fad055497f83a0272c7a10e78d4e4a59cafe2638bc962098269cba", func := "treadmill/treadmilllaw29.ViewPaths", spec := "viewPaths", unfollowed := true, recurses := true, apart := false, narrowed := true }
def ViewPathsUptoSaid : Prop := viewPathsUptoRow.holds Try.pinned (OpenSpec.upto viewPathsSpec)

/-- 'treadmilllaw29.ViewClosed', WHERE WHAT IT READS IS OF BULK AT MOST 1048576: true; the input reads as it did. -/
def viewClosedUptoRow : OpenClaim := { program := "ytdcoflglkfbpcaa", sum := "90cf983d51fad055497f83a0272c7a10e78d4e4a59cafe2638bc962098269cba", func := "treadmill/treadmilllaw29.ViewClosed", spec := "viewClosed", unfollowed := true, recurses := true, apart := false, narrowed := true }
def ViewClosedUptoSaid : Prop := viewClosedUptoRow.holds Try.pinned (OpenSpec.upto viewClosedSpec)

/-- 'treadmilllaw29.ViewLess', WHERE WHAT IT READS IS OF BULK AT MOST 1048576: true; the input reads as it did. -/
def viewLessUptoRow : OpenClaim := { program := "ytdcoflglkfbpcaa", sum := "90cf983d51fad055497f83a0272c7a10e78d4e4a59cafe2638bc962098269cba", func := "treadmill/treadmilllaw29.ViewLess", spec := "viewLess", unfollowed := true, recurses := true, apart := false, narrowed := true }
def ViewLessUptoSaid : Prop := viewLessUptoRow.holds Try.pinned (OpenSpec.upto viewLessSpec)

/-- 'treadmilllaw29.ViewRoots', WHERE WHAT IT READS IS OF BULK AT MOST 1048576: true; the input reads as it did. -/
def viewRootsUptoRow : OpenClaim := { program := "ytdcoflglkfbpcaa", sum := "90cf983d51fad055497f83a0272c7a10e78d4e4a59cafe2638bc962098269cba", func := "treadmill/treadmilllaw29.ViewRoots", spec := "viewRoots", unfollowed := true, recurses := true, apart := false, narrowed := true }
def ViewRootsUptoSaid : Prop := viewRootsUptoRow.holds Try.pinned (OpenSpec.upto viewRootsSpec)

/-- 'treadmilllaw29.ViewChains', WHERE WHAT IT READS IS OF BULK AT MOST 1048576: true; the input reads as it did. -/
def viewChainsUptoRow : OpenClaim := { program := "ytdcoflglkfbpcaa", sum := "90cf983d51fad055497f83a0272c7a10e78d4e4a59cafe2638bc962098269cba", func := "treadmill/treadmilllaw29.ViewChains", spec := "viewChains", unfollowed := true, recurses := true, apart := false, narrowed := true }
def ViewChainsUptoSaid : Prop := viewChainsUptoRow.holds Try.pinned (OpenSpec.upto viewChainsSpec)

/-- 'treadmilllaw30.AuditRules', WHERE WHAT IT READS IS OF BULK AT MOST 1048576: true; the input reads as it did. -/
def auditRulesUptoRow : OpenClaim := { program := "ytdcoflglkfbpcaa", sum := "90cf983d51fad055497f83a0272c7a10e78d4e4a59cafe2638bc962098269cba", func := "treadmill/treadmilllaw30.AuditRules", spec := "auditRules", unfollowed := true, recurses := true, apart := false, narrowed := true }
def AuditRulesUptoSaid : Prop := auditRulesUptoRow.holds Try.pinned (OpenSpec.upto auditRulesSpec)

/-- 'treadmilllaw30.AuditEach', WHERE WHAT IT READS IS OF BULK AT MOST 1048576: true; the input reads as it did. -/
def auditEachUptoRow : OpenClaim := { program := "ytdcoflglkfbpcaa", sum := "90cf983d51fad055497f83a0272c7a10e78d4e4a59cafe2638bc962098269cba", func := "treadmill/treadmilllaw30.AuditEach", spec := "auditEach", unfollowed := true, recurses := true, apart := false, narrowed := true }
def AuditEachUptoSaid : Prop := auditEachUptoRow.holds Try.pinned (OpenSpec.upto auditEachSpec)

/-- 'treadmilllaw29.ViewAsks', WHERE WHAT IT READS IS OF BULK AT MOST 1048576: true; the input reads as it did. -/
def viewAsksUptoRow : OpenClaim := { program := "ytdcoflglkfbpcaa", sum := "90cf983d51fad055497f83a0272c7a10e78d4e4a59cafe2638bc962098269cba", func := "treadmill/treadmilllaw29.ViewAsks", spec := "viewAsks", unfollowed := true, recurses := true, apart := false, narrowed := true }
def ViewAsksUptoSaid : Prop := viewAsksUptoRow.holds Try.pinned (OpenSpec.upto viewAsksSpec)

end Rows
end Go.Proofs.Ytdcoflglkfbpcaa
