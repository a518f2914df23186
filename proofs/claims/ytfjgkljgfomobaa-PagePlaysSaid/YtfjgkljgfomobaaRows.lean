/-
  No cell of these rows narrows 'for every input' (looked for: loops, veiled, ifaces, maps, wideKeys, modest, calm, conditions, laid).
  DERIVED. THE GIVEN ROWS OF THIS SEAT. 5 by the template 'for every input the law returns true; each argument reads behind the call as it read before'; 0 by the template 'total and deterministic' (their statements: YtfjgkljgfomobaaTotals.lean).
  GIVEN WITH THE SEED: the statements are not yours to turn. If you find one false, say at which input.
  Laid BY PROGRAM, IN A SANDBOX (cutbox-rows.mjs): the forced cells as the released guide's own fill.sh prints them over the translation a60f4682812be2bf… (all of the seat's roots in one cut). By AI agents, Wed Nov 11 2026. No macro, syntax, notation, axiom, sorry.
-/
import Derived.Test.YtfjgkljgfomobaaChecked
import GoSem.Claim
import GoSem.ClaimJoined
import GoSem.ClaimMapViews
import Derived.JoinedTies
import Derived.KernelRfl
namespace Go.Proofs.Ytfjgkljgfomobaa
/- THE CELL 'sum', in the pinned program and in every row, IS THE sha256 OF THE DUMP (.gsa) THAT YtfjgkljgfomobaaProg.lean LOADS. Nothing in Lean hashes anything: it is a label: what it is worth is what the hold of that sum in a sandbox is worth. -/
noncomputable def Try.pinned : Pinned := { name := "ytfjgkljgfomobaa", sum := "a60f4682812be2bfd999f861ef5e0f4571446d7fb1b5de645a8e10ab9eacbc28", checked := Try.checked }
namespace Rows
def none {H : Type} : Left H := { results := [], args := [] }

/-- 'treadmilllaw5.PageMerges': WHATEVER THE INPUT: true; the input reads as it did. -/
def pageMergesSpec : ChangeSpec := { name := "pageMerges", fn := fun _ => fun
  | [d1, d2] => { results := [.lit (.bool true)], args := [d1, d2] }
  | _ => none }
def pageMergesRow : OpenClaim := { program := "ytfjgkljgfomobaa", sum := "a60f4682812be2bfd999f861ef5e0f4571446d7fb1b5de645a8e10ab9eacbc28", func := "treadmill/treadmilllaw5.PageMerges", spec := "pageMerges", inPlace := ["slices.overlaps[treadmill/api.Run]"], unfollowed := true, recurses := true, apart := false }
def PageMergesSaid : Prop := pageMergesRow.holds Try.pinned (OpenSpec.ofChange pageMergesSpec)

/-- ITS FALSE NEIGHBOUR: 'it returns false'. Refute it at one input. -/
def pageMergesWrong : ChangeSpec := { name := "pageMerges", fn := fun _ => fun
  | [d1, d2] => { results := [.lit (.bool false)], args := [d1, d2] }
  | _ => none }
def PageMergesWrongFalsely : Prop := pageMergesRow.holds Try.pinned (OpenSpec.ofChange pageMergesWrong)

/-- 'treadmilllaw5.PagePlays': WHATEVER THE INPUT: true; the input reads as it did. -/
def pagePlaysSpec : ChangeSpec := { name := "pagePlays", fn := fun _ => fun
  | [d1, d2] => { results := [.lit (.bool true)], args := [d1, d2] }
  | _ => none }
def pagePlaysRow : OpenClaim := { program := "ytfjgkljgfomobaa", sum := "a60f4682812be2bfd999f861ef5e0f4571446d7fb1b5de645a8e10ab9eacbc28", func := "treadmill/treadmilllaw5.PagePlays", spec := "pagePlays", inPlace := ["slices.overlaps[treadmill/api.Run]"], unfollowed := true, recurses := true, apart := false }
def PagePlaysSaid : Prop := pagePlaysRow.holds Try.pinned (OpenSpec.ofChange pagePlaysSpec)

/-- ITS FALSE NEIGHBOUR: 'it returns false'. Refute it at one input. -/
def pagePlaysWrong : ChangeSpec := { name := "pagePlays", fn := fun _ => fun
  | [d1, d2] => { results := [.lit (.bool false)], args := [d1, d2] }
  | _ => none }
def PagePlaysWrongFalsely : Prop := pagePlaysRow.holds Try.pinned (OpenSpec.ofChange pagePlaysWrong)

/-- 'treadmilllaw5.PageApart': WHATEVER THE INPUT: true; the input reads as it did. -/
def pageApartSpec : ChangeSpec := { name := "pageApart", fn := fun _ => fun
  | [d1, d2] => { results := [.lit (.bool true)], args := [d1, d2] }
  | _ => none }
def pageApartRow : OpenClaim := { program := "ytfjgkljgfomobaa", sum := "a60f4682812be2bfd999f861ef5e0f4571446d7fb1b5de645a8e10ab9eacbc28", func := "treadmill/treadmilllaw5.PageApart", spec := "pageApart", inPlace := ["slices.overlaps[treadmill/api.Run]"], unfollowed := true, recurses := true, apart := false }
def PageApartSaid : Prop := pageApartRow.holds Try.pinned (OpenSpec.ofChange pageApartSpec)

/-- ITS FALSE NEIGHBOUR: 'it returns false'. Refute it at one input. -/
def pageApartWrong : ChangeSpec := { name := "pageApart", fn := fun _ => fun
  | [d1, d2] => { results := [.lit (.bool false)], args := [d1, d2] }
  | _ => none }
def PageApartWrongFalsely : Prop := pageApartRow.holds Try.pinned (OpenSpec.ofChange pageApartWrong)

/-- 'treadmilllaw5.PageBest': WHATEVER THE INPUT: true; the input reads as it did. -/
def pageBestSpec : ChangeSpec := { name := "pageBest", fn := fun _ => fun
  | [d1, d2] => { results := [.lit (.bool true)], args := [d1, d2] }
  | _ => none }
def pageBestRow : OpenClaim := { program := "ytfjgkljgfomobaa", sum := "a60f4682812be2bfd999f861ef5e0f4571446d7fb1b5de645a8e10ab9eacbc28", func := "treadmill/treadmilllaw5.PageBest", spec := "pageBest", inPlace := ["slices.overlaps[treadmill/api.Run]"], unfollowed := true, recurses := true, apart := false }
def PageBestSaid : Prop := pageBestRow.holds Try.pinned (OpenSpec.ofChange pageBestSpec)

/-- ITS FALSE NEIGHBOUR: 'it returns false'. Refute it at one input. -/
def pageBestWrong : ChangeSpec := { name := "pageBest", fn := fun _ => fun
  | [d1, d2] => { results := [.lit (.bool false)], args := [d1, d2] }
  | _ => none }
def PageBestWrongFalsely : Prop := pageBestRow.holds Try.pinned (OpenSpec.ofChange pageBestWrong)

/-- 'treadmilllaw5.PageLefts': WHATEVER THE INPUT: true; the input reads as it did. -/
def pageLeftsSpec : ChangeSpec := { name := "pageLefts", fn := fun _ => fun
  | [d1, d2] => { results := [.lit (.bool true)], args := [d1, d2] }
  | _ => none }
def pageLeftsRow : OpenClaim := { program := "ytfjgkljgfomobaa", sum := "a60f4682812be2bfd999f861ef5e0f4571446d7fb1b5de645a8e10ab9eacbc28", func := "treadmill/treadmilllaw5.PageLefts", spec := "pageLefts", inPlace := ["slices.overlaps[treadmill/api.Run]"], unfollowed := true, recurses := true, apart := false }
def PageLeftsSaid : Prop := pageLeftsRow.holds Try.pinned (OpenSpec.ofChange pageLeftsSpec)

/-- ITS FALSE NEIGHBOUR: 'it returns false'. Refute it at one input. -/
def pageLeftsWrong : ChangeSpec := { name := "pageLefts", fn := fun _ => fun
  | [d1, d2] => { results := [.lit (.bool false)], args := [d1, d2] }
  | _ => none }
def PageLeftsWrongFalsely : Prop := pageLeftsRow.holds Try.pinned (OpenSpec.ofChange pageLeftsWrong)

/- THE SECOND FORM. 'bulk': how many values and letters a reading holds, each counted each time it is reached (what is shared counts as often as it is met; a slice's spare places count too). A statement '..UptoSaid' is the law's where the arguments, and the package variables that the reading takes, are together of bulk at most 1048576: NARROWER than '..Said'. Prove '..Said' where nothing that the law and all that it calls make is longer than what came in: it says more and counts as full. Else prove '..UptoSaid'. A law counts once. -/
mutual
def uptoBulk {H : Type} : DataW H → Nat
  | .lit (.string bytes) => bytes.length + 1
  | .lit _ => 1
  | .nil => 1
  | .ptr d => uptoBulk d + 1
  | .slice elems spare => uptoBulkAll elems + uptoBulkAll spare + 1
  | .agg parts => uptoBulkAll parts + 1
  | .iface _ d => uptoBulk d + 1
  | .map entries => uptoBulkEntries entries + 1
  | .held _ => 1
def uptoBulkAll {H : Type} : List (DataW H) → Nat
  | [] => 0
  | d :: r => uptoBulk d + uptoBulkAll r
def uptoBulkEntries {H : Type} : List (Lit × DataW H) → Nat
  | [] => 0
  | x :: r => uptoBulkEntry x + uptoBulkEntries r
def uptoBulkEntry {H : Type} : Lit × DataW H → Nat
  | (.string bytes, d) => bytes.length + uptoBulk d + 1
  | (_, d) => uptoBulk d + 1
 end
def uptoSmall : (H : Type) → List (DataW H) → Bool := fun _ ds => decide (uptoBulkAll ds ≤ 1048576)
def OpenSpec.upto (s : _root_.Go.ChangeSpec) : _root_.Go.OpenSpec := { _root_.Go.OpenSpec.ofChange s with cond := some uptoSmall }

/-- 'treadmilllaw5.PageMerges', WHERE WHAT IT READS IS OF BULK AT MOST 1048576: true; the input reads as it did. -/
def pageMergesUptoRow : OpenClaim := { program := "ytfjgkljgfomobaa", sum := "a60f4682812be2bfd999f861ef5e0f4571446d7fb1b5de645a8e10ab9eacbc28", func := "treadmill/treadmilllaw5.PageMerges", spec := "pageMerges", inPlace := ["slices.overlaps[treadmill/api.Run]"], unfollowed := true, recurses := true, apart := false, narrowed := true }
def PageMergesUptoSaid : Prop := pageMergesUptoRow.holds Try.pinned (OpenSpec.upto pageMergesSpec)

/-- 'treadmilllaw5.PagePlays', WHERE WHAT IT READS IS OF BULK AT MOST 1048576: true; the input reads as it did. -/
def pagePlaysUptoRow : OpenClaim := { program := "ytfjgkljgfomobaa", sum := "a60f4682812be2bfd999f861ef5e0f4571446d7fb1b5de645a8e10ab9eacbc28", func := "treadmill/treadmilllaw5.PagePlays", spec := "pagePlays", inPlace := ["slices.overlaps[treadmill/api.Run]"], unfollowed := true, recurses := true, apart := false, narrowed := true }
def PagePlaysUptoSaid : Prop := pagePlaysUptoRow.holds Try.pinned (OpenSpec.upto pagePlaysSpec)

/-- 'treadmilllaw5.PageApart', WHERE WHAT IT READS IS OF BULK AT MOST 1048576: true; the input reads as it did. -/
def pageApartUptoRow : OpenClaim := { program := "ytfjgkljgfomobaa", sum := "a60f4682812be2bfd999f861ef5e0f4571446d7fb1b5de645a8e10ab9eacbc28", func := "treadmill/treadmilllaw5.PageApart", spec := "pageApart", inPlace := ["slices.overlaps[treadmill/api.Run]"], unfollowed := true, recurses := true, apart := false, narrowed := true }
def PageApartUptoSaid : Prop := pageApartUptoRow.holds Try.pinned (OpenSpec.upto pageApartSpec)

/-- 'treadmilllaw5.PageBest', WHERE WHAT IT READS IS OF BULK AT MOST 1048576: true; the input reads as it did. -/
def pageBestUptoRow : OpenClaim := { program := "ytfjgkljgfomobaa", sum := "a60f4682812be2bfd999f861ef5e0f4571446d7fb1b5de645a8e10ab9eacbc28", func := "treadmill/treadmilllaw5.PageBest", spec := "pageBest", inPlace := ["slices.overlaps[treadmill/api.Run]"], unfollowed := true, recurses := true, apart := false, narrowed := true }
def PageBestUptoSaid : Prop := pageBestUptoRow.holds Try.pinned (OpenSpec.upto pageBestSpec)

/-- 'treadmilllaw5.PageLefts', WHERE WHAT IT READS IS OF BULK AT MOST 1048576: true; the input reads as it did. -/
def pageLeftsUptoRow : OpenClaim := { program := "ytfjgkljgfomobaa", sum := "a60f4682812be2bfd999f861ef5e0f4571446d7fb1b5de645a8e10ab9eacbc28", func := "treadmill/treadmilllaw5.PageLefts", spec := "pageLefts", inPlace := ["slices.overlaps[treadmill/api.Run]"], unfollowed := true, recurses := true, apart := false, narrowed := true }
def PageLeftsUptoSaid : Prop := pageLeftsUptoRow.holds Try.pinned (OpenSpec.upto pageLeftsSpec)

end Rows
end Go.Proofs.Ytfjgkljgfomobaa
