/-
  No cell of these rows narrows 'for every input' (looked for: loops, veiled, ifaces, maps, wideKeys, modest, calm, conditions, laid).
  DERIVED. THE GIVEN ROWS OF THIS SEAT. 5 by the template 'for every input the law returns true; each argument reads behind the call as it read before'; 0 by the template 'total and deterministic' (their statements: YtgkibjcnehdmbaaTotals.lean).
  GIVEN WITH THE SEED: the statements are not yours to turn. If you find one false, say at which input.
  Laid BY PROGRAM, IN A SANDBOX (cutbox-rows.mjs): the forced cells as the released guide's own fill.sh prints them over the translation f4d6e4ea7cd2cb60… (all of the seat's roots in one cut). By AI agents, Wed Nov 11 2026. No macro, syntax, notation, axiom, sorry.
-/
import Derived.Test.YtgkibjcnehdmbaaChecked
import GoSem.Claim
import GoSem.ClaimJoined
import GoSem.ClaimMapViews
import Derived.JoinedTies
import Derived.KernelRfl
namespace Go.Proofs.Ytgkibjcnehdmbaa
/- THE CELL 'sum', in the pinned program and in every row, IS THE sha256 OF THE DUMP (.gsa) THAT YtgkibjcnehdmbaaProg.lean LOADS. Nothing in Lean hashes anything: it is a label: what it is worth is what the hold of that sum in a sandbox is worth. -/
noncomputable def Try.pinned : Pinned := { name := "ytgkibjcnehdmbaa", sum := "f4d6e4ea7cd2cb60c490be64a43b47ae99012a6db9d6b19ca4d9117671b8b440", checked := Try.checked }
namespace Rows
def none {H : Type} : Left H := { results := [], args := [] }

/-- 'marginalialaw19.PagerReads': WHATEVER THE INPUT: true; the input reads as it did. -/
def pagerReadsSpec : ChangeSpec := { name := "pagerReads", fn := fun _ => fun
  | [d] => { results := [.lit (.bool true)], args := [d] }
  | _ => none }
def pagerReadsRow : OpenClaim := { program := "ytgkibjcnehdmbaa", sum := "f4d6e4ea7cd2cb60c490be64a43b47ae99012a6db9d6b19ca4d9117671b8b440", func := "marginalia/marginalialaw19.PagerReads", spec := "pagerReads", unfollowed := true, recurses := true, apart := false }
def PagerReadsSaid : Prop := pagerReadsRow.holds Try.pinned (OpenSpec.ofChange pagerReadsSpec)

/-- ITS FALSE NEIGHBOUR: 'it returns false'. Refute it at one input. -/
def pagerReadsWrong : ChangeSpec := { name := "pagerReads", fn := fun _ => fun
  | [d] => { results := [.lit (.bool false)], args := [d] }
  | _ => none }
def PagerReadsWrongFalsely : Prop := pagerReadsRow.holds Try.pinned (OpenSpec.ofChange pagerReadsWrong)

/-- 'marginalialaw19.PagerNever': WHATEVER THE INPUT: true; the input reads as it did. -/
def pagerNeverSpec : ChangeSpec := { name := "pagerNever", fn := fun _ => fun
  | [d1, d2] => { results := [.lit (.bool true)], args := [d1, d2] }
  | _ => none }
def pagerNeverRow : OpenClaim := { program := "ytgkibjcnehdmbaa", sum := "f4d6e4ea7cd2cb60c490be64a43b47ae99012a6db9d6b19ca4d9117671b8b440", func := "marginalia/marginalialaw19.PagerNever", spec := "pagerNever", unfollowed := true, recurses := true, apart := false }
def PagerNeverSaid : Prop := pagerNeverRow.holds Try.pinned (OpenSpec.ofChange pagerNeverSpec)

/-- ITS FALSE NEIGHBOUR: 'it returns false'. Refute it at one input. -/
def pagerNeverWrong : ChangeSpec := { name := "pagerNever", fn := fun _ => fun
  | [d1, d2] => { results := [.lit (.bool false)], args := [d1, d2] }
  | _ => none }
def PagerNeverWrongFalsely : Prop := pagerNeverRow.holds Try.pinned (OpenSpec.ofChange pagerNeverWrong)

/-- 'marginalialaw19.PagerNil': WHATEVER THE INPUT: true; the input reads as it did. -/
def pagerNilSpec : ChangeSpec := { name := "pagerNil", fn := fun _ => fun
  | [d1, d2] => { results := [.lit (.bool true)], args := [d1, d2] }
  | _ => none }
def pagerNilRow : OpenClaim := { program := "ytgkibjcnehdmbaa", sum := "f4d6e4ea7cd2cb60c490be64a43b47ae99012a6db9d6b19ca4d9117671b8b440", func := "marginalia/marginalialaw19.PagerNil", spec := "pagerNil", unfollowed := true, recurses := true, apart := false }
def PagerNilSaid : Prop := pagerNilRow.holds Try.pinned (OpenSpec.ofChange pagerNilSpec)

/-- ITS FALSE NEIGHBOUR: 'it returns false'. Refute it at one input. -/
def pagerNilWrong : ChangeSpec := { name := "pagerNil", fn := fun _ => fun
  | [d1, d2] => { results := [.lit (.bool false)], args := [d1, d2] }
  | _ => none }
def PagerNilWrongFalsely : Prop := pagerNilRow.holds Try.pinned (OpenSpec.ofChange pagerNilWrong)

/-- 'marginalialaw19.PagerKeeps': WHATEVER THE INPUT: true; the input reads as it did. -/
def pagerKeepsSpec : ChangeSpec := { name := "pagerKeeps", fn := fun _ => fun
  | [d] => { results := [.lit (.bool true)], args := [d] }
  | _ => none }
def pagerKeepsRow : OpenClaim := { program := "ytgkibjcnehdmbaa", sum := "f4d6e4ea7cd2cb60c490be64a43b47ae99012a6db9d6b19ca4d9117671b8b440", func := "marginalia/marginalialaw19.PagerKeeps", spec := "pagerKeeps", unfollowed := true, recurses := true, apart := false }
def PagerKeepsSaid : Prop := pagerKeepsRow.holds Try.pinned (OpenSpec.ofChange pagerKeepsSpec)

/-- ITS FALSE NEIGHBOUR: 'it returns false'. Refute it at one input. -/
def pagerKeepsWrong : ChangeSpec := { name := "pagerKeeps", fn := fun _ => fun
  | [d] => { results := [.lit (.bool false)], args := [d] }
  | _ => none }
def PagerKeepsWrongFalsely : Prop := pagerKeepsRow.holds Try.pinned (OpenSpec.ofChange pagerKeepsWrong)

/-- 'marginalialaw19.PagerPlays': WHATEVER THE INPUT: true; the input reads as it did. -/
def pagerPlaysSpec : ChangeSpec := { name := "pagerPlays", fn := fun _ => fun
  | [d1, d2] => { results := [.lit (.bool true)], args := [d1, d2] }
  | _ => none }
def pagerPlaysRow : OpenClaim := { program := "ytgkibjcnehdmbaa", sum := "f4d6e4ea7cd2cb60c490be64a43b47ae99012a6db9d6b19ca4d9117671b8b440", func := "marginalia/marginalialaw19.PagerPlays", spec := "pagerPlays", unfollowed := true, recurses := true, apart := false }
def PagerPlaysSaid : Prop := pagerPlaysRow.holds Try.pinned (OpenSpec.ofChange pagerPlaysSpec)

/-- ITS FALSE NEIGHBOUR: 'it returns false'. Refute it at one input. -/
def pagerPlaysWrong : ChangeSpec := { name := "pagerPlays", fn := fun _ => fun
  | [d1, d2] => { results := [.lit (.bool false)], args := [d1, d2] }
  | _ => none }
def PagerPlaysWrongFalsely : Prop := pagerPlaysRow.holds Try.pinned (OpenSpec.ofChange pagerPlaysWrong)

/- THE SECOND FORM. 'bulk': how many values and letters a reading holds, each counted each time it is reached (what is shared counts as often as it is met; a slice's spare places count too). A statement '..UptoSaid' is the law's where the arguments, and the package variables that the reading takes, are together of bulk at most 1048576: NARROWER than '..Said'. Prove '..Said' where nothing that the law and all that it calls make is longer than what came in: it says more and counts as full. Else prove '..UptoSaid'. A law counts once. -/
mutual
def uptoBulk {H : Type} : DataW H → Nat
  | .lit (.string bytes) => bytes.length + 1
  | .lit _ => 1
  | .nil => 1
  | .ptr d => uptoBulk d + 1
  | .slice elems spare => uptoBulkAll elems + uptoBulkAll spare + 1
  | .agg parts => uptoBulkAll parts + 1
  | .iface _ d => uptoBulk d + 1
  | .map entries => uptoBulkEntries entries + 1
  | .held _ => 1
def uptoBulkAll {H : Type} : List (DataW H) → Nat
  | [] => 0
  | d :: r => uptoBulk d + uptoBulkAll r
def uptoBulkEntries {H : Type} : List (Lit × DataW H) → Nat
  | [] => 0
  | x :: r => uptoBulkEntry x + uptoBulkEntries r
def uptoBulkEntry {H : Type} : Lit × DataW H → Nat
  | (.string bytes, d) => bytes.length + uptoBulk d + 1
  | (_, d) => uptoBulk d + 1
 end
def uptoSmall : (H : Type) → List (DataW H) → Bool := fun _ ds => decide (uptoBulkAll ds ≤ 1048576)
def OpenSpec.upto (s : _root_.Go.ChangeSpec) : _root_.Go.OpenSpec := { _root_.Go.OpenSpec.ofChange s with cond := some uptoSmall }

/-- 'marginalialaw19.PagerReads', WHERE WHAT IT READS IS OF BULK AT MOST 1048576: true; the input reads as it did. -/
def pagerReadsUptoRow : OpenClaim := { program := "ytgkibjcnehdmbaa", sum := "f4d6e4ea7cd2cb60c490be64a43b47ae99012a6db9d6b19ca4d9117671b8b440", func := "marginalia/marginalialaw19.PagerReads", spec := "pagerReads", unfollowed := true, recurses := true, apart := false, narrowed := true }
def PagerReadsUptoSaid : Prop := pagerReadsUptoRow.holds Try.pinned (OpenSpec.upto pagerReadsSpec)

/-- 'marginalialaw19.PagerNever', WHERE WHAT IT READS IS OF BULK AT MOST 1048576: true; the input reads as it did. -/
def pagerNeverUptoRow : OpenClaim := { program := "ytgkibjcnehdmbaa", sum := "f4d6e4ea7cd2cb60c490be64a43b47ae99012a6db9d6b19ca4d9117671b8b440", func := "marginalia/marginalialaw19.PagerNever", spec := "pagerNever", unfollowed := true, recurses := true, apart := false, narrowed := true }
def PagerNeverUptoSaid : Prop := pagerNeverUptoRow.holds Try.pinned (OpenSpec.upto pagerNeverSpec)

/-- 'marginalialaw19.PagerNil', WHERE WHAT IT READS IS OF BULK AT MOST 1048576: true; the input reads as it did. -/
def pagerNilUptoRow : OpenClaim := { program := "ytgkibjcnehdmbaa", sum := "f4d6e4ea7cd2cb60c490be64a43b47ae99012a6db9d6b19ca4d9117671b8b440", func := "marginalia/marginalialaw19.PagerNil", spec := "pagerNil", unfollowed := true, recurses := true, apart := false, narrowed := true }
def PagerNilUptoSaid : Prop := pagerNilUptoRow.holds Try.pinned (OpenSpec.upto pagerNilSpec)

/-- 'marginalialaw19.PagerKeeps', WHERE WHAT IT READS IS OF BULK AT MOST 1048576: true; the input reads as it did. -/
def pagerKeepsUptoRow : OpenClaim := { program := "ytgkibjcnehdmbaa", sum := "f4d6e4ea7cd2cb60c490be64a43b47ae99012a6db9d6b19ca4d9117671b8b440", func := "marginalia/marginalialaw19.PagerKeeps", spec := "pagerKeeps", unfollowed := true, recurses := true, apart := false, narrowed := true }
def PagerKeepsUptoSaid : Prop := pagerKeepsUptoRow.holds Try.pinned (OpenSpec.upto pagerKeepsSpec)

/-- 'marginalialaw19.PagerPlays', WHERE WHAT IT READS IS OF BULK AT MOST 1048576: true; the input reads as it did. -/
def pagerPlaysUptoRow : OpenClaim := { program := "ytgkibjcnehdmbaa", sum := "f4d6e4ea7cd2cb60c490be64a43b47ae99012a6db9d6b19ca4d9117671b8b440", func := "marginalia/marginalialaw19.PagerPlays", spec := "pagerPlays", unfollowed := true, recurses := true, apart := false, narrowed := true }
def PagerPlaysUptoSaid : Prop := pagerPlaysUptoRow.holds Try.pinned (OpenSpec.upto pagerPlaysSpec)

end Rows
end Go.Proofs.Ytgkibjcnehdmbaa
