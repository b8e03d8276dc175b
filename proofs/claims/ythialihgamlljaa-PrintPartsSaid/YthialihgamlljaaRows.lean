/-
  NARROWER THAN 'FOR EVERY INPUT', by the rows' own cells (each row's printed sentence says how): PrintFragment: loops · PrintParts: loops.
  DERIVED. THE GIVEN ROWS OF THIS SEAT. 11 by the template 'for every input the law returns true; each argument reads behind the call as it read before'; 0 by the template 'total and deterministic' (their statements: YthialihgamlljaaTotals.lean).
  GIVEN WITH THE SEED: the statements are not yours to turn. If you find one false, say at which input.
  Laid BY PROGRAM, IN A SANDBOX (cutbox-rows.mjs): the forced cells as the released guide's own fill.sh prints them over the translation ee7bbbe0fd8d0a84… (all of the seat's roots in one cut). By AI agents, Wed Nov 11 2026. No macro, syntax, notation, axiom, sorry.
-/
import Derived.Test.YthialihgamlljaaChecked
import GoSem.Claim
import GoSem.ClaimJoined
import GoSem.ClaimMapViews
import Derived.JoinedTies
import Derived.KernelRfl
namespace Go.Proofs.Ythialihgamlljaa
/- THE CELL 'sum', in the pinned program and in every row, IS THE sha256 OF THE DUMP (.gsa) THAT YthialihgamlljaaProg.lean LOADS. Nothing in Lean hashes anything: it is a label: what it is worth is what the hold of that sum in a sandbox is worth. -/
noncomputable def Try.pinned : Pinned := { name := "ythialihgamlljaa", sum := "ee7bbbe0fd8d0a846d3adf09aef05ee70d569c0bc47d497fd7de9a8d91184430", checked := Try.checked }
namespace Rows
def none {H : Type} : Left H := { results := [], args := [] }

/-- 'marginalialaw09.PrintFragment': WHATEVER THE INPUT: true; the input reads as it did. -/
def printFragmentSpec : ChangeSpec := { name := "printFragment", fn := fun _ => fun
  | [d] => { results := [.lit (.bool true)], args := [d] }
  | _ => none }
def printFragmentRow : OpenClaim := { program := "ythialihgamlljaa", sum := "ee7bbbe0fd8d0a846d3adf09aef05ee70d569c0bc47d497fd7de9a8d91184430", func := "marginalia/marginalialaw09.PrintFragment", spec := "printFragment", inPlace := ["internal/abi.NoEscape"], unfollowed := true, recurses := true, loops := true, apart := false }
def PrintFragmentSaid : Prop := printFragmentRow.holds Try.pinned (OpenSpec.ofChange printFragmentSpec)

/-- ITS FALSE NEIGHBOUR: 'it returns false'. Refute it at one input. -/
def printFragmentWrong : ChangeSpec := { name := "printFragment", fn := fun _ => fun
  | [d] => { results := [.lit (.bool false)], args := [d] }
  | _ => none }
def PrintFragmentWrongFalsely : Prop := printFragmentRow.holds Try.pinned (OpenSpec.ofChange printFragmentWrong)

/-- 'marginalialaw09.PrintEscape': WHATEVER THE INPUT: true; the input reads as it did. -/
def printEscapeSpec : ChangeSpec := { name := "printEscape", fn := fun _ => fun
  | [d1, d2] => { results := [.lit (.bool true)], args := [d1, d2] }
  | _ => none }
def printEscapeRow : OpenClaim := { program := "ythialihgamlljaa", sum := "ee7bbbe0fd8d0a846d3adf09aef05ee70d569c0bc47d497fd7de9a8d91184430", func := "marginalia/marginalialaw09.PrintEscape", spec := "printEscape", inPlace := ["internal/abi.NoEscape"], unfollowed := true, recurses := true, apart := false }
def PrintEscapeSaid : Prop := printEscapeRow.holds Try.pinned (OpenSpec.ofChange printEscapeSpec)

/-- ITS FALSE NEIGHBOUR: 'it returns false'. Refute it at one input. -/
def printEscapeWrong : ChangeSpec := { name := "printEscape", fn := fun _ => fun
  | [d1, d2] => { results := [.lit (.bool false)], args := [d1, d2] }
  | _ => none }
def PrintEscapeWrongFalsely : Prop := printEscapeRow.holds Try.pinned (OpenSpec.ofChange printEscapeWrong)

/-- 'marginalialaw09.PrintParts': WHATEVER THE INPUT: true; the input reads as it did. -/
def printPartsSpec : ChangeSpec := { name := "printParts", fn := fun _ => fun
  | [d1, d2] => { results := [.lit (.bool true)], args := [d1, d2] }
  | _ => none }
def printPartsRow : OpenClaim := { program := "ythialihgamlljaa", sum := "ee7bbbe0fd8d0a846d3adf09aef05ee70d569c0bc47d497fd7de9a8d91184430", func := "marginalia/marginalialaw09.PrintParts", spec := "printParts", inPlace := ["internal/abi.NoEscape"], unfollowed := true, recurses := true, loops := true, apart := false }
def PrintPartsSaid : Prop := printPartsRow.holds Try.pinned (OpenSpec.ofChange printPartsSpec)

/-- ITS FALSE NEIGHBOUR: 'it returns false'. Refute it at one input. -/
def printPartsWrong : ChangeSpec := { name := "printParts", fn := fun _ => fun
  | [d1, d2] => { results := [.lit (.bool false)], args := [d1, d2] }
  | _ => none }
def PrintPartsWrongFalsely : Prop := printPartsRow.holds Try.pinned (OpenSpec.ofChange printPartsWrong)

/-- 'marginalialaw03.CharrefNamed': WHATEVER THE INPUT: true; the input reads as it did. -/
def charrefNamedSpec : ChangeSpec := { name := "charrefNamed", fn := fun _ => fun
  | [d] => { results := [.lit (.bool true)], args := [d] }
  | _ => none }
def charrefNamedRow : OpenClaim := { program := "ythialihgamlljaa", sum := "ee7bbbe0fd8d0a846d3adf09aef05ee70d569c0bc47d497fd7de9a8d91184430", func := "marginalia/marginalialaw03.CharrefNamed", spec := "charrefNamed", inPlace := ["internal/bytealg.IndexByteString", "internal/abi.NoEscape"], apart := false }
def CharrefNamedSaid : Prop := charrefNamedRow.holds Try.pinned (OpenSpec.ofChange charrefNamedSpec)

/-- ITS FALSE NEIGHBOUR: 'it returns false'. Refute it at one input. -/
def charrefNamedWrong : ChangeSpec := { name := "charrefNamed", fn := fun _ => fun
  | [d] => { results := [.lit (.bool false)], args := [d] }
  | _ => none }
def CharrefNamedWrongFalsely : Prop := charrefNamedRow.holds Try.pinned (OpenSpec.ofChange charrefNamedWrong)

/-- 'marginalialaw03.CharrefNumber': WHATEVER THE INPUT: true; the input reads as it did. -/
def charrefNumberSpec : ChangeSpec := { name := "charrefNumber", fn := fun _ => fun
  | [d] => { results := [.lit (.bool true)], args := [d] }
  | _ => none }
def charrefNumberRow : OpenClaim := { program := "ythialihgamlljaa", sum := "ee7bbbe0fd8d0a846d3adf09aef05ee70d569c0bc47d497fd7de9a8d91184430", func := "marginalia/marginalialaw03.CharrefNumber", spec := "charrefNumber", inPlace := ["internal/bytealg.IndexByteString", "internal/abi.NoEscape"], apart := false }
def CharrefNumberSaid : Prop := charrefNumberRow.holds Try.pinned (OpenSpec.ofChange charrefNumberSpec)

/-- ITS FALSE NEIGHBOUR: 'it returns false'. Refute it at one input. -/
def charrefNumberWrong : ChangeSpec := { name := "charrefNumber", fn := fun _ => fun
  | [d] => { results := [.lit (.bool false)], args := [d] }
  | _ => none }
def CharrefNumberWrongFalsely : Prop := charrefNumberRow.holds Try.pinned (OpenSpec.ofChange charrefNumberWrong)

/-- 'marginalialaw03.CharrefAt': WHATEVER THE INPUT: true; the input reads as it did. -/
def charrefAtSpec : ChangeSpec := { name := "charrefAt", fn := fun _ => fun
  | [d1, d2, d3] => { results := [.lit (.bool true)], args := [d1, d2, d3] }
  | _ => none }
def charrefAtRow : OpenClaim := { program := "ythialihgamlljaa", sum := "ee7bbbe0fd8d0a846d3adf09aef05ee70d569c0bc47d497fd7de9a8d91184430", func := "marginalia/marginalialaw03.CharrefAt", spec := "charrefAt", inPlace := ["internal/bytealg.IndexByteString", "internal/abi.NoEscape"], apart := false }
def CharrefAtSaid : Prop := charrefAtRow.holds Try.pinned (OpenSpec.ofChange charrefAtSpec)

/-- ITS FALSE NEIGHBOUR: 'it returns false'. Refute it at one input. -/
def charrefAtWrong : ChangeSpec := { name := "charrefAt", fn := fun _ => fun
  | [d1, d2, d3] => { results := [.lit (.bool false)], args := [d1, d2, d3] }
  | _ => none }
def CharrefAtWrongFalsely : Prop := charrefAtRow.holds Try.pinned (OpenSpec.ofChange charrefAtWrong)

/-- 'marginalialaw03.CharrefDecode': WHATEVER THE INPUT: true; the input reads as it did. -/
def charrefDecodeSpec : ChangeSpec := { name := "charrefDecode", fn := fun _ => fun
  | [d1, d2] => { results := [.lit (.bool true)], args := [d1, d2] }
  | _ => none }
def charrefDecodeRow : OpenClaim := { program := "ythialihgamlljaa", sum := "ee7bbbe0fd8d0a846d3adf09aef05ee70d569c0bc47d497fd7de9a8d91184430", func := "marginalia/marginalialaw03.CharrefDecode", spec := "charrefDecode", inPlace := ["internal/bytealg.IndexByteString", "internal/abi.NoEscape"], apart := false }
def CharrefDecodeSaid : Prop := charrefDecodeRow.holds Try.pinned (OpenSpec.ofChange charrefDecodeSpec)

/-- ITS FALSE NEIGHBOUR: 'it returns false'. Refute it at one input. -/
def charrefDecodeWrong : ChangeSpec := { name := "charrefDecode", fn := fun _ => fun
  | [d1, d2] => { results := [.lit (.bool false)], args := [d1, d2] }
  | _ => none }
def CharrefDecodeWrongFalsely : Prop := charrefDecodeRow.holds Try.pinned (OpenSpec.ofChange charrefDecodeWrong)

/-- 'marginalialaw03.CharrefBack': WHATEVER THE INPUT: true; the input reads as it did. -/
def charrefBackSpec : ChangeSpec := { name := "charrefBack", fn := fun _ => fun
  | [d1, d2] => { results := [.lit (.bool true)], args := [d1, d2] }
  | _ => none }
def charrefBackRow : OpenClaim := { program := "ythialihgamlljaa", sum := "ee7bbbe0fd8d0a846d3adf09aef05ee70d569c0bc47d497fd7de9a8d91184430", func := "marginalia/marginalialaw03.CharrefBack", spec := "charrefBack", inPlace := ["internal/bytealg.IndexByteString", "internal/abi.NoEscape"], apart := false }
def CharrefBackSaid : Prop := charrefBackRow.holds Try.pinned (OpenSpec.ofChange charrefBackSpec)

/-- ITS FALSE NEIGHBOUR: 'it returns false'. Refute it at one input. -/
def charrefBackWrong : ChangeSpec := { name := "charrefBack", fn := fun _ => fun
  | [d1, d2] => { results := [.lit (.bool false)], args := [d1, d2] }
  | _ => none }
def CharrefBackWrongFalsely : Prop := charrefBackRow.holds Try.pinned (OpenSpec.ofChange charrefBackWrong)

/-- 'marginalialaw03.CharrefParts': WHATEVER THE INPUT: true; the input reads as it did. -/
def charrefPartsSpec : ChangeSpec := { name := "charrefParts", fn := fun _ => fun
  | [d1, d2, d3] => { results := [.lit (.bool true)], args := [d1, d2, d3] }
  | _ => none }
def charrefPartsRow : OpenClaim := { program := "ythialihgamlljaa", sum := "ee7bbbe0fd8d0a846d3adf09aef05ee70d569c0bc47d497fd7de9a8d91184430", func := "marginalia/marginalialaw03.CharrefParts", spec := "charrefParts", inPlace := ["internal/bytealg.IndexByteString", "internal/abi.NoEscape"], apart := false }
def CharrefPartsSaid : Prop := charrefPartsRow.holds Try.pinned (OpenSpec.ofChange charrefPartsSpec)

/-- ITS FALSE NEIGHBOUR: 'it returns false'. Refute it at one input. -/
def charrefPartsWrong : ChangeSpec := { name := "charrefParts", fn := fun _ => fun
  | [d1, d2, d3] => { results := [.lit (.bool false)], args := [d1, d2, d3] }
  | _ => none }
def CharrefPartsWrongFalsely : Prop := charrefPartsRow.holds Try.pinned (OpenSpec.ofChange charrefPartsWrong)

/-- 'marginalialaw03.CharrefOne': WHATEVER THE INPUT: true; the input reads as it did. -/
def charrefOneSpec : ChangeSpec := { name := "charrefOne", fn := fun _ => fun
  | [d1, d2, d3] => { results := [.lit (.bool true)], args := [d1, d2, d3] }
  | _ => none }
def charrefOneRow : OpenClaim := { program := "ythialihgamlljaa", sum := "ee7bbbe0fd8d0a846d3adf09aef05ee70d569c0bc47d497fd7de9a8d91184430", func := "marginalia/marginalialaw03.CharrefOne", spec := "charrefOne", inPlace := ["internal/bytealg.IndexByteString", "internal/abi.NoEscape"], apart := false }
def CharrefOneSaid : Prop := charrefOneRow.holds Try.pinned (OpenSpec.ofChange charrefOneSpec)

/-- ITS FALSE NEIGHBOUR: 'it returns false'. Refute it at one input. -/
def charrefOneWrong : ChangeSpec := { name := "charrefOne", fn := fun _ => fun
  | [d1, d2, d3] => { results := [.lit (.bool false)], args := [d1, d2, d3] }
  | _ => none }
def CharrefOneWrongFalsely : Prop := charrefOneRow.holds Try.pinned (OpenSpec.ofChange charrefOneWrong)

/-- 'marginalialaw09.PrintBack': WHATEVER THE INPUT: true; the input reads as it did. -/
def printBackSpec : ChangeSpec := { name := "printBack", fn := fun _ => fun
  | [d1, d2] => { results := [.lit (.bool true)], args := [d1, d2] }
  | _ => none }
def printBackRow : OpenClaim := { program := "ythialihgamlljaa", sum := "ee7bbbe0fd8d0a846d3adf09aef05ee70d569c0bc47d497fd7de9a8d91184430", func := "marginalia/marginalialaw09.PrintBack", spec := "printBack", inPlace := ["internal/abi.NoEscape", "internal/bytealg.IndexByteString"], unfollowed := true, recurses := true, apart := false }
def PrintBackSaid : Prop := printBackRow.holds Try.pinned (OpenSpec.ofChange printBackSpec)

/-- ITS FALSE NEIGHBOUR: 'it returns false'. Refute it at one input. -/
def printBackWrong : ChangeSpec := { name := "printBack", fn := fun _ => fun
  | [d1, d2] => { results := [.lit (.bool false)], args := [d1, d2] }
  | _ => none }
def PrintBackWrongFalsely : Prop := printBackRow.holds Try.pinned (OpenSpec.ofChange printBackWrong)

/- THE SECOND FORM. 'bulk': how many values and letters a reading holds, each counted each time it is reached (what is shared counts as often as it is met; a slice's spare places count too). A statement '..UptoSaid' is the law's where the arguments, and the package variables that the reading takes, are together of bulk at most 1048576: NARROWER than '..Said'. Prove '..Said' where nothing that the law and all that it calls make is longer than what came in: it says more and counts as full. Else prove '..UptoSaid'. A law counts once. -/
mutual
def uptoBulk {H : Type} : DataW H → Nat
  | .lit (.string bytes) => bytes.length + 1
  | .lit _ => 1
  | .nil => 1
  | .ptr d => uptoBulk d + 1
  | .slice elems spare => uptoBulkAll elems + uptoBulkAll spare + 1
  | .agg parts => uptoBulkAll parts + 1
  | .iface _ d => uptoBulk d + 1
  | .map entries => uptoBulkEntries entries + 1
  | .held _ => 1
def uptoBulkAll {H : Type} : List (DataW H) → Nat
  | [] => 0
  | d :: r => uptoBulk d + uptoBulkAll r
def uptoBulkEntries {H : Type} : List (Lit × DataW H) → Nat
  | [] => 0
  | x :: r => uptoBulkEntry x + uptoBulkEntries r
def uptoBulkEntry {H : Type} : Lit × DataW H → Nat
  | (.string bytes, d) => bytes.length + uptoBulk d + 1
  | (_, d) => uptoBulk d + 1
 end
def uptoSmall : (H : Type) → List (DataW H) → Bool := fun _ ds => decide (uptoBulkAll ds ≤ 1048576)
def OpenSpec.upto (s : _root_.Go.ChangeSpec) : _root_.Go.OpenSpec := { _root_.Go.OpenSpec.ofChange s with cond := some uptoSmall }

/-- 'marginalialaw09.PrintFragment', WHERE WHAT IT READS IS OF BULK AT MOST 1048576: true; the input reads as it did. -/
def printFragmentUptoRow : OpenClaim := { program := "ythialihgamlljaa", sum := "ee7bbbe0fd8d0a846d3adf09aef05ee70d569c0bc47d497fd7de9a8d91184430", func := "marginalia/marginalialaw09.PrintFragment", spec := "printFragment", inPlace := ["internal/abi.NoEscape"], unfollowed := true, recurses := true, loops := true, apart := false, narrowed := true }
def PrintFragmentUptoSaid : Prop := printFragmentUptoRow.holds Try.pinned (OpenSpec.upto printFragmentSpec)

/-- 'marginalialaw09.PrintEscape', WHERE WHAT IT READS IS OF BULK AT MOST 1048576: true; the input reads as it did. -/
def printEscapeUptoRow : OpenClaim := { program := "ythialihgamlljaa", sum := "ee7bbbe0fd8d0a846d3adf09aef05ee70d569c0bc47d497fd7de9a8d91184430", func := "marginalia/marginalialaw09.PrintEscape", spec := "printEscape", inPlace := ["internal/abi.NoEscape"], unfollowed := true, recurses := true, apart := false, narrowed := true }
def PrintEscapeUptoSaid : Prop := printEscapeUptoRow.holds Try.pinned (OpenSpec.upto printEscapeSpec)

/-- 'marginalialaw09.PrintParts', WHERE WHAT IT READS IS OF BULK AT MOST 1048576: true; the input reads as it did. -/
def printPartsUptoRow : OpenClaim := { program := "ythialihgamlljaa", sum := "ee7bbbe0fd8d0a846d3adf09aef05ee70d569c0bc47d497fd7de9a8d91184430", func := "marginalia/marginalialaw09.PrintParts", spec := "printParts", inPlace := ["internal/abi.NoEscape"], unfollowed := true, recurses := true, loops := true, apart := false, narrowed := true }
def PrintPartsUptoSaid : Prop := printPartsUptoRow.holds Try.pinned (OpenSpec.upto printPartsSpec)

/-- 'marginalialaw03.CharrefNamed', WHERE WHAT IT READS IS OF BULK AT MOST 1048576: true; the input reads as it did. -/
def charrefNamedUptoRow : OpenClaim := { program := "ythialihgamlljaa", sum := "ee7bbbe0fd8d0a846d3adf09aef05ee70d569c0bc47d497fd7de9a8d91184430", func := "marginalia/marginalialaw03.CharrefNamed", spec := "charrefNamed", inPlace := ["internal/bytealg.IndexByteString", "internal/abi.NoEscape"], apart := false, narrowed := true }
def CharrefNamedUptoSaid : Prop := charrefNamedUptoRow.holds Try.pinned (OpenSpec.upto charrefNamedSpec)

/-- 'marginalialaw03.CharrefNumber', WHERE WHAT IT READS IS OF BULK AT MOST 1048576: true; the input reads as it did. -/
def charrefNumberUptoRow : OpenClaim := { program := "ythialihgamlljaa", sum := "ee7bbbe0fd8d0a846d3adf09aef05ee70d569c0bc47d497fd7de9a8d91184430", func := "marginalia/marginalialaw03.CharrefNumber", spec := "charrefNumber", inPlace := ["internal/bytealg.IndexByteString", "internal/abi.NoEscape"], apart := false, narrowed := true }
def CharrefNumberUptoSaid : Prop := charrefNumberUptoRow.holds Try.pinned (OpenSpec.upto charrefNumberSpec)

/-- 'marginalialaw03.CharrefAt', WHERE WHAT IT READS IS OF BULK AT MOST 1048576: true; the input reads as it did. -/
def charrefAtUptoRow : OpenClaim := { program := "ythialihgamlljaa", sum := "ee7bbbe0fd8d0a846d3adf09aef05ee70d569c0bc47d497fd7de9a8d91184430", func := "marginalia/marginalialaw03.CharrefAt", spec := "charrefAt", inPlace := ["internal/bytealg.IndexByteString", "internal/abi.NoEscape"], apart := false, narrowed := true }
def CharrefAtUptoSaid : Prop := charrefAtUptoRow.holds Try.pinned (OpenSpec.upto charrefAtSpec)

/-- 'marginalialaw03.CharrefDecode', WHERE WHAT IT READS IS OF BULK AT MOST 1048576: true; the input reads as it did. -/
def charrefDecodeUptoRow : OpenClaim := { program := "ythialihgamlljaa", sum := "ee7bbbe0fd8d0a846d3adf09aef05ee70d569c0bc47d497fd7de9a8d91184430", func := "marginalia/marginalialaw03.CharrefDecode", spec := "charrefDecode", inPlace := ["internal/bytealg.IndexByteString", "internal/abi.NoEscape"], apart := false, narrowed := true }
def CharrefDecodeUptoSaid : Prop := charrefDecodeUptoRow.holds Try.pinned (OpenSpec.upto charrefDecodeSpec)

/-- 'marginalialaw03.CharrefBack', WHERE WHAT IT READS IS OF BULK AT MOST 1048576: true; the input reads as it did. -/
def charrefBackUptoRow : OpenClaim := { program := "ythialihgamlljaa", sum := "ee7bbbe0fd8d0a846d3adf09aef05ee70d569c0bc47d497fd7de9a8d91184430", func := "marginalia/marginalialaw03.CharrefBack", spec := "charrefBack", inPlace := ["internal/bytealg.IndexByteString", "internal/abi.NoEscape"], apart := false, narrowed := true }
def CharrefBackUptoSaid : Prop := charrefBackUptoRow.holds Try.pinned (OpenSpec.upto charrefBackSpec)

/-- 'marginalialaw03.CharrefParts', WHERE WHAT IT READS IS OF BULK AT MOST 1048576: true; the input reads as it did. -/
def charrefPartsUptoRow : OpenClaim := { program := "ythialihgamlljaa", sum := "ee7bbbe0fd8d0a846d3adf09aef05ee70d569c0bc47d497fd7de9a8d91184430", func := "marginalia/marginalialaw03.CharrefParts", spec := "charrefParts", inPlace := ["internal/bytealg.IndexByteString", "internal/abi.NoEscape"], apart := false, narrowed := true }
def CharrefPartsUptoSaid : Prop := charrefPartsUptoRow.holds Try.pinned (OpenSpec.upto charrefPartsSpec)

/-- 'marginalialaw03.CharrefOne', WHERE WHAT IT READS IS OF BULK AT MOST 1048576: true; the input reads as it did. -/
def charrefOneUptoRow : OpenClaim := { program := "ythialihgamlljaa", sum := "ee7bbbe0fd8d0a846d3adf09aef05ee70d569c0bc47d497fd7de9a8d91184430", func := "marginalia/marginalialaw03.CharrefOne", spec := "charrefOne", inPlace := ["internal/bytealg.IndexByteString", "internal/abi.NoEscape"], apart := false, narrowed := true }
def CharrefOneUptoSaid : Prop := charrefOneUptoRow.holds Try.pinned (OpenSpec.upto charrefOneSpec)

/-- 'marginalialaw09.PrintBack', WHERE WHAT IT READS IS OF BULK AT MOST 1048576: true; the input reads as it did. -/
def printBackUptoRow : OpenClaim := { program := "ythialihgamlljaa", sum := "ee7bbbe0fd8d0a846d3adf09aef05ee70d569c0bc47d497fd7de9a8d91184430", func := "marginalia/marginalialaw09.PrintBack", spec := "printBack", inPlace := ["internal/abi.NoEscape", "internal/bytealg.IndexByteString"], unfollowed := true, recurses := true, apart := false, narrowed := true }
def PrintBackUptoSaid : Prop := printBackUptoRow.holds Try.pinned (OpenSpec.upto printBackSpec)

end Rows
end Go.Proofs.Ythialihgamlljaa
