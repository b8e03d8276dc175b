/-
  No cell of these rows narrows 'for every input' (looked for: loops, veiled, ifaces, maps, wideKeys, modest, calm, conditions, laid).
  DERIVED. THE GIVEN ROWS OF THIS SEAT. 7 by the template 'for every input the law returns true; each argument reads behind the call as it read before'; 0 by the template 'total and deterministic' (their statements: YtpelfhldgnmhpaaTotals.lean).
  GIVEN WITH THE SEED: the statements are not yours to turn. If you find one false, say at which input.
  Laid BY PROGRAM, IN A SANDBOX (cutbox-rows.mjs): the forced cells as the released guide's own fill.sh prints them over the translation 6c3f4a176934a9dc… (all of the seat's roots in one cut). By AI agents, Wed Nov 11 2026. No macro, syntax, notation, axiom, sorry.
-/
import Derived.Test.YtpelfhldgnmhpaaChecked
import GoSem.Claim
import GoSem.ClaimJoined
import GoSem.ClaimMapViews
import Derived.JoinedTies
import Derived.KernelRfl
namespace Go.Proofs.Ytpelfhldgnmhpaa
/- THE CELL 'sum', in the pinned program and in every row, IS THE sha256 OF THE DUMP (.gsa) THAT YtpelfhldgnmhpaaProg.lean LOADS. Nothing in Lean hashes anything: it is a label: what it is worth is what the hold of that sum in a sandbox is worth. -/
noncomputable def Try.pinned : Pinned := { name := "ytpelfhldgnmhpaa", sum := "6c3f4a176934a9dc8b94447603d25a18cf022a55b043a5b772915a8f61a9f02f", checked := Try.checked }
namespace Rows
def none {H : Type} : Left H := { results := [], args := [] }

/-- 'marginalialaw04.TokenNext': WHATEVER THE INPUT: true; the input reads as it did. -/
def tokenNextSpec : ChangeSpec := { name := "tokenNext", fn := fun _ => fun
  | [d1, d2] => { results := [.lit (.bool true)], args := [d1, d2] }
  | _ => none }
def tokenNextRow : OpenClaim := { program := "ytpelfhldgnmhpaa", sum := "6c3f4a176934a9dc8b94447603d25a18cf022a55b043a5b772915a8f61a9f02f", func := "marginalia/marginalialaw04.TokenNext", spec := "tokenNext", inPlace := ["internal/bytealg.IndexByteString", "internal/bytealg.IndexString", "internal/abi.NoEscape"], unfollowed := true, recurses := true, named := ["internal/bytealg.MaxLen"], apart := false }
def TokenNextSaid : Prop := tokenNextRow.holds Try.pinned (OpenSpec.ofChange tokenNextSpec)

/-- ITS FALSE NEIGHBOUR: 'it returns false'. Refute it at one input. -/
def tokenNextWrong : ChangeSpec := { name := "tokenNext", fn := fun _ => fun
  | [d1, d2] => { results := [.lit (.bool false)], args := [d1, d2] }
  | _ => none }
def TokenNextWrongFalsely : Prop := tokenNextRow.holds Try.pinned (OpenSpec.ofChange tokenNextWrong)

/-- 'marginalialaw04.TokenAll': WHATEVER THE INPUT: true; the input reads as it did. -/
def tokenAllSpec : ChangeSpec := { name := "tokenAll", fn := fun _ => fun
  | [d] => { results := [.lit (.bool true)], args := [d] }
  | _ => none }
def tokenAllRow : OpenClaim := { program := "ytpelfhldgnmhpaa", sum := "6c3f4a176934a9dc8b94447603d25a18cf022a55b043a5b772915a8f61a9f02f", func := "marginalia/marginalialaw04.TokenAll", spec := "tokenAll", inPlace := ["internal/bytealg.IndexByteString", "internal/bytealg.IndexString", "internal/abi.NoEscape"], unfollowed := true, recurses := true, named := ["internal/bytealg.MaxLen"], apart := false }
def TokenAllSaid : Prop := tokenAllRow.holds Try.pinned (OpenSpec.ofChange tokenAllSpec)

/-- ITS FALSE NEIGHBOUR: 'it returns false'. Refute it at one input. -/
def tokenAllWrong : ChangeSpec := { name := "tokenAll", fn := fun _ => fun
  | [d] => { results := [.lit (.bool false)], args := [d] }
  | _ => none }
def TokenAllWrongFalsely : Prop := tokenAllRow.holds Try.pinned (OpenSpec.ofChange tokenAllWrong)

/-- 'marginalialaw04.TokenGet': WHATEVER THE INPUT: true; the input reads as it did. -/
def tokenGetSpec : ChangeSpec := { name := "tokenGet", fn := fun _ => fun
  | [d1, d2] => { results := [.lit (.bool true)], args := [d1, d2] }
  | _ => none }
def tokenGetRow : OpenClaim := { program := "ytpelfhldgnmhpaa", sum := "6c3f4a176934a9dc8b94447603d25a18cf022a55b043a5b772915a8f61a9f02f", func := "marginalia/marginalialaw04.TokenGet", spec := "tokenGet", inPlace := ["internal/bytealg.IndexByteString", "internal/bytealg.IndexString", "internal/abi.NoEscape"], unfollowed := true, recurses := true, named := ["internal/bytealg.MaxLen"], apart := false }
def TokenGetSaid : Prop := tokenGetRow.holds Try.pinned (OpenSpec.ofChange tokenGetSpec)

/-- ITS FALSE NEIGHBOUR: 'it returns false'. Refute it at one input. -/
def tokenGetWrong : ChangeSpec := { name := "tokenGet", fn := fun _ => fun
  | [d1, d2] => { results := [.lit (.bool false)], args := [d1, d2] }
  | _ => none }
def TokenGetWrongFalsely : Prop := tokenGetRow.holds Try.pinned (OpenSpec.ofChange tokenGetWrong)

/-- 'marginalialaw04.TokenOnward': WHATEVER THE INPUT: true; the input reads as it did. -/
def tokenOnwardSpec : ChangeSpec := { name := "tokenOnward", fn := fun _ => fun
  | [d1, d2] => { results := [.lit (.bool true)], args := [d1, d2] }
  | _ => none }
def tokenOnwardRow : OpenClaim := { program := "ytpelfhldgnmhpaa", sum := "6c3f4a176934a9dc8b94447603d25a18cf022a55b043a5b772915a8f61a9f02f", func := "marginalia/marginalialaw04.TokenOnward", spec := "tokenOnward", inPlace := ["internal/bytealg.IndexByteString", "internal/bytealg.IndexString", "internal/abi.NoEscape"], unfollowed := true, recurses := true, named := ["internal/bytealg.MaxLen"], apart := false }
def TokenOnwardSaid : Prop := tokenOnwardRow.holds Try.pinned (OpenSpec.ofChange tokenOnwardSpec)

/-- ITS FALSE NEIGHBOUR: 'it returns false'. Refute it at one input. -/
def tokenOnwardWrong : ChangeSpec := { name := "tokenOnward", fn := fun _ => fun
  | [d1, d2] => { results := [.lit (.bool false)], args := [d1, d2] }
  | _ => none }
def TokenOnwardWrongFalsely : Prop := tokenOnwardRow.holds Try.pinned (OpenSpec.ofChange tokenOnwardWrong)

/-- 'marginalialaw04.TokenBack': WHATEVER THE INPUT: true; the input reads as it did. -/
def tokenBackSpec : ChangeSpec := { name := "tokenBack", fn := fun _ => fun
  | [d1, d2] => { results := [.lit (.bool true)], args := [d1, d2] }
  | _ => none }
def tokenBackRow : OpenClaim := { program := "ytpelfhldgnmhpaa", sum := "6c3f4a176934a9dc8b94447603d25a18cf022a55b043a5b772915a8f61a9f02f", func := "marginalia/marginalialaw04.TokenBack", spec := "tokenBack", inPlace := ["internal/bytealg.IndexByteString", "internal/bytealg.IndexString", "internal/abi.NoEscape"], unfollowed := true, recurses := true, named := ["internal/bytealg.MaxLen"], apart := false }
def TokenBackSaid : Prop := tokenBackRow.holds Try.pinned (OpenSpec.ofChange tokenBackSpec)

/-- ITS FALSE NEIGHBOUR: 'it returns false'. Refute it at one input. -/
def tokenBackWrong : ChangeSpec := { name := "tokenBack", fn := fun _ => fun
  | [d1, d2] => { results := [.lit (.bool false)], args := [d1, d2] }
  | _ => none }
def TokenBackWrongFalsely : Prop := tokenBackRow.holds Try.pinned (OpenSpec.ofChange tokenBackWrong)

/-- 'marginalialaw04.TokenComment': WHATEVER THE INPUT: true; the input reads as it did. -/
def tokenCommentSpec : ChangeSpec := { name := "tokenComment", fn := fun _ => fun
  | [d1, d2] => { results := [.lit (.bool true)], args := [d1, d2] }
  | _ => none }
def tokenCommentRow : OpenClaim := { program := "ytpelfhldgnmhpaa", sum := "6c3f4a176934a9dc8b94447603d25a18cf022a55b043a5b772915a8f61a9f02f", func := "marginalia/marginalialaw04.TokenComment", spec := "tokenComment", inPlace := ["internal/bytealg.IndexByteString", "internal/bytealg.IndexString", "internal/abi.NoEscape"], unfollowed := true, recurses := true, named := ["internal/bytealg.MaxLen"], apart := false }
def TokenCommentSaid : Prop := tokenCommentRow.holds Try.pinned (OpenSpec.ofChange tokenCommentSpec)

/-- ITS FALSE NEIGHBOUR: 'it returns false'. Refute it at one input. -/
def tokenCommentWrong : ChangeSpec := { name := "tokenComment", fn := fun _ => fun
  | [d1, d2] => { results := [.lit (.bool false)], args := [d1, d2] }
  | _ => none }
def TokenCommentWrongFalsely : Prop := tokenCommentRow.holds Try.pinned (OpenSpec.ofChange tokenCommentWrong)

/-- 'marginalialaw04.TokenRaw': WHATEVER THE INPUT: true; the input reads as it did. -/
def tokenRawSpec : ChangeSpec := { name := "tokenRaw", fn := fun _ => fun
  | [d1, d2, d3] => { results := [.lit (.bool true)], args := [d1, d2, d3] }
  | _ => none }
def tokenRawRow : OpenClaim := { program := "ytpelfhldgnmhpaa", sum := "6c3f4a176934a9dc8b94447603d25a18cf022a55b043a5b772915a8f61a9f02f", func := "marginalia/marginalialaw04.TokenRaw", spec := "tokenRaw", inPlace := ["internal/bytealg.IndexByteString", "internal/bytealg.IndexString", "internal/abi.NoEscape"], unfollowed := true, recurses := true, named := ["internal/bytealg.MaxLen"], apart := false }
def TokenRawSaid : Prop := tokenRawRow.holds Try.pinned (OpenSpec.ofChange tokenRawSpec)

/-- ITS FALSE NEIGHBOUR: 'it returns false'. Refute it at one input. -/
def tokenRawWrong : ChangeSpec := { name := "tokenRaw", fn := fun _ => fun
  | [d1, d2, d3] => { results := [.lit (.bool false)], args := [d1, d2, d3] }
  | _ => none }
def TokenRawWrongFalsely : Prop := tokenRawRow.holds Try.pinned (OpenSpec.ofChange tokenRawWrong)

/- THE SECOND FORM. 'bulk': how many values and letters a reading holds, each counted each time it is reached (what is shared counts as often as it is met; a slice's spare places count too). A statement '..UptoSaid' is the law's where the arguments, and the package variables that the reading takes, are together of bulk at most 1048576: NARROWER than '..Said'. Prove '..Said' where nothing that the law and all that it calls make is longer than what came in: it says more and counts as full. Else prove '..UptoSaid'. A law counts once. -/
mutual
def uptoBulk {H : Type} : DataW H → Nat
  | .lit (.string bytes) => bytes.length + 1
  | .lit _ => 1
  | .nil => 1
  | .ptr d => uptoBulk d + 1
  | .slice elems spare => uptoBulkAll elems + uptoBulkAll spare + 1
  | .agg parts => uptoBulkAll parts + 1
  | .iface _ d => uptoBulk d + 1
  | .map entries => uptoBulkEntries entries + 1
  | .held _ => 1
def uptoBulkAll {H : Type} : List (DataW H) → Nat
  | [] => 0
  | d :: r => uptoBulk d + uptoBulkAll r
def uptoBulkEntries {H : Type} : List (Lit × DataW H) → Nat
  | [] => 0
  | x :: r => uptoBulkEntry x + uptoBulkEntries r
def uptoBulkEntry {H : Type} : Lit × DataW H → Nat
  | (.string bytes, d) => bytes.length + uptoBulk d + 1
  | (_, d) => uptoBulk d + 1
 end
def uptoSmall : (H : Type) → List (DataW H) → Bool := fun _ ds => decide (uptoBulkAll ds ≤ 1048576)
def OpenSpec.upto (s : _root_.Go.ChangeSpec) : _root_.Go.OpenSpec := { _root_.Go.OpenSpec.ofChange s with cond := some uptoSmall }

/-- 'marginalialaw04.TokenNext', WHERE WHAT IT READS IS OF BULK AT MOST 1048576: true; the input reads as it did. -/
def tokenNextUptoRow : OpenClaim := { program := "ytpelfhldgnmhpaa", sum := "6c3f4a176934a9dc8b94447603d25a18cf022a55b043a5b772915a8f61a9f02f", func := "marginalia/marginalialaw04.TokenNext", spec := "tokenNext", inPlace := ["internal/bytealg.IndexByteString", "internal/bytealg.IndexString", "internal/abi.NoEscape"], unfollowed := true, recurses := true, named := ["internal/bytealg.MaxLen"], apart := false, narrowed := true }
def TokenNextUptoSaid : Prop := tokenNextUptoRow.holds Try.pinned (OpenSpec.upto tokenNextSpec)

/-- 'marginalialaw04.TokenAll', WHERE WHAT IT READS IS OF BULK AT MOST 1048576: true; the input reads as it did. -/
def tokenAllUptoRow : OpenClaim := { program := "ytpelfhldgnmhpaa", sum := "6c3f4a176934a9dc8b94447603d25a18cf022a55b043a5b772915a8f61a9f02f", func := "marginalia/marginalialaw04.TokenAll", spec := "tokenAll", inPlace := ["internal/bytealg.IndexByteString", "internal/bytealg.IndexString", "internal/abi.NoEscape"], unfollowed := true, recurses := true, named := ["internal/bytealg.MaxLen"], apart := false, narrowed := true }
def TokenAllUptoSaid : Prop := tokenAllUptoRow.holds Try.pinned (OpenSpec.upto tokenAllSpec)

/-- 'marginalialaw04.TokenGet', WHERE WHAT IT READS IS OF BULK AT MOST 1048576: true; the input reads as it did. -/
def tokenGetUptoRow : OpenClaim := { program := "ytpelfhldgnmhpaa", sum := "6c3f4a176934a9dc8b94447603d25a18cf022a55b043a5b772915a8f61a9f02f", func := "marginalia/marginalialaw04.TokenGet", spec := "tokenGet", inPlace := ["internal/bytealg.IndexByteString", "internal/bytealg.IndexString", "internal/abi.NoEscape"], unfollowed := true, recurses := true, named := ["internal/bytealg.MaxLen"], apart := false, narrowed := true }
def TokenGetUptoSaid : Prop := tokenGetUptoRow.holds Try.pinned (OpenSpec.upto tokenGetSpec)

/-- 'marginalialaw04.TokenOnward', WHERE WHAT IT READS IS OF BULK AT MOST 1048576: true; the input reads as it did. -/
def tokenOnwardUptoRow : OpenClaim := { program := "ytpelfhldgnmhpaa", sum := "6c3f4a176934a9dc8b94447603d25a18cf022a55b043a5b772915a8f61a9f02f", func := "marginalia/marginalialaw04.TokenOnward", spec := "tokenOnward", inPlace := ["internal/bytealg.IndexByteString", "internal/bytealg.IndexString", "internal/abi.NoEscape"], unfollowed := true, recurses := true, named := ["internal/bytealg.MaxLen"], apart := false, narrowed := true }
def TokenOnwardUptoSaid : Prop := tokenOnwardUptoRow.holds Try.pinned (OpenSpec.upto tokenOnwardSpec)

/-- 'marginalialaw04.TokenBack', WHERE WHAT IT READS IS OF BULK AT MOST 1048576: true; the input reads as it did. -/
def tokenBackUptoRow : OpenClaim := { program := "ytpelfhldgnmhpaa", sum := "6c3f4a176934a9dc8b94447603d25a18cf022a55b043a5b772915a8f61a9f02f", func := "marginalia/marginalialaw04.TokenBack", spec := "tokenBack", inPlace := ["internal/bytealg.IndexByteString", "internal/bytealg.IndexString", "internal/abi.NoEscape"], unfollowed := true, recurses := true, named := ["internal/bytealg.MaxLen"], apart := false, narrowed := true }
def TokenBackUptoSaid : Prop := tokenBackUptoRow.holds Try.pinned (OpenSpec.upto tokenBackSpec)

/-- 'marginalialaw04.TokenComment', WHERE WHAT IT READS IS OF BULK AT MOST 1048576: true; the input reads as it did. -/
def tokenCommentUptoRow : OpenClaim := { program := "ytpelfhldgnmhpaa", sum := "6c3f4a176934a9dc8b94447603d25a18cf022a55b043a5b772915a8f61a9f02f", func := "marginalia/marginalialaw04.TokenComment", spec := "tokenComment", inPlace := ["internal/bytealg.IndexByteString", "internal/bytealg.IndexString", "internal/abi.NoEscape"], unfollowed := true, recurses := true, named := ["internal/bytealg.MaxLen"], apart := false, narrowed := true }
def TokenCommentUptoSaid : Prop := tokenCommentUptoRow.holds Try.pinned (OpenSpec.upto tokenCommentSpec)

/-- 'marginalialaw04.TokenRaw', WHERE WHAT IT READS IS OF BULK AT MOST 1048576: true; the input reads as it did. -/
def tokenRawUptoRow : OpenClaim := { program := "ytpelfhldgnmhpaa", sum := "6c3f4a176934a9dc8b94447603d25a18cf022a55b043a5b772915a8f61a9f02f", func := "marginalia/marginalialaw04.TokenRaw", spec := "tokenRaw", inPlace := ["internal/bytealg.IndexByteString", "internal/bytealg.IndexString", "internal/abi.NoEscape"], unfollowed := true, recurses := true, named := ["internal/bytealg.MaxLen"], apart := false, narrowed := true }
def TokenRawUptoSaid : Prop := tokenRawUptoRow.holds Try.pinned (OpenSpec.upto tokenRawSpec)

end Rows
end Go.Proofs.Ytpelfhldgnmhpaa
