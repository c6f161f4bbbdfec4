/-
  NARROWER THAN 'FOR EVERY INPUT', by the rows' own cells (each row's printed sentence says how): FnExactSameOpen: loops · FnExactHangDoc: loops · FnExactWithoutGroups: loops · FnExactBracketDoc: loops · FnExactPunctuateDocs: loops · FnExactStackDocs: loops · FnExactSepDocs: loops · FnExactFillDocs: loops · FnExactValDoc: loops.
  DERIVED. THE GIVEN ROWS OF THIS SEAT. 11 by the template 'for every input the law returns true; each argument reads behind the call as it read before'; 0 by the template 'total and deterministic' (their statements: YtkcienioaodnbaaTotals.lean).
  GIVEN WITH THE SEED: the statements are not yours to turn. If you find one false, say at which input.
  Laid BY PROGRAM, IN A SANDBOX (cutbox-rows.mjs): the forced cells as the released guide's own fill.sh prints them over the translation ecc3547e96db3da3… (all of the seat's roots in one cut). By AI agents, Wed Nov 11 2026. No macro, syntax, notation, axiom, sorry.
-/
import Derived.Test.YtkcienioaodnbaaChecked
import GoSem.Claim
import GoSem.ClaimJoined
import GoSem.ClaimMapViews
import Derived.JoinedTies
import Derived.KernelRfl
namespace Go.Proofs.Ytkcienioaodnbaa
/- THE CELL 'sum', in the pinned program and in every row, IS THE sha256 OF THE DUMP (.gsa) THAT YtkcienioaodnbaaProg.lean LOADS. Nothing in Lean hashes anything: it is a label: what it is worth is what the hold of that sum in a sandbox is worth. -/
noncomputable def Try.pinned : Pinned := { name := "ytkcienioaodnbaa", sum := "ecc3547e96db3da32853d07b69457bddb07830989d3240cd1522dea65f537960", checked := Try.checked }
namespace Rows
def none {H : Type} : Left H := { results := [], args := [] }

/-- 'laws.FnExactRepeatText': WHATEVER THE INPUT: true; the input reads as it did. -/
def fnExactRepeatTextSpec : ChangeSpec := { name := "fnExactRepeatText", fn := fun _ => fun
  | [d1, d2] => { results := [.lit (.bool true)], args := [d1, d2] }
  | _ => none }
def fnExactRepeatTextRow : OpenClaim := { program := "ytkcienioaodnbaa", sum := "ecc3547e96db3da32853d07b69457bddb07830989d3240cd1522dea65f537960", func := "loop.example/docalgebra/laws.FnExactRepeatText", spec := "fnExactRepeatText", inPlace := ["internal/bytealg.IndexByteString"], recurses := true, apart := false }
def FnExactRepeatTextSaid : Prop := fnExactRepeatTextRow.holds Try.pinned (OpenSpec.ofChange fnExactRepeatTextSpec)

/-- ITS FALSE NEIGHBOUR: 'it returns false'. Refute it at one input. -/
def fnExactRepeatTextWrong : ChangeSpec := { name := "fnExactRepeatText", fn := fun _ => fun
  | [d1, d2] => { results := [.lit (.bool false)], args := [d1, d2] }
  | _ => none }
def FnExactRepeatTextWrongFalsely : Prop := fnExactRepeatTextRow.holds Try.pinned (OpenSpec.ofChange fnExactRepeatTextWrong)

/-- 'laws.FnExactSameOpen': WHATEVER THE INPUT: true; the input reads as it did. -/
def fnExactSameOpenSpec : ChangeSpec := { name := "fnExactSameOpen", fn := fun _ => fun
  | [d1, d2] => { results := [.lit (.bool true)], args := [d1, d2] }
  | _ => none }
def fnExactSameOpenRow : OpenClaim := { program := "ytkcienioaodnbaa", sum := "ecc3547e96db3da32853d07b69457bddb07830989d3240cd1522dea65f537960", func := "loop.example/docalgebra/laws.FnExactSameOpen", spec := "fnExactSameOpen", inPlace := ["internal/bytealg.IndexByteString"], recurses := true, loops := true, apart := false }
def FnExactSameOpenSaid : Prop := fnExactSameOpenRow.holds Try.pinned (OpenSpec.ofChange fnExactSameOpenSpec)

/-- ITS FALSE NEIGHBOUR: 'it returns false'. Refute it at one input. -/
def fnExactSameOpenWrong : ChangeSpec := { name := "fnExactSameOpen", fn := fun _ => fun
  | [d1, d2] => { results := [.lit (.bool false)], args := [d1, d2] }
  | _ => none }
def FnExactSameOpenWrongFalsely : Prop := fnExactSameOpenRow.holds Try.pinned (OpenSpec.ofChange fnExactSameOpenWrong)

/-- 'laws.FnExactHangDoc': WHATEVER THE INPUT: true; the input reads as it did. -/
def fnExactHangDocSpec : ChangeSpec := { name := "fnExactHangDoc", fn := fun _ => fun
  | [d1, d2, d3] => { results := [.lit (.bool true)], args := [d1, d2, d3] }
  | _ => none }
def fnExactHangDocRow : OpenClaim := { program := "ytkcienioaodnbaa", sum := "ecc3547e96db3da32853d07b69457bddb07830989d3240cd1522dea65f537960", func := "loop.example/docalgebra/laws.FnExactHangDoc", spec := "fnExactHangDoc", inPlace := ["internal/bytealg.IndexByteString"], recurses := true, loops := true, apart := false }
def FnExactHangDocSaid : Prop := fnExactHangDocRow.holds Try.pinned (OpenSpec.ofChange fnExactHangDocSpec)

/-- ITS FALSE NEIGHBOUR: 'it returns false'. Refute it at one input. -/
def fnExactHangDocWrong : ChangeSpec := { name := "fnExactHangDoc", fn := fun _ => fun
  | [d1, d2, d3] => { results := [.lit (.bool false)], args := [d1, d2, d3] }
  | _ => none }
def FnExactHangDocWrongFalsely : Prop := fnExactHangDocRow.holds Try.pinned (OpenSpec.ofChange fnExactHangDocWrong)

/-- 'laws.FnExactWithoutGroups': WHATEVER THE INPUT: true; the input reads as it did. -/
def fnExactWithoutGroupsSpec : ChangeSpec := { name := "fnExactWithoutGroups", fn := fun _ => fun
  | [d] => { results := [.lit (.bool true)], args := [d] }
  | _ => none }
def fnExactWithoutGroupsRow : OpenClaim := { program := "ytkcienioaodnbaa", sum := "ecc3547e96db3da32853d07b69457bddb07830989d3240cd1522dea65f537960", func := "loop.example/docalgebra/laws.FnExactWithoutGroups", spec := "fnExactWithoutGroups", inPlace := ["internal/bytealg.IndexByteString"], unfollowed := true, recurses := true, loops := true, apart := false }
def FnExactWithoutGroupsSaid : Prop := fnExactWithoutGroupsRow.holds Try.pinned (OpenSpec.ofChange fnExactWithoutGroupsSpec)

/-- ITS FALSE NEIGHBOUR: 'it returns false'. Refute it at one input. -/
def fnExactWithoutGroupsWrong : ChangeSpec := { name := "fnExactWithoutGroups", fn := fun _ => fun
  | [d] => { results := [.lit (.bool false)], args := [d] }
  | _ => none }
def FnExactWithoutGroupsWrongFalsely : Prop := fnExactWithoutGroupsRow.holds Try.pinned (OpenSpec.ofChange fnExactWithoutGroupsWrong)

/-- 'laws.FnExactBracketDoc': WHATEVER THE INPUT: true; the input reads as it did. -/
def fnExactBracketDocSpec : ChangeSpec := { name := "fnExactBracketDoc", fn := fun _ => fun
  | [d1, d2, d3, d4] => { results := [.lit (.bool true)], args := [d1, d2, d3, d4] }
  | _ => none }
def fnExactBracketDocRow : OpenClaim := { program := "ytkcienioaodnbaa", sum := "ecc3547e96db3da32853d07b69457bddb07830989d3240cd1522dea65f537960", func := "loop.example/docalgebra/laws.FnExactBracketDoc", spec := "fnExactBracketDoc", inPlace := ["internal/bytealg.IndexByteString"], recurses := true, loops := true, apart := false }
def FnExactBracketDocSaid : Prop := fnExactBracketDocRow.holds Try.pinned (OpenSpec.ofChange fnExactBracketDocSpec)

/-- ITS FALSE NEIGHBOUR: 'it returns false'. Refute it at one input. -/
def fnExactBracketDocWrong : ChangeSpec := { name := "fnExactBracketDoc", fn := fun _ => fun
  | [d1, d2, d3, d4] => { results := [.lit (.bool false)], args := [d1, d2, d3, d4] }
  | _ => none }
def FnExactBracketDocWrongFalsely : Prop := fnExactBracketDocRow.holds Try.pinned (OpenSpec.ofChange fnExactBracketDocWrong)

/-- 'laws.FnExactPunctuateDocs': WHATEVER THE INPUT: true; the input reads as it did. -/
def fnExactPunctuateDocsSpec : ChangeSpec := { name := "fnExactPunctuateDocs", fn := fun _ => fun
  | [d1, d2] => { results := [.lit (.bool true)], args := [d1, d2] }
  | _ => none }
def fnExactPunctuateDocsRow : OpenClaim := { program := "ytkcienioaodnbaa", sum := "ecc3547e96db3da32853d07b69457bddb07830989d3240cd1522dea65f537960", func := "loop.example/docalgebra/laws.FnExactPunctuateDocs", spec := "fnExactPunctuateDocs", inPlace := ["internal/bytealg.IndexByteString"], recurses := true, loops := true, apart := false }
def FnExactPunctuateDocsSaid : Prop := fnExactPunctuateDocsRow.holds Try.pinned (OpenSpec.ofChange fnExactPunctuateDocsSpec)

/-- ITS FALSE NEIGHBOUR: 'it returns false'. Refute it at one input. -/
def fnExactPunctuateDocsWrong : ChangeSpec := { name := "fnExactPunctuateDocs", fn := fun _ => fun
  | [d1, d2] => { results := [.lit (.bool false)], args := [d1, d2] }
  | _ => none }
def FnExactPunctuateDocsWrongFalsely : Prop := fnExactPunctuateDocsRow.holds Try.pinned (OpenSpec.ofChange fnExactPunctuateDocsWrong)

/-- 'laws.FnExactStackDocs': WHATEVER THE INPUT: true; the input reads as it did. -/
def fnExactStackDocsSpec : ChangeSpec := { name := "fnExactStackDocs", fn := fun _ => fun
  | [d] => { results := [.lit (.bool true)], args := [d] }
  | _ => none }
def fnExactStackDocsRow : OpenClaim := { program := "ytkcienioaodnbaa", sum := "ecc3547e96db3da32853d07b69457bddb07830989d3240cd1522dea65f537960", func := "loop.example/docalgebra/laws.FnExactStackDocs", spec := "fnExactStackDocs", inPlace := ["internal/bytealg.IndexByteString"], recurses := true, loops := true, apart := false }
def FnExactStackDocsSaid : Prop := fnExactStackDocsRow.holds Try.pinned (OpenSpec.ofChange fnExactStackDocsSpec)

/-- ITS FALSE NEIGHBOUR: 'it returns false'. Refute it at one input. -/
def fnExactStackDocsWrong : ChangeSpec := { name := "fnExactStackDocs", fn := fun _ => fun
  | [d] => { results := [.lit (.bool false)], args := [d] }
  | _ => none }
def FnExactStackDocsWrongFalsely : Prop := fnExactStackDocsRow.holds Try.pinned (OpenSpec.ofChange fnExactStackDocsWrong)

/-- 'laws.FnExactSepDocs': WHATEVER THE INPUT: true; the input reads as it did. -/
def fnExactSepDocsSpec : ChangeSpec := { name := "fnExactSepDocs", fn := fun _ => fun
  | [d] => { results := [.lit (.bool true)], args := [d] }
  | _ => none }
def fnExactSepDocsRow : OpenClaim := { program := "ytkcienioaodnbaa", sum := "ecc3547e96db3da32853d07b69457bddb07830989d3240cd1522dea65f537960", func := "loop.example/docalgebra/laws.FnExactSepDocs", spec := "fnExactSepDocs", inPlace := ["internal/bytealg.IndexByteString"], recurses := true, loops := true, apart := false }
def FnExactSepDocsSaid : Prop := fnExactSepDocsRow.holds Try.pinned (OpenSpec.ofChange fnExactSepDocsSpec)

/-- ITS FALSE NEIGHBOUR: 'it returns false'. Refute it at one input. -/
def fnExactSepDocsWrong : ChangeSpec := { name := "fnExactSepDocs", fn := fun _ => fun
  | [d] => { results := [.lit (.bool false)], args := [d] }
  | _ => none }
def FnExactSepDocsWrongFalsely : Prop := fnExactSepDocsRow.holds Try.pinned (OpenSpec.ofChange fnExactSepDocsWrong)

/-- 'laws.FnExactFillDocs': WHATEVER THE INPUT: true; the input reads as it did. -/
def fnExactFillDocsSpec : ChangeSpec := { name := "fnExactFillDocs", fn := fun _ => fun
  | [d] => { results := [.lit (.bool true)], args := [d] }
  | _ => none }
def fnExactFillDocsRow : OpenClaim := { program := "ytkcienioaodnbaa", sum := "ecc3547e96db3da32853d07b69457bddb07830989d3240cd1522dea65f537960", func := "loop.example/docalgebra/laws.FnExactFillDocs", spec := "fnExactFillDocs", inPlace := ["internal/bytealg.IndexByteString"], recurses := true, loops := true, apart := false }
def FnExactFillDocsSaid : Prop := fnExactFillDocsRow.holds Try.pinned (OpenSpec.ofChange fnExactFillDocsSpec)

/-- ITS FALSE NEIGHBOUR: 'it returns false'. Refute it at one input. -/
def fnExactFillDocsWrong : ChangeSpec := { name := "fnExactFillDocs", fn := fun _ => fun
  | [d] => { results := [.lit (.bool false)], args := [d] }
  | _ => none }
def FnExactFillDocsWrongFalsely : Prop := fnExactFillDocsRow.holds Try.pinned (OpenSpec.ofChange fnExactFillDocsWrong)

/-- 'laws.FnExactLayoutDoc': WHATEVER THE INPUT: true; the input reads as it did. -/
def fnExactLayoutDocSpec : ChangeSpec := { name := "fnExactLayoutDoc", fn := fun _ => fun
  | [d] => { results := [.lit (.bool true)], args := [d] }
  | _ => none }
def fnExactLayoutDocRow : OpenClaim := { program := "ytkcienioaodnbaa", sum := "ecc3547e96db3da32853d07b69457bddb07830989d3240cd1522dea65f537960", func := "loop.example/docalgebra/laws.FnExactLayoutDoc", spec := "fnExactLayoutDoc", inPlace := ["internal/bytealg.IndexByteString"], recurses := true, apart := false }
def FnExactLayoutDocSaid : Prop := fnExactLayoutDocRow.holds Try.pinned (OpenSpec.ofChange fnExactLayoutDocSpec)

/-- ITS FALSE NEIGHBOUR: 'it returns false'. Refute it at one input. -/
def fnExactLayoutDocWrong : ChangeSpec := { name := "fnExactLayoutDoc", fn := fun _ => fun
  | [d] => { results := [.lit (.bool false)], args := [d] }
  | _ => none }
def FnExactLayoutDocWrongFalsely : Prop := fnExactLayoutDocRow.holds Try.pinned (OpenSpec.ofChange fnExactLayoutDocWrong)

/-- 'laws.FnExactValDoc': WHATEVER THE INPUT: true; the input reads as it did. -/
def fnExactValDocSpec : ChangeSpec := { name := "fnExactValDoc", fn := fun _ => fun
  | [d] => { results := [.lit (.bool true)], args := [d] }
  | _ => none }
def fnExactValDocRow : OpenClaim := { program := "ytkcienioaodnbaa", sum := "ecc3547e96db3da32853d07b69457bddb07830989d3240cd1522dea65f537960", func := "loop.example/docalgebra/laws.FnExactValDoc", spec := "fnExactValDoc", inPlace := ["internal/bytealg.IndexByteString"], recurses := true, loops := true, apart := false }
def FnExactValDocSaid : Prop := fnExactValDocRow.holds Try.pinned (OpenSpec.ofChange fnExactValDocSpec)

/-- ITS FALSE NEIGHBOUR: 'it returns false'. Refute it at one input. -/
def fnExactValDocWrong : ChangeSpec := { name := "fnExactValDoc", fn := fun _ => fun
  | [d] => { results := [.lit (.bool false)], args := [d] }
  | _ => none }
def FnExactValDocWrongFalsely : Prop := fnExactValDocRow.holds Try.pinned (OpenSpec.ofChange fnExactValDocWrong)

/- THE SECOND FORM. 'bulk': how many values and letters a reading holds, each counted each time it is reached (what is shared counts as often as it is met; a slice's spare places count too). A statement '..UptoSaid' is the law's where the arguments, and the package variables that the reading takes, are together of bulk at most 1048576: NARROWER than '..Said'. Prove '..Said' where nothing that the law and all that it calls make is longer than what came in: it says more and counts as full. Else prove '..UptoSaid'. A law counts once. -/
mutual
def uptoBulk {H : Type} : DataW H → Nat
  | .lit (.string bytes) => bytes.length + 1
  | .lit _ => 1
  | .nil => 1
  | .ptr d => uptoBulk d + 1
  | .slice elems spare => uptoBulkAll elems + uptoBulkAll spare + 1
  | .agg parts => uptoBulkAll parts + 1
  | .iface _ d => uptoBulk d + 1
  | .map entries => uptoBulkEntries entries + 1
  | .held _ => 1
def uptoBulkAll {H : Type} : List (DataW H) → Nat
  | [] => 0
  | d :: r => uptoBulk d + uptoBulkAll r
def uptoBulkEntries {H : Type} : List (Lit × DataW H) → Nat
  | [] => 0
  | x :: r => uptoBulkEntry x + uptoBulkEntries r
def uptoBulkEntry {H : Type} : Lit × DataW H → Nat
  | (.string bytes, d) => bytes.length + uptoBulk d + 1
  | (_, d) => uptoBulk d + 1
 end
def uptoSmall : (H : Type) → List (DataW H) → Bool := fun _ ds => decide (uptoBulkAll ds ≤ 1048576)
def OpenSpec.upto (s : _root_.Go.ChangeSpec) : _root_.Go.OpenSpec := { _root_.Go.OpenSpec.ofChange s with cond := some uptoSmall }

/-- 'laws.FnExactRepeatText', WHERE WHAT IT READS IS OF BULK AT MOST 1048576: true; the input reads as it did. -/
def fnExactRepeatTextUptoRow : OpenClaim := { program := "ytkcienioaodnbaa", sum := "ecc3547e96db3da32853d07b69457bddb07830989d3240cd1522dea65f537960", func := "loop.example/docalgebra/laws.FnExactRepeatText", spec := "fnExactRepeatText", inPlace := ["internal/bytealg.IndexByteString"], recurses := true, apart := false, narrowed := true }
def FnExactRepeatTextUptoSaid : Prop := fnExactRepeatTextUptoRow.holds Try.pinned (OpenSpec.upto fnExactRepeatTextSpec)

/-- 'laws.FnExactSameOpen', WHERE WHAT IT READS IS OF BULK AT MOST 1048576: true; the input reads as it did. -/
def fnExactSameOpenUptoRow : OpenClaim := { program := "ytkcienioaodnbaa", sum := "ecc3547e96db3da32853d07b69457bddb07830989d3240cd1522dea65f537960", func := "loop.example/docalgebra/laws.FnExactSameOpen", spec := "fnExactSameOpen", inPlace := ["internal/bytealg.IndexByteString"], recurses := true, loops := true, apart := false, narrowed := true }
def FnExactSameOpenUptoSaid : Prop := fnExactSameOpenUptoRow.holds Try.pinned (OpenSpec.upto fnExactSameOpenSpec)

/-- 'laws.FnExactHangDoc', WHERE WHAT IT READS IS OF BULK AT MOST 1048576: true; the input reads as it did. -/
def fnExactHangDocUptoRow : OpenClaim := { program := "ytkcienioaodnbaa", sum := "ecc3547e96db3da32853d07b69457bddb07830989d3240cd1522dea65f537960", func := "loop.example/docalgebra/laws.FnExactHangDoc", spec := "fnExactHangDoc", inPlace := ["internal/bytealg.IndexByteString"], recurses := true, loops := true, apart := false, narrowed := true }
def FnExactHangDocUptoSaid : Prop := fnExactHangDocUptoRow.holds Try.pinned (OpenSpec.upto fnExactHangDocSpec)

/-- 'laws.FnExactWithoutGroups', WHERE WHAT IT READS IS OF BULK AT MOST 1048576: true; the input reads as it did. -/
def fnExactWithoutGroupsUptoRow : OpenClaim := { program := "ytkcienioaodnbaa", sum := "ecc3547e96db3da32853d07b69457bddb07830989d3240cd1522dea65f537960", func := "loop.example/docalgebra/laws.FnExactWithoutGroups", spec := "fnExactWithoutGroups", inPlace := ["internal/bytealg.IndexByteString"], unfollowed := true, recurses := true, loops := true, apart := false, narrowed := true }
def FnExactWithoutGroupsUptoSaid : Prop := fnExactWithoutGroupsUptoRow.holds Try.pinned (OpenSpec.upto fnExactWithoutGroupsSpec)

/-- 'laws.FnExactBracketDoc', WHERE WHAT IT READS IS OF BULK AT MOST 1048576: true; the input reads as it did. -/
def fnExactBracketDocUptoRow : OpenClaim := { program := "ytkcienioaodnbaa", sum := "ecc3547e96db3da32853d07b69457bddb07830989d3240cd1522dea65f537960", func := "loop.example/docalgebra/laws.FnExactBracketDoc", spec := "fnExactBracketDoc", inPlace := ["internal/bytealg.IndexByteString"], recurses := true, loops := true, apart := false, narrowed := true }
def FnExactBracketDocUptoSaid : Prop := fnExactBracketDocUptoRow.holds Try.pinned (OpenSpec.upto fnExactBracketDocSpec)

/-- 'laws.FnExactPunctuateDocs', WHERE WHAT IT READS IS OF BULK AT MOST 1048576: true; the input reads as it did. -/
def fnExactPunctuateDocsUptoRow : OpenClaim := { program := "ytkcienioaodnbaa", sum := "ecc3547e96db3da32853d07b69457bddb07830989d3240cd1522dea65f537960", func := "loop.example/docalgebra/laws.FnExactPunctuateDocs", spec := "fnExactPunctuateDocs", inPlace := ["internal/bytealg.IndexByteString"], recurses := true, loops := true, apart := false, narrowed := true }
def FnExactPunctuateDocsUptoSaid : Prop := fnExactPunctuateDocsUptoRow.holds Try.pinned (OpenSpec.upto fnExactPunctuateDocsSpec)

/-- 'laws.FnExactStackDocs', WHERE WHAT IT READS IS OF BULK AT MOST 1048576: true; the input reads as it did. -/
def fnExactStackDocsUptoRow : OpenClaim := { program := "ytkcienioaodnbaa", sum := "ecc3547e96db3da32853d07b69457bddb07830989d3240cd1522dea65f537960", func := "loop.example/docalgebra/laws.FnExactStackDocs", spec := "fnExactStackDocs", inPlace := ["internal/bytealg.IndexByteString"], recurses := true, loops := true, apart := false, narrowed := true }
def FnExactStackDocsUptoSaid : Prop := fnExactStackDocsUptoRow.holds Try.pinned (OpenSpec.upto fnExactStackDocsSpec)

/-- 'laws.FnExactSepDocs', WHERE WHAT IT READS IS OF BULK AT MOST 1048576: true; the input reads as it did. -/
def fnExactSepDocsUptoRow : OpenClaim := { program := "ytkcienioaodnbaa", sum := "ecc3547e96db3da32853d07b69457bddb07830989d3240cd1522dea65f537960", func := "loop.example/docalgebra/laws.FnExactSepDocs", spec := "fnExactSepDocs", inPlace := ["internal/bytealg.IndexByteString"], recurses := true, loops := true, apart := false, narrowed := true }
def FnExactSepDocsUptoSaid : Prop := fnExactSepDocsUptoRow.holds Try.pinned (OpenSpec.upto fnExactSepDocsSpec)

/-- 'laws.FnExactFillDocs', WHERE WHAT IT READS IS OF BULK AT MOST 1048576: true; the input reads as it did. -/
def fnExactFillDocsUptoRow : OpenClaim := { program := "ytkcienioaodnbaa", sum := "ecc3547e96db3da32853d07b69457bddb07830989d3240cd1522dea65f537960", func := "loop.example/docalgebra/laws.FnExactFillDocs", spec := "fnExactFillDocs", inPlace := ["internal/bytealg.IndexByteString"], recurses := true, loops := true, apart := false, narrowed := true }
def FnExactFillDocsUptoSaid : Prop := fnExactFillDocsUptoRow.holds Try.pinned (OpenSpec.upto fnExactFillDocsSpec)

/-- 'laws.FnExactLayoutDoc', WHERE WHAT IT READS IS OF BULK AT MOST 1048576: true; the input reads as it did. -/
def fnExactLayoutDocUptoRow : OpenClaim := { program := "ytkcienioaodnbaa", sum := "ecc3547e96db3da32853d07b69457bddb07830989d3240cd1522dea65f537960", func := "loop.example/docalgebra/laws.FnExactLayoutDoc", spec := "fnExactLayoutDoc", inPlace := ["internal/bytealg.IndexByteString"], recurses := true, apart := false, narrowed := true }
def FnExactLayoutDocUptoSaid : Prop := fnExactLayoutDocUptoRow.holds Try.pinned (OpenSpec.upto fnExactLayoutDocSpec)

/-- 'laws.FnExactValDoc', WHERE WHAT IT READS IS OF BULK AT MOST 1048576: true; the input reads as it did. -/
def fnExactValDocUptoRow : OpenClaim := { program := "ytkcienioaodnbaa", sum := "ecc3547e96db3da32853d07b69457bddb07830989d3240cd1522dea65f537960", func := "loop.example/docalgebra/laws.FnExactValDoc", spec := "fnExactValDoc", inPlace := ["internal/bytealg.IndexByteString"], recurses := true, loops := true, apart := false, narrowed := true }
def FnExactValDocUptoSaid : Prop := fnExactValDocUptoRow.holds Try.pinned (OpenSpec.upto fnExactValDocSpec)

end Rows
end Go.Proofs.Ytkcienioaodnbaa
