/-
  NARROWER THAN 'FOR EVERY INPUT', by the rows' own cells (each row's printed sentence says how): FnExactValSame: loops · FnExactValValid: loops · FnExactFormatVal: loops · FnExactSortRecord: loops.
  DERIVED. THE GIVEN ROWS OF THIS SEAT. 8 by the template 'for every input the law returns true; each argument reads behind the call as it read before'; 0 by the template 'total and deterministic' (their statements: YtlhfjjkoflpecaaTotals.lean).
  GIVEN WITH THE SEED: the statements are not yours to turn. If you find one false, say at which input.
  Laid BY PROGRAM, IN A SANDBOX (cutbox-rows.mjs): the forced cells as the released guide's own fill.sh prints them over the translation 46773e6bf9d65c15… (all of the seat's roots in one cut). By AI agents, Wed Nov 11 2026. No macro, syntax, notation, axiom, sorry.
-/
import Derived.Test.YtlhfjjkoflpecaaChecked
import GoSem.Claim
import GoSem.ClaimJoined
import GoSem.ClaimMapViews
import Derived.JoinedTies
import Derived.KernelRfl
namespace Go.Proofs.Ytlhfjjkoflpecaa
/- THE CELL 'sum', in the pinned program and in every row, IS THE sha256 OF THE DUMP (.gsa) THAT YtlhfjjkoflpecaaProg.lean LOADS. Nothing in Lean hashes anything: it is a label: what it is worth is what the hold of that sum in a sandbox is worth. -/
noncomputable def Try.pinned : Pinned := { name := "ytlhfjjkoflpecaa", sum := "46773e6bf9d65c1585ee32ff43987f0f0334d2dd4320062a446072c7f88cbbc1", checked := Try.checked }
namespace Rows
def none {H : Type} : Left H := { results := [], args := [] }

/-- 'laws.FnExactValSame': WHATEVER THE INPUT: true; the input reads as it did. -/
def fnExactValSameSpec : ChangeSpec := { name := "fnExactValSame", fn := fun _ => fun
  | [d1, d2] => { results := [.lit (.bool true)], args := [d1, d2] }
  | _ => none }
def fnExactValSameRow : OpenClaim := { program := "ytlhfjjkoflpecaa", sum := "46773e6bf9d65c1585ee32ff43987f0f0334d2dd4320062a446072c7f88cbbc1", func := "loop.example/docalgebra/laws.FnExactValSame", spec := "fnExactValSame", recurses := true, loops := true, apart := false }
def FnExactValSameSaid : Prop := fnExactValSameRow.holds Try.pinned (OpenSpec.ofChange fnExactValSameSpec)

/-- ITS FALSE NEIGHBOUR: 'it returns false'. Refute it at one input. -/
def fnExactValSameWrong : ChangeSpec := { name := "fnExactValSame", fn := fun _ => fun
  | [d1, d2] => { results := [.lit (.bool false)], args := [d1, d2] }
  | _ => none }
def FnExactValSameWrongFalsely : Prop := fnExactValSameRow.holds Try.pinned (OpenSpec.ofChange fnExactValSameWrong)

/-- 'laws.FnValParts': WHATEVER THE INPUT: true; the input reads as it did. -/
def fnValPartsSpec : ChangeSpec := { name := "fnValParts", fn := fun _ => fun
  | [d] => { results := [.lit (.bool true)], args := [d] }
  | _ => none }
def fnValPartsRow : OpenClaim := { program := "ytlhfjjkoflpecaa", sum := "46773e6bf9d65c1585ee32ff43987f0f0334d2dd4320062a446072c7f88cbbc1", func := "loop.example/docalgebra/laws.FnValParts", spec := "fnValParts", recurses := true, apart := false }
def FnValPartsSaid : Prop := fnValPartsRow.holds Try.pinned (OpenSpec.ofChange fnValPartsSpec)

/-- ITS FALSE NEIGHBOUR: 'it returns false'. Refute it at one input. -/
def fnValPartsWrong : ChangeSpec := { name := "fnValParts", fn := fun _ => fun
  | [d] => { results := [.lit (.bool false)], args := [d] }
  | _ => none }
def FnValPartsWrongFalsely : Prop := fnValPartsRow.holds Try.pinned (OpenSpec.ofChange fnValPartsWrong)

/-- 'laws.FnExactValValid': WHATEVER THE INPUT: true; the input reads as it did. -/
def fnExactValValidSpec : ChangeSpec := { name := "fnExactValValid", fn := fun _ => fun
  | [d] => { results := [.lit (.bool true)], args := [d] }
  | _ => none }
def fnExactValValidRow : OpenClaim := { program := "ytlhfjjkoflpecaa", sum := "46773e6bf9d65c1585ee32ff43987f0f0334d2dd4320062a446072c7f88cbbc1", func := "loop.example/docalgebra/laws.FnExactValValid", spec := "fnExactValValid", recurses := true, loops := true, apart := false }
def FnExactValValidSaid : Prop := fnExactValValidRow.holds Try.pinned (OpenSpec.ofChange fnExactValValidSpec)

/-- ITS FALSE NEIGHBOUR: 'it returns false'. Refute it at one input. -/
def fnExactValValidWrong : ChangeSpec := { name := "fnExactValValid", fn := fun _ => fun
  | [d] => { results := [.lit (.bool false)], args := [d] }
  | _ => none }
def FnExactValValidWrongFalsely : Prop := fnExactValValidRow.holds Try.pinned (OpenSpec.ofChange fnExactValValidWrong)

/-- 'laws.FnValSame': WHATEVER THE INPUT: true; the input reads as it did. -/
def fnValSameSpec : ChangeSpec := { name := "fnValSame", fn := fun _ => fun
  | [d] => { results := [.lit (.bool true)], args := [d] }
  | _ => none }
def fnValSameRow : OpenClaim := { program := "ytlhfjjkoflpecaa", sum := "46773e6bf9d65c1585ee32ff43987f0f0334d2dd4320062a446072c7f88cbbc1", func := "loop.example/docalgebra/laws.FnValSame", spec := "fnValSame", inPlace := ["internal/abi.NoEscape", "internal/bytealg.MakeNoZero"], recurses := true, apart := false }
def FnValSameSaid : Prop := fnValSameRow.holds Try.pinned (OpenSpec.ofChange fnValSameSpec)

/-- ITS FALSE NEIGHBOUR: 'it returns false'. Refute it at one input. -/
def fnValSameWrong : ChangeSpec := { name := "fnValSame", fn := fun _ => fun
  | [d] => { results := [.lit (.bool false)], args := [d] }
  | _ => none }
def FnValSameWrongFalsely : Prop := fnValSameRow.holds Try.pinned (OpenSpec.ofChange fnValSameWrong)

/-- 'laws.FnExactFormatVal': WHATEVER THE INPUT: true; the input reads as it did. -/
def fnExactFormatValSpec : ChangeSpec := { name := "fnExactFormatVal", fn := fun _ => fun
  | [d] => { results := [.lit (.bool true)], args := [d] }
  | _ => none }
def fnExactFormatValRow : OpenClaim := { program := "ytlhfjjkoflpecaa", sum := "46773e6bf9d65c1585ee32ff43987f0f0334d2dd4320062a446072c7f88cbbc1", func := "loop.example/docalgebra/laws.FnExactFormatVal", spec := "fnExactFormatVal", inPlace := ["internal/abi.NoEscape", "internal/bytealg.MakeNoZero"], recurses := true, loops := true, apart := false }
def FnExactFormatValSaid : Prop := fnExactFormatValRow.holds Try.pinned (OpenSpec.ofChange fnExactFormatValSpec)

/-- ITS FALSE NEIGHBOUR: 'it returns false'. Refute it at one input. -/
def fnExactFormatValWrong : ChangeSpec := { name := "fnExactFormatVal", fn := fun _ => fun
  | [d] => { results := [.lit (.bool false)], args := [d] }
  | _ => none }
def FnExactFormatValWrongFalsely : Prop := fnExactFormatValRow.holds Try.pinned (OpenSpec.ofChange fnExactFormatValWrong)

/-- 'laws.FnExactSortRecord': WHATEVER THE INPUT: true; the input reads as it did. -/
def fnExactSortRecordSpec : ChangeSpec := { name := "fnExactSortRecord", fn := fun _ => fun
  | [d] => { results := [.lit (.bool true)], args := [d] }
  | _ => none }
def fnExactSortRecordRow : OpenClaim := { program := "ytlhfjjkoflpecaa", sum := "46773e6bf9d65c1585ee32ff43987f0f0334d2dd4320062a446072c7f88cbbc1", func := "loop.example/docalgebra/laws.FnExactSortRecord", spec := "fnExactSortRecord", inPlace := ["internal/bytealg.abigen_runtime_cmpstring"], unfollowed := true, recurses := true, loops := true, apart := false }
def FnExactSortRecordSaid : Prop := fnExactSortRecordRow.holds Try.pinned (OpenSpec.ofChange fnExactSortRecordSpec)

/-- ITS FALSE NEIGHBOUR: 'it returns false'. Refute it at one input. -/
def fnExactSortRecordWrong : ChangeSpec := { name := "fnExactSortRecord", fn := fun _ => fun
  | [d] => { results := [.lit (.bool false)], args := [d] }
  | _ => none }
def FnExactSortRecordWrongFalsely : Prop := fnExactSortRecordRow.holds Try.pinned (OpenSpec.ofChange fnExactSortRecordWrong)

/-- 'laws.FnSortPrint': WHATEVER THE INPUT: true; the input reads as it did. -/
def fnSortPrintSpec : ChangeSpec := { name := "fnSortPrint", fn := fun _ => fun
  | [d] => { results := [.lit (.bool true)], args := [d] }
  | _ => none }
def fnSortPrintRow : OpenClaim := { program := "ytlhfjjkoflpecaa", sum := "46773e6bf9d65c1585ee32ff43987f0f0334d2dd4320062a446072c7f88cbbc1", func := "loop.example/docalgebra/laws.FnSortPrint", spec := "fnSortPrint", inPlace := ["internal/bytealg.abigen_runtime_cmpstring", "internal/abi.NoEscape", "internal/bytealg.MakeNoZero"], unfollowed := true, recurses := true, apart := false }
def FnSortPrintSaid : Prop := fnSortPrintRow.holds Try.pinned (OpenSpec.ofChange fnSortPrintSpec)

/-- ITS FALSE NEIGHBOUR: 'it returns false'. Refute it at one input. -/
def fnSortPrintWrong : ChangeSpec := { name := "fnSortPrint", fn := fun _ => fun
  | [d] => { results := [.lit (.bool false)], args := [d] }
  | _ => none }
def FnSortPrintWrongFalsely : Prop := fnSortPrintRow.holds Try.pinned (OpenSpec.ofChange fnSortPrintWrong)

/-- 'laws.FnSortRecord': WHATEVER THE INPUT: true; the input reads as it did. -/
def fnSortRecordSpec : ChangeSpec := { name := "fnSortRecord", fn := fun _ => fun
  | [d] => { results := [.lit (.bool true)], args := [d] }
  | _ => none }
def fnSortRecordRow : OpenClaim := { program := "ytlhfjjkoflpecaa", sum := "46773e6bf9d65c1585ee32ff43987f0f0334d2dd4320062a446072c7f88cbbc1", func := "loop.example/docalgebra/laws.FnSortRecord", spec := "fnSortRecord", inPlace := ["internal/bytealg.abigen_runtime_cmpstring", "internal/abi.NoEscape", "internal/bytealg.MakeNoZero"], unfollowed := true, recurses := true, apart := false }
def FnSortRecordSaid : Prop := fnSortRecordRow.holds Try.pinned (OpenSpec.ofChange fnSortRecordSpec)

/-- ITS FALSE NEIGHBOUR: 'it returns false'. Refute it at one input. -/
def fnSortRecordWrong : ChangeSpec := { name := "fnSortRecord", fn := fun _ => fun
  | [d] => { results := [.lit (.bool false)], args := [d] }
  | _ => none }
def FnSortRecordWrongFalsely : Prop := fnSortRecordRow.holds Try.pinned (OpenSpec.ofChange fnSortRecordWrong)

/- THE SECOND FORM. 'bulk': how many values and letters a reading holds, each counted each time it is reached (what is shared counts as often as it is met; a slice's spare places count too). A statement '..UptoSaid' is the law's where the arguments, and the package variables that the reading takes, are together of bulk at most 1048576: NARROWER than '..Said'. Prove '..Said' where nothing that the law and all that it calls make is longer than what came in: it says more and counts as full. Else prove '..UptoSaid'. A law counts once. -/
mutual
def uptoBulk {H : Type} : DataW H → Nat
  | .lit (.string bytes) => bytes.length + 1
  | .lit _ => 1
  | .nil => 1
  | .ptr d => uptoBulk d + 1
  | .slice elems spare => uptoBulkAll elems + uptoBulkAll spare + 1
  | .agg parts => uptoBulkAll parts + 1
  | .iface _ d => uptoBulk d + 1
  | .map entries => uptoBulkEntries entries + 1
  | .held _ => 1
def uptoBulkAll {H : Type} : List (DataW H) → Nat
  | [] => 0
  | d :: r => uptoBulk d + uptoBulkAll r
def uptoBulkEntries {H : Type} : List (Lit × DataW H) → Nat
  | [] => 0
  | x :: r => uptoBulkEntry x + uptoBulkEntries r
def uptoBulkEntry {H : Type} : Lit × DataW H → Nat
  | (.string bytes, d) => bytes.length + uptoBulk d + 1
  | (_, d) => uptoBulk d + 1
 end
def uptoSmall : (H : Type) → List (DataW H) → Bool := fun _ ds => decide (uptoBulkAll ds ≤ 1048576)
def OpenSpec.upto (s : _root_.Go.ChangeSpec) : _root_.Go.OpenSpec := { _root_.Go.OpenSpec.ofChange s with cond := some uptoSmall }

/-- 'laws.FnExactValSame', WHERE WHAT IT READS IS OF BULK AT MOST 1048576: true; the input reads as it did. -/
def fnExactValSameUptoRow : OpenClaim := { program := "ytlhfjjkoflpecaa", sum := "46773e6bf9d65c1585ee32ff43987f0f0334d2dd4320062a446072c7f88cbbc1", func := "loop.example/docalgebra/laws.FnExactValSame", spec := "fnExactValSame", recurses := true, loops := true, apart := false, narrowed := true }
def FnExactValSameUptoSaid : Prop := fnExactValSameUptoRow.holds Try.pinned (OpenSpec.upto fnExactValSameSpec)

/-- 'laws.FnValParts', WHERE WHAT IT READS IS OF BULK AT MOST 1048576: true; the input reads as it did. -/
def fnValPartsUptoRow : OpenClaim := { program := "ytlhfjjkoflpecaa", sum := "46773e6bf9d65c1585ee32ff43987f0f0334d2dd4320062a446072c7f88cbbc1", func := "loop.example/docalgebra/laws.FnValParts", spec := "fnValParts", recurses := true, apart := false, narrowed := true }
def FnValPartsUptoSaid : Prop := fnValPartsUptoRow.holds Try.pinned (OpenSpec.upto fnValPartsSpec)

/-- 'laws.FnExactValValid', WHERE WHAT IT READS IS OF BULK AT MOST 1048576: true; the input reads as it did. -/
def fnExactValValidUptoRow : OpenClaim := { program := "ytlhfjjkoflpecaa", sum := "46773e6bf9d65c1585ee32ff43987f0f0334d2dd4320062a446072c7f88cbbc1", func := "loop.example/docalgebra/laws.FnExactValValid", spec := "fnExactValValid", recurses := true, loops := true, apart := false, narrowed := true }
def FnExactValValidUptoSaid : Prop := fnExactValValidUptoRow.holds Try.pinned (OpenSpec.upto fnExactValValidSpec)

/-- 'laws.FnValSame', WHERE WHAT IT READS IS OF BULK AT MOST 1048576: true; the input reads as it did. -/
def fnValSameUptoRow : OpenClaim := { program := "ytlhfjjkoflpecaa", sum := "46773e6bf9d65c1585ee32ff43987f0f0334d2dd4320062a446072c7f88cbbc1", func := "loop.example/docalgebra/laws.FnValSame", spec := "fnValSame", inPlace := ["internal/abi.NoEscape", "internal/bytealg.MakeNoZero"], recurses := true, apart := false, narrowed := true }
def FnValSameUptoSaid : Prop := fnValSameUptoRow.holds Try.pinned (OpenSpec.upto fnValSameSpec)

/-- 'laws.FnExactFormatVal', WHERE WHAT IT READS IS OF BULK AT MOST 1048576: true; the input reads as it did. -/
def fnExactFormatValUptoRow : OpenClaim := { program := "ytlhfjjkoflpecaa", sum := "46773e6bf9d65c1585ee32ff43987f0f0334d2dd4320062a446072c7f88cbbc1", func := "loop.example/docalgebra/laws.FnExactFormatVal", spec := "fnExactFormatVal", inPlace := ["internal/abi.NoEscape", "internal/bytealg.MakeNoZero"], recurses := true, loops := true, apart := false, narrowed := true }
def FnExactFormatValUptoSaid : Prop := fnExactFormatValUptoRow.holds Try.pinned (OpenSpec.upto fnExactFormatValSpec)

/-- 'laws.FnExactSortRecord', WHERE WHAT IT READS IS OF BULK AT MOST 1048576: true; the input reads as it did. -/
def fnExactSortRecordUptoRow : OpenClaim := { program := "ytlhfjjkoflpecaa", sum := "46773e6bf9d65c1585ee32ff43987f0f0334d2dd4320062a446072c7f88cbbc1", func := "loop.example/docalgebra/laws.FnExactSortRecord", spec := "fnExactSortRecord", inPlace := ["internal/bytealg.abigen_runtime_cmpstring"], unfollowed := true, recurses := true, loops := true, apart := false, narrowed := true }
def FnExactSortRecordUptoSaid : Prop := fnExactSortRecordUptoRow.holds Try.pinned (OpenSpec.upto fnExactSortRecordSpec)

/-- 'laws.FnSortPrint', WHERE WHAT IT READS IS OF BULK AT MOST 1048576: true; the input reads as it did. -/
def fnSortPrintUptoRow : OpenClaim := { program := "ytlhfjjkoflpecaa", sum := "46773e6bf9d65c1585ee32ff43987f0f0334d2dd4320062a446072c7f88cbbc1", func := "loop.example/docalgebra/laws.FnSortPrint", spec := "fnSortPrint", inPlace := ["internal/bytealg.abigen_runtime_cmpstring", "internal/abi.NoEscape", "internal/bytealg.MakeNoZero"], unfollowed := true, recurses := true, apart := false, narrowed := true }
def FnSortPrintUptoSaid : Prop := fnSortPrintUptoRow.holds Try.pinned (OpenSpec.upto fnSortPrintSpec)

/-- 'laws.FnSortRecord', WHERE WHAT IT READS IS OF BULK AT MOST 1048576: true; the input reads as it did. -/
def fnSortRecordUptoRow : OpenClaim := { program := "ytlhfjjkoflpecaa", sum := "46773e6bf9d65c1585ee32ff43987f0f0334d2dd4320062a446072c7f88cbbc1", func := "loop.example/docalgebra/laws.FnSortRecord", spec := "fnSortRecord", inPlace := ["internal/bytealg.abigen_runtime_cmpstring", "internal/abi.NoEscape", "internal/bytealg.MakeNoZero"], unfollowed := true, recurses := true, apart := false, narrowed := true }
def FnSortRecordUptoSaid : Prop := fnSortRecordUptoRow.holds Try.pinned (OpenSpec.upto fnSortRecordSpec)

end Rows
end Go.Proofs.Ytlhfjjkoflpecaa
