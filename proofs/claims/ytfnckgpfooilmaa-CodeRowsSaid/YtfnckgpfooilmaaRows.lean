/-
  No cell of these rows narrows 'for every input' (looked for: loops, veiled, ifaces, maps, wideKeys, modest, calm, conditions, laid).
  DERIVED. THE GIVEN ROWS OF THIS SEAT. 7 by the template 'for every input the law returns true; each argument reads behind the call as it read before'; 0 by the template 'total and deterministic' (their statements: YtfnckgpfooilmaaTotals.lean).
  GIVEN WITH THE SEED: the statements are not yours to turn. If you find one false, say at which input.
  Laid BY PROGRAM, IN A SANDBOX (cutbox-rows.mjs): the forced cells as the released guide's own fill.sh prints them over the translation 5179e9a7b34b7b25… (all of the seat's roots in one cut). By AI agents, Wed Nov 11 2026. No macro, syntax, notation, axiom, sorry.
-/
import Derived.Test.YtfnckgpfooilmaaChecked
import GoSem.Claim
import GoSem.ClaimJoined
import GoSem.ClaimMapViews
import Derived.JoinedTies
import Derived.KernelRfl
namespace Go.Proofs.Ytfnckgpfooilmaa
/- THE CELL 'sum', in the pinned program and in every row, IS THE sha256 OF THE DUMP (.gsa) THAT YtfnckgpfooilmaaProg.lean LOADS. Nothing in Lean hashes anything: it is a label: what it is worth is what the hold of that sum in a sandbox is worth. -/
noncomputable def Try.pinned : Pinned := { name := "ytfnckgpfooilmaa", sum := "5179e9a7b34b7b259fc72dd21ad66b764ecdf7d4d1857dfab7dceff81c3854ad", checked := Try.checked }
namespace Rows
def none {H : Type} : Left H := { results := [], args := [] }

/-- 'boarderlaw02.CodeNums': WHATEVER THE INPUT: true; the input reads as it did. -/
def codeNumsSpec : ChangeSpec := { name := "codeNums", fn := fun _ => fun
  | [d1, d2, d3, d4] => { results := [.lit (.bool true)], args := [d1, d2, d3, d4] }
  | _ => none }
def codeNumsRow : OpenClaim := { program := "ytfnckgpfooilmaa", sum := "5179e9a7b34b7b259fc72dd21ad66b764ecdf7d4d1857dfab7dceff81c3854ad", func := "boarder/boarderlaw02.CodeNums", spec := "codeNums", recurses := true, apart := false }
def CodeNumsSaid : Prop := codeNumsRow.holds Try.pinned (OpenSpec.ofChange codeNumsSpec)

/-- ITS FALSE NEIGHBOUR: 'it returns false'. Refute it at one input. -/
def codeNumsWrong : ChangeSpec := { name := "codeNums", fn := fun _ => fun
  | [d1, d2, d3, d4] => { results := [.lit (.bool false)], args := [d1, d2, d3, d4] }
  | _ => none }
def CodeNumsWrongFalsely : Prop := codeNumsRow.holds Try.pinned (OpenSpec.ofChange codeNumsWrong)

/-- 'boarderlaw02.CodeBack': WHATEVER THE INPUT: true; the input reads as it did. -/
def codeBackSpec : ChangeSpec := { name := "codeBack", fn := fun _ => fun
  | [d1, d2, d3, d4] => { results := [.lit (.bool true)], args := [d1, d2, d3, d4] }
  | _ => none }
def codeBackRow : OpenClaim := { program := "ytfnckgpfooilmaa", sum := "5179e9a7b34b7b259fc72dd21ad66b764ecdf7d4d1857dfab7dceff81c3854ad", func := "boarder/boarderlaw02.CodeBack", spec := "codeBack", apart := false }
def CodeBackSaid : Prop := codeBackRow.holds Try.pinned (OpenSpec.ofChange codeBackSpec)

/-- ITS FALSE NEIGHBOUR: 'it returns false'. Refute it at one input. -/
def codeBackWrong : ChangeSpec := { name := "codeBack", fn := fun _ => fun
  | [d1, d2, d3, d4] => { results := [.lit (.bool false)], args := [d1, d2, d3, d4] }
  | _ => none }
def CodeBackWrongFalsely : Prop := codeBackRow.holds Try.pinned (OpenSpec.ofChange codeBackWrong)

/-- 'boarderlaw02.CodeSums': WHATEVER THE INPUT: true; the input reads as it did. -/
def codeSumsSpec : ChangeSpec := { name := "codeSums", fn := fun _ => fun
  | [d] => { results := [.lit (.bool true)], args := [d] }
  | _ => none }
def codeSumsRow : OpenClaim := { program := "ytfnckgpfooilmaa", sum := "5179e9a7b34b7b259fc72dd21ad66b764ecdf7d4d1857dfab7dceff81c3854ad", func := "boarder/boarderlaw02.CodeSums", spec := "codeSums", apart := false }
def CodeSumsSaid : Prop := codeSumsRow.holds Try.pinned (OpenSpec.ofChange codeSumsSpec)

/-- ITS FALSE NEIGHBOUR: 'it returns false'. Refute it at one input. -/
def codeSumsWrong : ChangeSpec := { name := "codeSums", fn := fun _ => fun
  | [d] => { results := [.lit (.bool false)], args := [d] }
  | _ => none }
def CodeSumsWrongFalsely : Prop := codeSumsRow.holds Try.pinned (OpenSpec.ofChange codeSumsWrong)

/-- 'boarderlaw02.CodeFrames': WHATEVER THE INPUT: true; the input reads as it did. -/
def codeFramesSpec : ChangeSpec := { name := "codeFrames", fn := fun _ => fun
  | [d] => { results := [.lit (.bool true)], args := [d] }
  | _ => none }
def codeFramesRow : OpenClaim := { program := "ytfnckgpfooilmaa", sum := "5179e9a7b34b7b259fc72dd21ad66b764ecdf7d4d1857dfab7dceff81c3854ad", func := "boarder/boarderlaw02.CodeFrames", spec := "codeFrames", recurses := true, apart := false }
def CodeFramesSaid : Prop := codeFramesRow.holds Try.pinned (OpenSpec.ofChange codeFramesSpec)

/-- ITS FALSE NEIGHBOUR: 'it returns false'. Refute it at one input. -/
def codeFramesWrong : ChangeSpec := { name := "codeFrames", fn := fun _ => fun
  | [d] => { results := [.lit (.bool false)], args := [d] }
  | _ => none }
def CodeFramesWrongFalsely : Prop := codeFramesRow.holds Try.pinned (OpenSpec.ofChange codeFramesWrong)

/-- 'boarderlaw02.CodeOpens': WHATEVER THE INPUT: true; the input reads as it did. -/
def codeOpensSpec : ChangeSpec := { name := "codeOpens", fn := fun _ => fun
  | [d] => { results := [.lit (.bool true)], args := [d] }
  | _ => none }
def codeOpensRow : OpenClaim := { program := "ytfnckgpfooilmaa", sum := "5179e9a7b34b7b259fc72dd21ad66b764ecdf7d4d1857dfab7dceff81c3854ad", func := "boarder/boarderlaw02.CodeOpens", spec := "codeOpens", recurses := true, apart := false }
def CodeOpensSaid : Prop := codeOpensRow.holds Try.pinned (OpenSpec.ofChange codeOpensSpec)

/-- ITS FALSE NEIGHBOUR: 'it returns false'. Refute it at one input. -/
def codeOpensWrong : ChangeSpec := { name := "codeOpens", fn := fun _ => fun
  | [d] => { results := [.lit (.bool false)], args := [d] }
  | _ => none }
def CodeOpensWrongFalsely : Prop := codeOpensRow.holds Try.pinned (OpenSpec.ofChange codeOpensWrong)

/-- 'boarderlaw02.CodeRows': WHATEVER THE INPUT: true; the input reads as it did. -/
def codeRowsSpec : ChangeSpec := { name := "codeRows", fn := fun _ => fun
  | [d1, d2, d3] => { results := [.lit (.bool true)], args := [d1, d2, d3] }
  | _ => none }
def codeRowsRow : OpenClaim := { program := "ytfnckgpfooilmaa", sum := "5179e9a7b34b7b259fc72dd21ad66b764ecdf7d4d1857dfab7dceff81c3854ad", func := "boarder/boarderlaw02.CodeRows", spec := "codeRows", apart := false }
def CodeRowsSaid : Prop := codeRowsRow.holds Try.pinned (OpenSpec.ofChange codeRowsSpec)

/-- ITS FALSE NEIGHBOUR: 'it returns false'. Refute it at one input. -/
def codeRowsWrong : ChangeSpec := { name := "codeRows", fn := fun _ => fun
  | [d1, d2, d3] => { results := [.lit (.bool false)], args := [d1, d2, d3] }
  | _ => none }
def CodeRowsWrongFalsely : Prop := codeRowsRow.holds Try.pinned (OpenSpec.ofChange codeRowsWrong)

/-- 'boarderlaw02.CodeTurned': WHATEVER THE INPUT: true; the input reads as it did. -/
def codeTurnedSpec : ChangeSpec := { name := "codeTurned", fn := fun _ => fun
  | [d1, d2, d3] => { results := [.lit (.bool true)], args := [d1, d2, d3] }
  | _ => none }
def codeTurnedRow : OpenClaim := { program := "ytfnckgpfooilmaa", sum := "5179e9a7b34b7b259fc72dd21ad66b764ecdf7d4d1857dfab7dceff81c3854ad", func := "boarder/boarderlaw02.CodeTurned", spec := "codeTurned", apart := false }
def CodeTurnedSaid : Prop := codeTurnedRow.holds Try.pinned (OpenSpec.ofChange codeTurnedSpec)

/-- ITS FALSE NEIGHBOUR: 'it returns false'. Refute it at one input. -/
def codeTurnedWrong : ChangeSpec := { name := "codeTurned", fn := fun _ => fun
  | [d1, d2, d3] => { results := [.lit (.bool false)], args := [d1, d2, d3] }
  | _ => none }
def CodeTurnedWrongFalsely : Prop := codeTurnedRow.holds Try.pinned (OpenSpec.ofChange codeTurnedWrong)

/- THE SECOND FORM. 'bulk': how many values and letters a reading holds, each counted each time it is reached (what is shared counts as often as it is met; a slice's spare places count too). A statement '..UptoSaid' is the law's where the arguments, and the package variables that the reading takes, are together of bulk at most 1048576: NARROWER than '..Said'. Prove '..Said' where nothing that the law and all that it calls make is longer than what came in: it says more and counts as full. Else prove '..UptoSaid'. A law counts once. -/
mutual
def uptoBulk {H : Type} : DataW H → Nat
  | .lit (.string bytes) => bytes.length + 1
  | .lit _ => 1
  | .nil => 1
  | .ptr d => uptoBulk d + 1
  | .slice elems spare => uptoBulkAll elems + uptoBulkAll spare + 1
  | .agg parts => uptoBulkAll parts + 1
  | .iface _ d => uptoBulk d + 1
  | .map entries => uptoBulkEntries entries + 1
  | .held _ => 1
def uptoBulkAll {H : Type} : List (DataW H) → Nat
  | [] => 0
  | d :: r => uptoBulk d + uptoBulkAll r
def uptoBulkEntries {H : Type} : List (Lit × DataW H) → Nat
  | [] => 0
  | x :: r => uptoBulkEntry x + uptoBulkEntries r
def uptoBulkEntry {H : Type} : Lit × DataW H → Nat
  | (.string bytes, d) => bytes.length + uptoBulk d + 1
  | (_, d) => uptoBulk d + 1
 end
def uptoSmall : (H : Type) → List (DataW H) → Bool := fun _ ds => decide (uptoBulkAll ds ≤ 1048576)
def OpenSpec.upto (s : _root_.Go.ChangeSpec) : _root_.Go.OpenSpec := { _root_.Go.OpenSpec.ofChange s with cond := some uptoSmall }

/-- 'boarderlaw02.CodeNums', WHERE WHAT IT READS IS OF BULK AT MOST 1048576: true; the input reads as it did. -/
def codeNumsUptoRow : OpenClaim := { program := "ytfnckgpfooilmaa", sum := "5179e9a7b34b7b259fc72dd21ad66b764ecdf7d4d1857dfab7dceff81c3854ad", func := "boarder/boarderlaw02.CodeNums", spec := "codeNums", recurses := true, apart := false, narrowed := true }
def CodeNumsUptoSaid : Prop := codeNumsUptoRow.holds Try.pinned (OpenSpec.upto codeNumsSpec)

/-- 'boarderlaw02.CodeBack', WHERE WHAT IT READS IS OF BULK AT MOST 1048576: true; the input reads as it did. -/
def codeBackUptoRow : OpenClaim := { program := "ytfnckgpfooilmaa", sum := "5179e9a7b34b7b259fc72dd21ad66b764ecdf7d4d1857dfab7dceff81c3854ad", func := "boarder/boarderlaw02.CodeBack", spec := "codeBack", apart := false, narrowed := true }
def CodeBackUptoSaid : Prop := codeBackUptoRow.holds Try.pinned (OpenSpec.upto codeBackSpec)

/-- 'boarderlaw02.CodeSums', WHERE WHAT IT READS IS OF BULK AT MOST 1048576: true; the input reads as it did. -/
def codeSumsUptoRow : OpenClaim := { program := "ytfnckgpfooilmaa", sum := "5179e9a7b34b7b259fc72dd21ad66b764ecdf7d4d1857dfab7dceff81c3854ad", func := "boarder/boarderlaw02.CodeSums", spec := "codeSums", apart := false, narrowed := true }
def CodeSumsUptoSaid : Prop := codeSumsUptoRow.holds Try.pinned (OpenSpec.upto codeSumsSpec)

/-- 'boarderlaw02.CodeFrames', WHERE WHAT IT READS IS OF BULK AT MOST 1048576: true; the input reads as it did. -/
def codeFramesUptoRow : OpenClaim := { program := "ytfnckgpfooilmaa", sum := "5179e9a7b34b7b259fc72dd21ad66b764ecdf7d4d1857dfab7dceff81c3854ad", func := "boarder/boarderlaw02.CodeFrames", spec := "codeFrames", recurses := true, apart := false, narrowed := true }
def CodeFramesUptoSaid : Prop := codeFramesUptoRow.holds Try.pinned (OpenSpec.upto codeFramesSpec)

/-- 'boarderlaw02.CodeOpens', WHERE WHAT IT READS IS OF BULK AT MOST 1048576: true; the input reads as it did. -/
def codeOpensUptoRow : OpenClaim := { program := "ytfnckgpfooilmaa", sum := "5179e9a7b34b7b259fc72dd21ad66b764ecdf7d4d1857dfab7dceff81c3854ad", func := "boarder/boarderlaw02.CodeOpens", spec := "codeOpens", recurses := true, apart := false, narrowed := true }
def CodeOpensUptoSaid : Prop := codeOpensUptoRow.holds Try.pinned (OpenSpec.upto codeOpensSpec)

/-- 'boarderlaw02.CodeRows', WHERE WHAT IT READS IS OF BULK AT MOST 1048576: true; the input reads as it did. -/
def codeRowsUptoRow : OpenClaim := { program := "ytfnckgpfooilmaa", sum := "5179e9a7b34b7b259fc72dd21ad66b764ecdf7d4d1857dfab7dceff81c3854ad", func := "boarder/boarderlaw02.CodeRows", spec := "codeRows", apart := false, narrowed := true }
def CodeRowsUptoSaid : Prop := codeRowsUptoRow.holds Try.pinned (OpenSpec.upto codeRowsSpec)

/-- 'boarderlaw02.CodeTurned', WHERE WHAT IT READS IS OF BULK AT MOST 1048576: true; the input reads as it did. -/
def codeTurnedUptoRow : OpenClaim := { program := "ytfnckgpfooilmaa", sum := "5179e9a7b34b7b259fc72dd21ad66b764ecdf7d4d1857dfab7dceff81c3854ad", func := "boarder/boarderlaw02.CodeTurned", spec := "codeTurned", apart := false, narrowed := true }
def CodeTurnedUptoSaid : Prop := codeTurnedUptoRow.holds Try.pinned (OpenSpec.upto codeTurnedSpec)

end Rows
end Go.Proofs.Ytfnckgpfooilmaa
