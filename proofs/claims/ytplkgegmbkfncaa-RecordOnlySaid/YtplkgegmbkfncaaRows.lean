/-
  No cell of these rows narrows 'for every input' (looked for: loops, veiled, ifaces, maps, wideKeys, modest, calm, conditions, laid).
  DERIVED. THE GIVEN ROWS OF THIS SEAT. 11 by the template 'for every input the law returns true; each argument reads behind the call as it read before'; 0 by the template 'total and deterministic' (their statements: YtplkgegmbkfncaaTotals.lean).
  GIVEN WITH THE SEED: the statements are not yours to turn. If you find one false, say at which input.
  Laid BY PROGRAM, IN A SANDBOX (cutbox-rows.mjs): the forced cells as the released guide's own fill.sh prints them over the translation b77ed59e1577a5ea… (all of the seat's roots in one cut). By AI agents, Wed Nov 11 2026. No macro, syntax, notation, axiom, sorry.
-/
import Derived.Test.YtplkgegmbkfncaaChecked
import GoSem.Claim
import GoSem.ClaimJoined
import GoSem.ClaimMapViews
import Derived.JoinedTies
import Derived.KernelRfl
namespace Go.Proofs.Ytplkgegmbkfncaa
/- THE CELL 'sum', in the pinned program and in every row, IS THE sha256 OF THE DUMP (.gsa) THAT YtplkgegmbkfncaaProg.lean LOADS. Nothing in Lean hashes anything: it is a label: what it is worth is what the hold of that sum in a sandbox is worth. -/
noncomputable def Try.pinned : Pinned := { name := "ytplkgegmbkfncaa", sum := "b77ed59e1577a5ea6ec7a425f1f58a02ad029f735cda2517469ffb5cb6aaf907", checked := Try.checked }
namespace Rows
def none {H : Type} : Left H := { results := [], args := [] }

/-- 'boarderlaw06.RelayParts': WHATEVER THE INPUT: true; the input reads as it did. -/
def relayPartsSpec : ChangeSpec := { name := "relayParts", fn := fun _ => fun
  | [d] => { results := [.lit (.bool true)], args := [d] }
  | _ => none }
def relayPartsRow : OpenClaim := { program := "ytplkgegmbkfncaa", sum := "b77ed59e1577a5ea6ec7a425f1f58a02ad029f735cda2517469ffb5cb6aaf907", func := "boarder/boarderlaw06.RelayParts", spec := "relayParts", apart := false }
def RelayPartsSaid : Prop := relayPartsRow.holds Try.pinned (OpenSpec.ofChange relayPartsSpec)

/-- ITS FALSE NEIGHBOUR: 'it returns false'. Refute it at one input. -/
def relayPartsWrong : ChangeSpec := { name := "relayParts", fn := fun _ => fun
  | [d] => { results := [.lit (.bool false)], args := [d] }
  | _ => none }
def RelayPartsWrongFalsely : Prop := relayPartsRow.holds Try.pinned (OpenSpec.ofChange relayPartsWrong)

/-- 'boarderlaw06.RelayBytes': WHATEVER THE INPUT: true; the input reads as it did. -/
def relayBytesSpec : ChangeSpec := { name := "relayBytes", fn := fun _ => fun
  | [d] => { results := [.lit (.bool true)], args := [d] }
  | _ => none }
def relayBytesRow : OpenClaim := { program := "ytplkgegmbkfncaa", sum := "b77ed59e1577a5ea6ec7a425f1f58a02ad029f735cda2517469ffb5cb6aaf907", func := "boarder/boarderlaw06.RelayBytes", spec := "relayBytes", apart := false }
def RelayBytesSaid : Prop := relayBytesRow.holds Try.pinned (OpenSpec.ofChange relayBytesSpec)

/-- ITS FALSE NEIGHBOUR: 'it returns false'. Refute it at one input. -/
def relayBytesWrong : ChangeSpec := { name := "relayBytes", fn := fun _ => fun
  | [d] => { results := [.lit (.bool false)], args := [d] }
  | _ => none }
def RelayBytesWrongFalsely : Prop := relayBytesRow.holds Try.pinned (OpenSpec.ofChange relayBytesWrong)

/-- 'boarderlaw06.RelayLinks': WHATEVER THE INPUT: true; the input reads as it did. -/
def relayLinksSpec : ChangeSpec := { name := "relayLinks", fn := fun _ => fun
  | [d] => { results := [.lit (.bool true)], args := [d] }
  | _ => none }
def relayLinksRow : OpenClaim := { program := "ytplkgegmbkfncaa", sum := "b77ed59e1577a5ea6ec7a425f1f58a02ad029f735cda2517469ffb5cb6aaf907", func := "boarder/boarderlaw06.RelayLinks", spec := "relayLinks", apart := false }
def RelayLinksSaid : Prop := relayLinksRow.holds Try.pinned (OpenSpec.ofChange relayLinksSpec)

/-- ITS FALSE NEIGHBOUR: 'it returns false'. Refute it at one input. -/
def relayLinksWrong : ChangeSpec := { name := "relayLinks", fn := fun _ => fun
  | [d] => { results := [.lit (.bool false)], args := [d] }
  | _ => none }
def RelayLinksWrongFalsely : Prop := relayLinksRow.holds Try.pinned (OpenSpec.ofChange relayLinksWrong)

/-- 'boarderlaw06.RelayBack': WHATEVER THE INPUT: true; the input reads as it did. -/
def relayBackSpec : ChangeSpec := { name := "relayBack", fn := fun _ => fun
  | [d] => { results := [.lit (.bool true)], args := [d] }
  | _ => none }
def relayBackRow : OpenClaim := { program := "ytplkgegmbkfncaa", sum := "b77ed59e1577a5ea6ec7a425f1f58a02ad029f735cda2517469ffb5cb6aaf907", func := "boarder/boarderlaw06.RelayBack", spec := "relayBack", apart := false }
def RelayBackSaid : Prop := relayBackRow.holds Try.pinned (OpenSpec.ofChange relayBackSpec)

/-- ITS FALSE NEIGHBOUR: 'it returns false'. Refute it at one input. -/
def relayBackWrong : ChangeSpec := { name := "relayBack", fn := fun _ => fun
  | [d] => { results := [.lit (.bool false)], args := [d] }
  | _ => none }
def RelayBackWrongFalsely : Prop := relayBackRow.holds Try.pinned (OpenSpec.ofChange relayBackWrong)

/-- 'boarderlaw06.RelayAgain': WHATEVER THE INPUT: true; the input reads as it did. -/
def relayAgainSpec : ChangeSpec := { name := "relayAgain", fn := fun _ => fun
  | [d] => { results := [.lit (.bool true)], args := [d] }
  | _ => none }
def relayAgainRow : OpenClaim := { program := "ytplkgegmbkfncaa", sum := "b77ed59e1577a5ea6ec7a425f1f58a02ad029f735cda2517469ffb5cb6aaf907", func := "boarder/boarderlaw06.RelayAgain", spec := "relayAgain", apart := false }
def RelayAgainSaid : Prop := relayAgainRow.holds Try.pinned (OpenSpec.ofChange relayAgainSpec)

/-- ITS FALSE NEIGHBOUR: 'it returns false'. Refute it at one input. -/
def relayAgainWrong : ChangeSpec := { name := "relayAgain", fn := fun _ => fun
  | [d] => { results := [.lit (.bool false)], args := [d] }
  | _ => none }
def RelayAgainWrongFalsely : Prop := relayAgainRow.holds Try.pinned (OpenSpec.ofChange relayAgainWrong)

/-- 'boarderlaw06.RelayFirst': WHATEVER THE INPUT: true; the input reads as it did. -/
def relayFirstSpec : ChangeSpec := { name := "relayFirst", fn := fun _ => fun
  | [d1, d2] => { results := [.lit (.bool true)], args := [d1, d2] }
  | _ => none }
def relayFirstRow : OpenClaim := { program := "ytplkgegmbkfncaa", sum := "b77ed59e1577a5ea6ec7a425f1f58a02ad029f735cda2517469ffb5cb6aaf907", func := "boarder/boarderlaw06.RelayFirst", spec := "relayFirst", apart := false }
def RelayFirstSaid : Prop := relayFirstRow.holds Try.pinned (OpenSpec.ofChange relayFirstSpec)

/-- ITS FALSE NEIGHBOUR: 'it returns false'. Refute it at one input. -/
def relayFirstWrong : ChangeSpec := { name := "relayFirst", fn := fun _ => fun
  | [d1, d2] => { results := [.lit (.bool false)], args := [d1, d2] }
  | _ => none }
def RelayFirstWrongFalsely : Prop := relayFirstRow.holds Try.pinned (OpenSpec.ofChange relayFirstWrong)

/-- 'boarderlaw09.RecordRights': WHATEVER THE INPUT: true; the input reads as it did. -/
def recordRightsSpec : ChangeSpec := { name := "recordRights", fn := fun _ => fun
  | [d] => { results := [.lit (.bool true)], args := [d] }
  | _ => none }
def recordRightsRow : OpenClaim := { program := "ytplkgegmbkfncaa", sum := "b77ed59e1577a5ea6ec7a425f1f58a02ad029f735cda2517469ffb5cb6aaf907", func := "boarder/boarderlaw09.RecordRights", spec := "recordRights", unfollowed := true, recurses := true, apart := false }
def RecordRightsSaid : Prop := recordRightsRow.holds Try.pinned (OpenSpec.ofChange recordRightsSpec)

/-- ITS FALSE NEIGHBOUR: 'it returns false'. Refute it at one input. -/
def recordRightsWrong : ChangeSpec := { name := "recordRights", fn := fun _ => fun
  | [d] => { results := [.lit (.bool false)], args := [d] }
  | _ => none }
def RecordRightsWrongFalsely : Prop := recordRightsRow.holds Try.pinned (OpenSpec.ofChange recordRightsWrong)

/-- 'boarderlaw09.RecordWrites': WHATEVER THE INPUT: true; the input reads as it did. -/
def recordWritesSpec : ChangeSpec := { name := "recordWrites", fn := fun _ => fun
  | [d] => { results := [.lit (.bool true)], args := [d] }
  | _ => none }
def recordWritesRow : OpenClaim := { program := "ytplkgegmbkfncaa", sum := "b77ed59e1577a5ea6ec7a425f1f58a02ad029f735cda2517469ffb5cb6aaf907", func := "boarder/boarderlaw09.RecordWrites", spec := "recordWrites", unfollowed := true, recurses := true, apart := false }
def RecordWritesSaid : Prop := recordWritesRow.holds Try.pinned (OpenSpec.ofChange recordWritesSpec)

/-- ITS FALSE NEIGHBOUR: 'it returns false'. Refute it at one input. -/
def recordWritesWrong : ChangeSpec := { name := "recordWrites", fn := fun _ => fun
  | [d] => { results := [.lit (.bool false)], args := [d] }
  | _ => none }
def RecordWritesWrongFalsely : Prop := recordWritesRow.holds Try.pinned (OpenSpec.ofChange recordWritesWrong)

/-- 'boarderlaw09.RecordReads': WHATEVER THE INPUT: true; the input reads as it did. -/
def recordReadsSpec : ChangeSpec := { name := "recordReads", fn := fun _ => fun
  | [d] => { results := [.lit (.bool true)], args := [d] }
  | _ => none }
def recordReadsRow : OpenClaim := { program := "ytplkgegmbkfncaa", sum := "b77ed59e1577a5ea6ec7a425f1f58a02ad029f735cda2517469ffb5cb6aaf907", func := "boarder/boarderlaw09.RecordReads", spec := "recordReads", unfollowed := true, recurses := true, apart := false }
def RecordReadsSaid : Prop := recordReadsRow.holds Try.pinned (OpenSpec.ofChange recordReadsSpec)

/-- ITS FALSE NEIGHBOUR: 'it returns false'. Refute it at one input. -/
def recordReadsWrong : ChangeSpec := { name := "recordReads", fn := fun _ => fun
  | [d] => { results := [.lit (.bool false)], args := [d] }
  | _ => none }
def RecordReadsWrongFalsely : Prop := recordReadsRow.holds Try.pinned (OpenSpec.ofChange recordReadsWrong)

/-- 'boarderlaw09.RecordBack': WHATEVER THE INPUT: true; the input reads as it did. -/
def recordBackSpec : ChangeSpec := { name := "recordBack", fn := fun _ => fun
  | [d] => { results := [.lit (.bool true)], args := [d] }
  | _ => none }
def recordBackRow : OpenClaim := { program := "ytplkgegmbkfncaa", sum := "b77ed59e1577a5ea6ec7a425f1f58a02ad029f735cda2517469ffb5cb6aaf907", func := "boarder/boarderlaw09.RecordBack", spec := "recordBack", unfollowed := true, recurses := true, apart := false }
def RecordBackSaid : Prop := recordBackRow.holds Try.pinned (OpenSpec.ofChange recordBackSpec)

/-- ITS FALSE NEIGHBOUR: 'it returns false'. Refute it at one input. -/
def recordBackWrong : ChangeSpec := { name := "recordBack", fn := fun _ => fun
  | [d] => { results := [.lit (.bool false)], args := [d] }
  | _ => none }
def RecordBackWrongFalsely : Prop := recordBackRow.holds Try.pinned (OpenSpec.ofChange recordBackWrong)

/-- 'boarderlaw09.RecordOnly': WHATEVER THE INPUT: true; the input reads as it did. -/
def recordOnlySpec : ChangeSpec := { name := "recordOnly", fn := fun _ => fun
  | [d] => { results := [.lit (.bool true)], args := [d] }
  | _ => none }
def recordOnlyRow : OpenClaim := { program := "ytplkgegmbkfncaa", sum := "b77ed59e1577a5ea6ec7a425f1f58a02ad029f735cda2517469ffb5cb6aaf907", func := "boarder/boarderlaw09.RecordOnly", spec := "recordOnly", unfollowed := true, recurses := true, apart := false }
def RecordOnlySaid : Prop := recordOnlyRow.holds Try.pinned (OpenSpec.ofChange recordOnlySpec)

/-- ITS FALSE NEIGHBOUR: 'it returns false'. Refute it at one input. -/
def recordOnlyWrong : ChangeSpec := { name := "recordOnly", fn := fun _ => fun
  | [d] => { results := [.lit (.bool false)], args := [d] }
  | _ => none }
def RecordOnlyWrongFalsely : Prop := recordOnlyRow.holds Try.pinned (OpenSpec.ofChange recordOnlyWrong)

/- THE SECOND FORM. 'bulk': how many values and letters a reading holds, each counted each time it is reached (what is shared counts as often as it is met; a slice's spare places count too). A statement '..UptoSaid' is the law's where the arguments, and the package variables that the reading takes, are together of bulk at most 1048576: NARROWER than '..Said'. Prove '..Said' where nothing that the law and all that it calls make is longer than what came in: it says more and counts as full. Else prove '..UptoSaid'. A law counts once. -/
mutual
def uptoBulk {H : Type} : DataW H → Nat
  | .lit (.string bytes) => bytes.length + 1
  | .lit _ => 1
  | .nil => 1
  | .ptr d => uptoBulk d + 1
  | .slice elems spare => uptoBulkAll elems + uptoBulkAll spare + 1
  | .agg parts => uptoBulkAll parts + 1
  | .iface _ d => uptoBulk d + 1
  | .map entries => uptoBulkEntries entries + 1
  | .held _ => 1
def uptoBulkAll {H : Type} : List (DataW H) → Nat
  | [] => 0
  | d :: r => uptoBulk d + uptoBulkAll r
def uptoBulkEntries {H : Type} : List (Lit × DataW H) → Nat
  | [] => 0
  | x :: r => uptoBulkEntry x + uptoBulkEntries r
def uptoBulkEntry {H : Type} : Lit × DataW H → Nat
  | (.string bytes, d) => bytes.length + uptoBulk d + 1
  | (_, d) => uptoBulk d + 1
 end
def uptoSmall : (H : Type) → List (DataW H) → Bool := fun _ ds => decide (uptoBulkAll ds ≤ 1048576)
def OpenSpec.upto (s : _root_.Go.ChangeSpec) : _root_.Go.OpenSpec := { _root_.Go.OpenSpec.ofChange s with cond := some uptoSmall }

/-- 'boarderlaw06.RelayParts', WHERE WHAT IT READS IS OF BULK AT MOST 1048576: true; the input reads as it did. -/
def relayPartsUptoRow : OpenClaim := { program := "ytplkgegmbkfncaa", sum := "b77ed59e1577a5ea6ec7a425f1f58a02ad029f735cda2517469ffb5cb6aaf907", func := "boarder/boarderlaw06.RelayParts", spec := "relayParts", apart := false, narrowed := true }
def RelayPartsUptoSaid : Prop := relayPartsUptoRow.holds Try.pinned (OpenSpec.upto relayPartsSpec)

/-- 'boarderlaw06.RelayBytes', WHERE WHAT IT READS IS OF BULK AT MOST 1048576: true; the input reads as it did. -/
def relayBytesUptoRow : OpenClaim := { program := "ytplkgegmbkfncaa", sum := "b77ed59e1577a5ea6ec7a425f1f58a02ad029f735cda2517469ffb5cb6aaf907", func := "boarder/boarderlaw06.RelayBytes", spec := "relayBytes", apart := false, narrowed := true }
def RelayBytesUptoSaid : Prop := relayBytesUptoRow.holds Try.pinned (OpenSpec.upto relayBytesSpec)

/-- 'boarderlaw06.RelayLinks', WHERE WHAT IT READS IS OF BULK AT MOST 1048576: true; the input reads as it did. -/
def relayLinksUptoRow : OpenClaim := { program := "ytplkgegmbkfncaa", sum := "b77ed59e1577a5ea6ec7a425f1f58a02ad029f735cda2517469ffb5cb6aaf907", func := "boarder/boarderlaw06.RelayLinks", spec := "relayLinks", apart := false, narrowed := true }
def RelayLinksUptoSaid : Prop := relayLinksUptoRow.holds Try.pinned (OpenSpec.upto relayLinksSpec)

/-- 'boarderlaw06.RelayBack', WHERE WHAT IT READS IS OF BULK AT MOST 1048576: true; the input reads as it did. -/
def relayBackUptoRow : OpenClaim := { program := "ytplkgegmbkfncaa", sum := "b77ed59e1577a5ea6ec7a425f1f58a02ad029f735cda2517469ffb5cb6aaf907", func := "boarder/boarderlaw06.RelayBack", spec := "relayBack", apart := false, narrowed := true }
def RelayBackUptoSaid : Prop := relayBackUptoRow.holds Try.pinned (OpenSpec.upto relayBackSpec)

/-- 'boarderlaw06.RelayAgain', WHERE WHAT IT READS IS OF BULK AT MOST 1048576: true; the input reads as it did. -/
def relayAgainUptoRow : OpenClaim := { program := "ytplkgegmbkfncaa", sum := "b77ed59e1577a5ea6ec7a425f1f58a02ad029f735cda2517469ffb5cb6aaf907", func := "boarder/boarderlaw06.RelayAgain", spec := "relayAgain", apart := false, narrowed := true }
def RelayAgainUptoSaid : Prop := relayAgainUptoRow.holds Try.pinned (OpenSpec.upto relayAgainSpec)

/-- 'boarderlaw06.RelayFirst', WHERE WHAT IT READS IS OF BULK AT MOST 1048576: true; the input reads as it did. -/
def relayFirstUptoRow : OpenClaim := { program := "ytplkgegmbkfncaa", sum := "b77ed59e1577a5ea6ec7a425f1f58a02ad029f735cda2517469ffb5cb6aaf907", func := "boarder/boarderlaw06.RelayFirst", spec := "relayFirst", apart := false, narrowed := true }
def RelayFirstUptoSaid : Prop := relayFirstUptoRow.holds Try.pinned (OpenSpec.upto relayFirstSpec)

/-- 'boarderlaw09.RecordRights', WHERE WHAT IT READS IS OF BULK AT MOST 1048576: true; the input reads as it did. -/
def recordRightsUptoRow : OpenClaim := { program := "ytplkgegmbkfncaa", sum := "b77ed59e1577a5ea6ec7a425f1f58a02ad029f735cda2517469ffb5cb6aaf907", func := "boarder/boarderlaw09.RecordRights", spec := "recordRights", unfollowed := true, recurses := true, apart := false, narrowed := true }
def RecordRightsUptoSaid : Prop := recordRightsUptoRow.holds Try.pinned (OpenSpec.upto recordRightsSpec)

/-- 'boarderlaw09.RecordWrites', WHERE WHAT IT READS IS OF BULK AT MOST 1048576: true; the input reads as it did. -/
def recordWritesUptoRow : OpenClaim := { program := "ytplkgegmbkfncaa", sum := "b77ed59e1577a5ea6ec7a425f1f58a02ad029f735cda2517469ffb5cb6aaf907", func := "boarder/boarderlaw09.RecordWrites", spec := "recordWrites", unfollowed := true, recurses := true, apart := false, narrowed := true }
def RecordWritesUptoSaid : Prop := recordWritesUptoRow.holds Try.pinned (OpenSpec.upto recordWritesSpec)

/-- 'boarderlaw09.RecordReads', WHERE WHAT IT READS IS OF BULK AT MOST 1048576: true; the input reads as it did. -/
def recordReadsUptoRow : OpenClaim := { program := "ytplkgegmbkfncaa", sum := "b77ed59e1577a5ea6ec7a425f1f58a02ad029f735cda2517469ffb5cb6aaf907", func := "boarder/boarderlaw09.RecordReads", spec := "recordReads", unfollowed := true, recurses := true, apart := false, narrowed := true }
def RecordReadsUptoSaid : Prop := recordReadsUptoRow.holds Try.pinned (OpenSpec.upto recordReadsSpec)

/-- 'boarderlaw09.RecordBack', WHERE WHAT IT READS IS OF BULK AT MOST 1048576: true; the input reads as it did. -/
def recordBackUptoRow : OpenClaim := { program := "ytplkgegmbkfncaa", sum := "b77ed59e1577a5ea6ec7a425f1f58a02ad029f735cda2517469ffb5cb6aaf907", func := "boarder/boarderlaw09.RecordBack", spec := "recordBack", unfollowed := true, recurses := true, apart := false, narrowed := true }
def RecordBackUptoSaid : Prop := recordBackUptoRow.holds Try.pinned (OpenSpec.upto recordBackSpec)

/-- 'boarderlaw09.RecordOnly', WHERE WHAT IT READS IS OF BULK AT MOST 1048576: true; the input reads as it did. -/
def recordOnlyUptoRow : OpenClaim := { program := "ytplkgegmbkfncaa", sum := "b77ed59e1577a5ea6ec7a425f1f58a02ad029f735cda2517469ffb5cb6aaf907", func := "boarder/boarderlaw09.RecordOnly", spec := "recordOnly", unfollowed := true, recurses := true, apart := false, narrowed := true }
def RecordOnlyUptoSaid : Prop := recordOnlyUptoRow.holds Try.pinned (OpenSpec.upto recordOnlySpec)

end Rows
end Go.Proofs.Ytplkgegmbkfncaa
