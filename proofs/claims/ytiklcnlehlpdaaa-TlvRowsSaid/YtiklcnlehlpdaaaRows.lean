/-
  No cell of these rows narrows 'for every input' (looked for: loops, veiled, ifaces, maps, wideKeys, modest, calm, conditions, laid).
  DERIVED. THE GIVEN ROWS OF THIS SEAT. 16 by the template 'for every input the law returns true; each argument reads behind the call as it read before'; 0 by the template 'total and deterministic' (their statements: YtiklcnlehlpdaaaTotals.lean).
  GIVEN WITH THE SEED: the statements are not yours to turn. If you find one false, say at which input.
  Laid BY PROGRAM, IN A SANDBOX (cutbox-rows.mjs): the forced cells as the released guide's own fill.sh prints them over the translation 27fefad0550bdc60… (all of the seat's roots in one cut). By AI agents, Wed Nov 11 2026. No macro, syntax, notation, axiom, sorry.
-/
import Derived.Test.YtiklcnlehlpdaaaChecked
import GoSem.Claim
import GoSem.ClaimJoined
import GoSem.ClaimMapViews
import Derived.JoinedTies
import Derived.KernelRfl
namespace Go.Proofs.Ytiklcnlehlpdaaa
/- THE CELL 'sum', in the pinned program and in every row, IS THE sha256 OF THE DUMP (.gsa) THAT YtiklcnlehlpdaaaProg.lean LOADS. Nothing in Lean hashes anything: it is a label: what it is worth is what the hold of that sum in a sandbox is worth. -/
noncomputable def Try.pinned : Pinned := { name := "ytiklcnlehlpdaaa", sum := "27fefad0550bdc60fe9f4b6e7813d1fb6d3d325d3eba6b717e014d97374216d6", checked := Try.checked }
namespace Rows
def none {H : Type} : Left H := { results := [], args := [] }

/-- 'boarderlaw03.TlvRights': WHATEVER THE INPUT: true; the input reads as it did. -/
def tlvRightsSpec : ChangeSpec := { name := "tlvRights", fn := fun _ => fun
  | [d1, d2] => { results := [.lit (.bool true)], args := [d1, d2] }
  | _ => none }
def tlvRightsRow : OpenClaim := { program := "ytiklcnlehlpdaaa", sum := "27fefad0550bdc60fe9f4b6e7813d1fb6d3d325d3eba6b717e014d97374216d6", func := "boarder/boarderlaw03.TlvRights", spec := "tlvRights", unfollowed := true, recurses := true, apart := false }
def TlvRightsSaid : Prop := tlvRightsRow.holds Try.pinned (OpenSpec.ofChange tlvRightsSpec)

/-- ITS FALSE NEIGHBOUR: 'it returns false'. Refute it at one input. -/
def tlvRightsWrong : ChangeSpec := { name := "tlvRights", fn := fun _ => fun
  | [d1, d2] => { results := [.lit (.bool false)], args := [d1, d2] }
  | _ => none }
def TlvRightsWrongFalsely : Prop := tlvRightsRow.holds Try.pinned (OpenSpec.ofChange tlvRightsWrong)

/-- 'boarderlaw03.TlvWrites': WHATEVER THE INPUT: true; the input reads as it did. -/
def tlvWritesSpec : ChangeSpec := { name := "tlvWrites", fn := fun _ => fun
  | [d] => { results := [.lit (.bool true)], args := [d] }
  | _ => none }
def tlvWritesRow : OpenClaim := { program := "ytiklcnlehlpdaaa", sum := "27fefad0550bdc60fe9f4b6e7813d1fb6d3d325d3eba6b717e014d97374216d6", func := "boarder/boarderlaw03.TlvWrites", spec := "tlvWrites", unfollowed := true, recurses := true, apart := false }
def TlvWritesSaid : Prop := tlvWritesRow.holds Try.pinned (OpenSpec.ofChange tlvWritesSpec)

/-- ITS FALSE NEIGHBOUR: 'it returns false'. Refute it at one input. -/
def tlvWritesWrong : ChangeSpec := { name := "tlvWrites", fn := fun _ => fun
  | [d] => { results := [.lit (.bool false)], args := [d] }
  | _ => none }
def TlvWritesWrongFalsely : Prop := tlvWritesRow.holds Try.pinned (OpenSpec.ofChange tlvWritesWrong)

/-- 'boarderlaw03.TlvReads': WHATEVER THE INPUT: true; the input reads as it did. -/
def tlvReadsSpec : ChangeSpec := { name := "tlvReads", fn := fun _ => fun
  | [d] => { results := [.lit (.bool true)], args := [d] }
  | _ => none }
def tlvReadsRow : OpenClaim := { program := "ytiklcnlehlpdaaa", sum := "27fefad0550bdc60fe9f4b6e7813d1fb6d3d325d3eba6b717e014d97374216d6", func := "boarder/boarderlaw03.TlvReads", spec := "tlvReads", unfollowed := true, recurses := true, apart := false }
def TlvReadsSaid : Prop := tlvReadsRow.holds Try.pinned (OpenSpec.ofChange tlvReadsSpec)

/-- ITS FALSE NEIGHBOUR: 'it returns false'. Refute it at one input. -/
def tlvReadsWrong : ChangeSpec := { name := "tlvReads", fn := fun _ => fun
  | [d] => { results := [.lit (.bool false)], args := [d] }
  | _ => none }
def TlvReadsWrongFalsely : Prop := tlvReadsRow.holds Try.pinned (OpenSpec.ofChange tlvReadsWrong)

/-- 'boarderlaw03.TlvBack': WHATEVER THE INPUT: true; the input reads as it did. -/
def tlvBackSpec : ChangeSpec := { name := "tlvBack", fn := fun _ => fun
  | [d1, d2] => { results := [.lit (.bool true)], args := [d1, d2] }
  | _ => none }
def tlvBackRow : OpenClaim := { program := "ytiklcnlehlpdaaa", sum := "27fefad0550bdc60fe9f4b6e7813d1fb6d3d325d3eba6b717e014d97374216d6", func := "boarder/boarderlaw03.TlvBack", spec := "tlvBack", unfollowed := true, recurses := true, apart := false }
def TlvBackSaid : Prop := tlvBackRow.holds Try.pinned (OpenSpec.ofChange tlvBackSpec)

/-- ITS FALSE NEIGHBOUR: 'it returns false'. Refute it at one input. -/
def tlvBackWrong : ChangeSpec := { name := "tlvBack", fn := fun _ => fun
  | [d1, d2] => { results := [.lit (.bool false)], args := [d1, d2] }
  | _ => none }
def TlvBackWrongFalsely : Prop := tlvBackRow.holds Try.pinned (OpenSpec.ofChange tlvBackWrong)

/-- 'boarderlaw03.TlvAny': WHATEVER THE INPUT: true; the input reads as it did. -/
def tlvAnySpec : ChangeSpec := { name := "tlvAny", fn := fun _ => fun
  | [d1, d2] => { results := [.lit (.bool true)], args := [d1, d2] }
  | _ => none }
def tlvAnyRow : OpenClaim := { program := "ytiklcnlehlpdaaa", sum := "27fefad0550bdc60fe9f4b6e7813d1fb6d3d325d3eba6b717e014d97374216d6", func := "boarder/boarderlaw03.TlvAny", spec := "tlvAny", unfollowed := true, recurses := true, apart := false }
def TlvAnySaid : Prop := tlvAnyRow.holds Try.pinned (OpenSpec.ofChange tlvAnySpec)

/-- ITS FALSE NEIGHBOUR: 'it returns false'. Refute it at one input. -/
def tlvAnyWrong : ChangeSpec := { name := "tlvAny", fn := fun _ => fun
  | [d1, d2] => { results := [.lit (.bool false)], args := [d1, d2] }
  | _ => none }
def TlvAnyWrongFalsely : Prop := tlvAnyRow.holds Try.pinned (OpenSpec.ofChange tlvAnyWrong)

/-- 'boarderlaw16.ClassOf': WHATEVER THE INPUT: true; the input reads as it did. -/
def classOfSpec : ChangeSpec := { name := "classOf", fn := fun _ => fun
  | [d1, d2] => { results := [.lit (.bool true)], args := [d1, d2] }
  | _ => none }
def classOfRow : OpenClaim := { program := "ytiklcnlehlpdaaa", sum := "27fefad0550bdc60fe9f4b6e7813d1fb6d3d325d3eba6b717e014d97374216d6", func := "boarder/boarderlaw16.ClassOf", spec := "classOf", unfollowed := true, recurses := true, apart := false }
def ClassOfSaid : Prop := classOfRow.holds Try.pinned (OpenSpec.ofChange classOfSpec)

/-- ITS FALSE NEIGHBOUR: 'it returns false'. Refute it at one input. -/
def classOfWrong : ChangeSpec := { name := "classOf", fn := fun _ => fun
  | [d1, d2] => { results := [.lit (.bool false)], args := [d1, d2] }
  | _ => none }
def ClassOfWrongFalsely : Prop := classOfRow.holds Try.pinned (OpenSpec.ofChange classOfWrong)

/-- 'boarderlaw16.ClassSays': WHATEVER THE INPUT: true; the input reads as it did. -/
def classSaysSpec : ChangeSpec := { name := "classSays", fn := fun _ => fun
  | [d1, d2] => { results := [.lit (.bool true)], args := [d1, d2] }
  | _ => none }
def classSaysRow : OpenClaim := { program := "ytiklcnlehlpdaaa", sum := "27fefad0550bdc60fe9f4b6e7813d1fb6d3d325d3eba6b717e014d97374216d6", func := "boarder/boarderlaw16.ClassSays", spec := "classSays", unfollowed := true, recurses := true, apart := false }
def ClassSaysSaid : Prop := classSaysRow.holds Try.pinned (OpenSpec.ofChange classSaysSpec)

/-- ITS FALSE NEIGHBOUR: 'it returns false'. Refute it at one input. -/
def classSaysWrong : ChangeSpec := { name := "classSays", fn := fun _ => fun
  | [d1, d2] => { results := [.lit (.bool false)], args := [d1, d2] }
  | _ => none }
def ClassSaysWrongFalsely : Prop := classSaysRow.holds Try.pinned (OpenSpec.ofChange classSaysWrong)

/-- 'boarderlaw03.TlvJoins': WHATEVER THE INPUT: true; the input reads as it did. -/
def tlvJoinsSpec : ChangeSpec := { name := "tlvJoins", fn := fun _ => fun
  | [d1, d2] => { results := [.lit (.bool true)], args := [d1, d2] }
  | _ => none }
def tlvJoinsRow : OpenClaim := { program := "ytiklcnlehlpdaaa", sum := "27fefad0550bdc60fe9f4b6e7813d1fb6d3d325d3eba6b717e014d97374216d6", func := "boarder/boarderlaw03.TlvJoins", spec := "tlvJoins", unfollowed := true, recurses := true, apart := false }
def TlvJoinsSaid : Prop := tlvJoinsRow.holds Try.pinned (OpenSpec.ofChange tlvJoinsSpec)

/-- ITS FALSE NEIGHBOUR: 'it returns false'. Refute it at one input. -/
def tlvJoinsWrong : ChangeSpec := { name := "tlvJoins", fn := fun _ => fun
  | [d1, d2] => { results := [.lit (.bool false)], args := [d1, d2] }
  | _ => none }
def TlvJoinsWrongFalsely : Prop := tlvJoinsRow.holds Try.pinned (OpenSpec.ofChange tlvJoinsWrong)

/-- 'boarderlaw03.TlvRows': WHATEVER THE INPUT: true; the input reads as it did. -/
def tlvRowsSpec : ChangeSpec := { name := "tlvRows", fn := fun _ => fun
  | [d1, d2] => { results := [.lit (.bool true)], args := [d1, d2] }
  | _ => none }
def tlvRowsRow : OpenClaim := { program := "ytiklcnlehlpdaaa", sum := "27fefad0550bdc60fe9f4b6e7813d1fb6d3d325d3eba6b717e014d97374216d6", func := "boarder/boarderlaw03.TlvRows", spec := "tlvRows", unfollowed := true, recurses := true, apart := false }
def TlvRowsSaid : Prop := tlvRowsRow.holds Try.pinned (OpenSpec.ofChange tlvRowsSpec)

/-- ITS FALSE NEIGHBOUR: 'it returns false'. Refute it at one input. -/
def tlvRowsWrong : ChangeSpec := { name := "tlvRows", fn := fun _ => fun
  | [d1, d2] => { results := [.lit (.bool false)], args := [d1, d2] }
  | _ => none }
def TlvRowsWrongFalsely : Prop := tlvRowsRow.holds Try.pinned (OpenSpec.ofChange tlvRowsWrong)

/-- 'boarderlaw05.OptsSays': WHATEVER THE INPUT: true; the input reads as it did. -/
def optsSaysSpec : ChangeSpec := { name := "optsSays", fn := fun _ => fun
  | [d1, d2] => { results := [.lit (.bool true)], args := [d1, d2] }
  | _ => none }
def optsSaysRow : OpenClaim := { program := "ytiklcnlehlpdaaa", sum := "27fefad0550bdc60fe9f4b6e7813d1fb6d3d325d3eba6b717e014d97374216d6", func := "boarder/boarderlaw05.OptsSays", spec := "optsSays", unfollowed := true, recurses := true, apart := false }
def OptsSaysSaid : Prop := optsSaysRow.holds Try.pinned (OpenSpec.ofChange optsSaysSpec)

/-- ITS FALSE NEIGHBOUR: 'it returns false'. Refute it at one input. -/
def optsSaysWrong : ChangeSpec := { name := "optsSays", fn := fun _ => fun
  | [d1, d2] => { results := [.lit (.bool false)], args := [d1, d2] }
  | _ => none }
def OptsSaysWrongFalsely : Prop := optsSaysRow.holds Try.pinned (OpenSpec.ofChange optsSaysWrong)

/-- 'boarderlaw05.OptsKeeps': WHATEVER THE INPUT: true; the input reads as it did. -/
def optsKeepsSpec : ChangeSpec := { name := "optsKeeps", fn := fun _ => fun
  | [d1, d2, d3] => { results := [.lit (.bool true)], args := [d1, d2, d3] }
  | _ => none }
def optsKeepsRow : OpenClaim := { program := "ytiklcnlehlpdaaa", sum := "27fefad0550bdc60fe9f4b6e7813d1fb6d3d325d3eba6b717e014d97374216d6", func := "boarder/boarderlaw05.OptsKeeps", spec := "optsKeeps", unfollowed := true, recurses := true, apart := false }
def OptsKeepsSaid : Prop := optsKeepsRow.holds Try.pinned (OpenSpec.ofChange optsKeepsSpec)

/-- ITS FALSE NEIGHBOUR: 'it returns false'. Refute it at one input. -/
def optsKeepsWrong : ChangeSpec := { name := "optsKeeps", fn := fun _ => fun
  | [d1, d2, d3] => { results := [.lit (.bool false)], args := [d1, d2, d3] }
  | _ => none }
def OptsKeepsWrongFalsely : Prop := optsKeepsRow.holds Try.pinned (OpenSpec.ofChange optsKeepsWrong)

/-- 'boarderlaw05.OptsSets': WHATEVER THE INPUT: true; the input reads as it did. -/
def optsSetsSpec : ChangeSpec := { name := "optsSets", fn := fun _ => fun
  | [d1, d2, d3, d4] => { results := [.lit (.bool true)], args := [d1, d2, d3, d4] }
  | _ => none }
def optsSetsRow : OpenClaim := { program := "ytiklcnlehlpdaaa", sum := "27fefad0550bdc60fe9f4b6e7813d1fb6d3d325d3eba6b717e014d97374216d6", func := "boarder/boarderlaw05.OptsSets", spec := "optsSets", unfollowed := true, recurses := true, apart := false }
def OptsSetsSaid : Prop := optsSetsRow.holds Try.pinned (OpenSpec.ofChange optsSetsSpec)

/-- ITS FALSE NEIGHBOUR: 'it returns false'. Refute it at one input. -/
def optsSetsWrong : ChangeSpec := { name := "optsSets", fn := fun _ => fun
  | [d1, d2, d3, d4] => { results := [.lit (.bool false)], args := [d1, d2, d3, d4] }
  | _ => none }
def OptsSetsWrongFalsely : Prop := optsSetsRow.holds Try.pinned (OpenSpec.ofChange optsSetsWrong)

/-- 'boarderlaw05.OptsFinds': WHATEVER THE INPUT: true; the input reads as it did. -/
def optsFindsSpec : ChangeSpec := { name := "optsFinds", fn := fun _ => fun
  | [d1, d2, d3] => { results := [.lit (.bool true)], args := [d1, d2, d3] }
  | _ => none }
def optsFindsRow : OpenClaim := { program := "ytiklcnlehlpdaaa", sum := "27fefad0550bdc60fe9f4b6e7813d1fb6d3d325d3eba6b717e014d97374216d6", func := "boarder/boarderlaw05.OptsFinds", spec := "optsFinds", unfollowed := true, recurses := true, apart := false }
def OptsFindsSaid : Prop := optsFindsRow.holds Try.pinned (OpenSpec.ofChange optsFindsSpec)

/-- ITS FALSE NEIGHBOUR: 'it returns false'. Refute it at one input. -/
def optsFindsWrong : ChangeSpec := { name := "optsFinds", fn := fun _ => fun
  | [d1, d2, d3] => { results := [.lit (.bool false)], args := [d1, d2, d3] }
  | _ => none }
def OptsFindsWrongFalsely : Prop := optsFindsRow.holds Try.pinned (OpenSpec.ofChange optsFindsWrong)

/-- 'boarderlaw05.OptsOthers': WHATEVER THE INPUT: true; the input reads as it did. -/
def optsOthersSpec : ChangeSpec := { name := "optsOthers", fn := fun _ => fun
  | [d1, d2, d3, d4] => { results := [.lit (.bool true)], args := [d1, d2, d3, d4] }
  | _ => none }
def optsOthersRow : OpenClaim := { program := "ytiklcnlehlpdaaa", sum := "27fefad0550bdc60fe9f4b6e7813d1fb6d3d325d3eba6b717e014d97374216d6", func := "boarder/boarderlaw05.OptsOthers", spec := "optsOthers", unfollowed := true, recurses := true, apart := false }
def OptsOthersSaid : Prop := optsOthersRow.holds Try.pinned (OpenSpec.ofChange optsOthersSpec)

/-- ITS FALSE NEIGHBOUR: 'it returns false'. Refute it at one input. -/
def optsOthersWrong : ChangeSpec := { name := "optsOthers", fn := fun _ => fun
  | [d1, d2, d3, d4] => { results := [.lit (.bool false)], args := [d1, d2, d3, d4] }
  | _ => none }
def OptsOthersWrongFalsely : Prop := optsOthersRow.holds Try.pinned (OpenSpec.ofChange optsOthersWrong)

/-- 'boarderlaw16.ClassMade': WHATEVER THE INPUT: true; the input reads as it did. -/
def classMadeSpec : ChangeSpec := { name := "classMade", fn := fun _ => fun
  | [d1, d2] => { results := [.lit (.bool true)], args := [d1, d2] }
  | _ => none }
def classMadeRow : OpenClaim := { program := "ytiklcnlehlpdaaa", sum := "27fefad0550bdc60fe9f4b6e7813d1fb6d3d325d3eba6b717e014d97374216d6", func := "boarder/boarderlaw16.ClassMade", spec := "classMade", unfollowed := true, recurses := true, apart := false }
def ClassMadeSaid : Prop := classMadeRow.holds Try.pinned (OpenSpec.ofChange classMadeSpec)

/-- ITS FALSE NEIGHBOUR: 'it returns false'. Refute it at one input. -/
def classMadeWrong : ChangeSpec := { name := "classMade", fn := fun _ => fun
  | [d1, d2] => { results := [.lit (.bool false)], args := [d1, d2] }
  | _ => none }
def ClassMadeWrongFalsely : Prop := classMadeRow.holds Try.pinned (OpenSpec.ofChange classMadeWrong)

/-- 'boarderlaw16.ClassOthers': WHATEVER THE INPUT: true; the input reads as it did. -/
def classOthersSpec : ChangeSpec := { name := "classOthers", fn := fun _ => fun
  | [d1, d2] => { results := [.lit (.bool true)], args := [d1, d2] }
  | _ => none }
def classOthersRow : OpenClaim := { program := "ytiklcnlehlpdaaa", sum := "27fefad0550bdc60fe9f4b6e7813d1fb6d3d325d3eba6b717e014d97374216d6", func := "boarder/boarderlaw16.ClassOthers", spec := "classOthers", unfollowed := true, recurses := true, apart := false }
def ClassOthersSaid : Prop := classOthersRow.holds Try.pinned (OpenSpec.ofChange classOthersSpec)

/-- ITS FALSE NEIGHBOUR: 'it returns false'. Refute it at one input. -/
def classOthersWrong : ChangeSpec := { name := "classOthers", fn := fun _ => fun
  | [d1, d2] => { results := [.lit (.bool false)], args := [d1, d2] }
  | _ => none }
def ClassOthersWrongFalsely : Prop := classOthersRow.holds Try.pinned (OpenSpec.ofChange classOthersWrong)

/- THE SECOND FORM. 'bulk': how many values and letters a reading holds, each counted each time it is reached (what is shared counts as often as it is met; a slice's spare places count too). A statement '..UptoSaid' is the law's where the arguments, and the package variables that the reading takes, are together of bulk at most 1048576: NARROWER than '..Said'. Prove '..Said' where nothing that the law and all that it calls make is longer than what came in: it says more and counts as full. Else prove '..UptoSaid'. A law counts once. -/
mutual
def uptoBulk {H : Type} : DataW H → Nat
  | .lit (.string bytes) => bytes.length + 1
  | .lit _ => 1
  | .nil => 1
  | .ptr d => uptoBulk d + 1
  | .slice elems spare => uptoBulkAll elems + uptoBulkAll spare + 1
  | .agg parts => uptoBulkAll parts + 1
  | .iface _ d => uptoBulk d + 1
  | .map entries => uptoBulkEntries entries + 1
  | .held _ => 1
def uptoBulkAll {H : Type} : List (DataW H) → Nat
  | [] => 0
  | d :: r => uptoBulk d + uptoBulkAll r
def uptoBulkEntries {H : Type} : List (Lit × DataW H) → Nat
  | [] => 0
  | x :: r => uptoBulkEntry x + uptoBulkEntries r
def uptoBulkEntry {H : Type} : Lit × DataW H → Nat
  | (.string bytes, d) => bytes.length + uptoBulk d + 1
  | (_, d) => uptoBulk d + 1
 end
def uptoSmall : (H : Type) → List (DataW H) → Bool := fun _ ds => decide (uptoBulkAll ds ≤ 1048576)
def OpenSpec.upto (s : _root_.Go.ChangeSpec) : _root_.Go.OpenSpec := { _root_.Go.OpenSpec.ofChange s with cond := some uptoSmall }

/-- 'boarderlaw03.TlvRights', WHERE WHAT IT READS IS OF BULK AT MOST 1048576: true; the input reads as it did. -/
def tlvRightsUptoRow : OpenClaim := { program := "ytiklcnlehlpdaaa", sum := "27fefad0550bdc60fe9f4b6e7813d1fb6d3d325d3eba6b717e014d97374216d6", func := "boarder/boarderlaw03.TlvRights", spec := "tlvRights", unfollowed := true, recurses := true, apart := false, narrowed := true }
def TlvRightsUptoSaid : Prop := tlvRightsUptoRow.holds Try.pinned (OpenSpec.upto tlvRightsSpec)

/-- 'boarderlaw03.TlvWrites', WHERE WHAT IT READS IS OF BULK AT MOST 1048576: true; the input reads as it did. -/
def tlvWritesUptoRow : OpenClaim := { program := "ytiklcnlehlpdaaa", sum := "27fefad0550bdc60fe9f4b6e7813d1fb6d3d325d3eba6b717e014d97374216d6", func := "boarder/boarderlaw03.TlvWrites", spec := "tlvWrites", unfollowed := true, recurses := true, apart := false, narrowed := true }
def TlvWritesUptoSaid : Prop := tlvWritesUptoRow.holds Try.pinned (OpenSpec.upto tlvWritesSpec)

/-- 'boarderlaw03.TlvReads', WHERE WHAT IT READS IS OF BULK AT MOST 1048576: true; the input reads as it did. -/
def tlvReadsUptoRow : OpenClaim := { program := "ytiklcnlehlpdaaa", sum := "27fefad0550bdc60fe9f4b6e7813d1fb6d3d325d3eba6b717e014d97374216d6", func := "boarder/boarderlaw03.TlvReads", spec := "tlvReads", unfollowed := true, recurses := true, apart := false, narrowed := true }
def TlvReadsUptoSaid : Prop := tlvReadsUptoRow.holds Try.pinned (OpenSpec.upto tlvReadsSpec)

/-- 'boarderlaw03.TlvBack', WHERE WHAT IT READS IS OF BULK AT MOST 1048576: true; the input reads as it did. -/
def tlvBackUptoRow : OpenClaim := { program := "ytiklcnlehlpdaaa", sum := "27fefad0550bdc60fe9f4b6e7813d1fb6d3d325d3eba6b717e014d97374216d6", func := "boarder/boarderlaw03.TlvBack", spec := "tlvBack", unfollowed := true, recurses := true, apart := false, narrowed := true }
def TlvBackUptoSaid : Prop := tlvBackUptoRow.holds Try.pinned (OpenSpec.upto tlvBackSpec)

/-- 'boarderlaw03.TlvAny', WHERE WHAT IT READS IS OF BULK AT MOST 1048576: true; the input reads as it did. -/
def tlvAnyUptoRow : OpenClaim := { program := "ytiklcnlehlpdaaa", sum := "27fefad0550bdc60fe9f4b6e7813d1fb6d3d325d3eba6b717e014d97374216d6", func := "boarder/boarderlaw03.TlvAny", spec := "tlvAny", unfollowed := true, recurses := true, apart := false, narrowed := true }
def TlvAnyUptoSaid : Prop := tlvAnyUptoRow.holds Try.pinned (OpenSpec.upto tlvAnySpec)

/-- 'boarderlaw16.ClassOf', WHERE WHAT IT READS IS OF BULK AT MOST 1048576: true; the input reads as it did. -/
def classOfUptoRow : OpenClaim := { program := "ytiklcnlehlpdaaa", sum := "27fefad0550bdc60fe9f4b6e7813d1fb6d3d325d3eba6b717e014d97374216d6", func := "boarder/boarderlaw16.ClassOf", spec := "classOf", unfollowed := true, recurses := true, apart := false, narrowed := true }
def ClassOfUptoSaid : Prop := classOfUptoRow.holds Try.pinned (OpenSpec.upto classOfSpec)

/-- 'boarderlaw16.ClassSays', WHERE WHAT IT READS IS OF BULK AT MOST 1048576: true; the input reads as it did. -/
def classSaysUptoRow : OpenClaim := { program := "ytiklcnlehlpdaaa", sum := "27fefad0550bdc60fe9f4b6e7813d1fb6d3d325d3eba6b717e014d97374216d6", func := "boarder/boarderlaw16.ClassSays", spec := "classSays", unfollowed := true, recurses := true, apart := false, narrowed := true }
def ClassSaysUptoSaid : Prop := classSaysUptoRow.holds Try.pinned (OpenSpec.upto classSaysSpec)

/-- 'boarderlaw03.TlvJoins', WHERE WHAT IT READS IS OF BULK AT MOST 1048576: true; the input reads as it did. -/
def tlvJoinsUptoRow : OpenClaim := { program := "ytiklcnlehlpdaaa", sum := "27fefad0550bdc60fe9f4b6e7813d1fb6d3d325d3eba6b717e014d97374216d6", func := "boarder/boarderlaw03.TlvJoins", spec := "tlvJoins", unfollowed := true, recurses := true, apart := false, narrowed := true }
def TlvJoinsUptoSaid : Prop := tlvJoinsUptoRow.holds Try.pinned (OpenSpec.upto tlvJoinsSpec)

/-- 'boarderlaw03.TlvRows', WHERE WHAT IT READS IS OF BULK AT MOST 1048576: true; the input reads as it did. -/
def tlvRowsUptoRow : OpenClaim := { program := "ytiklcnlehlpdaaa", sum := "27fefad0550bdc60fe9f4b6e7813d1fb6d3d325d3eba6b717e014d97374216d6", func := "boarder/boarderlaw03.TlvRows", spec := "tlvRows", unfollowed := true, recurses := true, apart := false, narrowed := true }
def TlvRowsUptoSaid : Prop := tlvRowsUptoRow.holds Try.pinned (OpenSpec.upto tlvRowsSpec)

/-- 'boarderlaw05.OptsSays', WHERE WHAT IT READS IS OF BULK AT MOST 1048576: true; the input reads as it did. -/
def optsSaysUptoRow : OpenClaim := { program := "ytiklcnlehlpdaaa", sum := "27fefad0550bdc60fe9f4b6e7813d1fb6d3d325d3eba6b717e014d97374216d6", func := "boarder/boarderlaw05.OptsSays", spec := "optsSays", unfollowed := true, recurses := true, apart := false, narrowed := true }
def OptsSaysUptoSaid : Prop := optsSaysUptoRow.holds Try.pinned (OpenSpec.upto optsSaysSpec)

/-- 'boarderlaw05.OptsKeeps', WHERE WHAT IT READS IS OF BULK AT MOST 1048576: true; the input reads as it did. -/
def optsKeepsUptoRow : OpenClaim := { program := "ytiklcnlehlpdaaa", sum := "27fefad0550bdc60fe9f4b6e7813d1fb6d3d325d3eba6b717e014d97374216d6", func := "boarder/boarderlaw05.OptsKeeps", spec := "optsKeeps", unfollowed := true, recurses := true, apart := false, narrowed := true }
def OptsKeepsUptoSaid : Prop := optsKeepsUptoRow.holds Try.pinned (OpenSpec.upto optsKeepsSpec)

/-- 'boarderlaw05.OptsSets', WHERE WHAT IT READS IS OF BULK AT MOST 1048576: true; the input reads as it did. -/
def optsSetsUptoRow : OpenClaim := { program := "ytiklcnlehlpdaaa", sum := "27fefad0550bdc60fe9f4b6e7813d1fb6d3d325d3eba6b717e014d97374216d6", func := "boarder/boarderlaw05.OptsSets", spec := "optsSets", unfollowed := true, recurses := true, apart := false, narrowed := true }
def OptsSetsUptoSaid : Prop := optsSetsUptoRow.holds Try.pinned (OpenSpec.upto optsSetsSpec)

/-- 'boarderlaw05.OptsFinds', WHERE WHAT IT READS IS OF BULK AT MOST 1048576: true; the input reads as it did. -/
def optsFindsUptoRow : OpenClaim := { program := "ytiklcnlehlpdaaa", sum := "27fefad0550bdc60fe9f4b6e7813d1fb6d3d325d3eba6b717e014d97374216d6", func := "boarder/boarderlaw05.OptsFinds", spec := "optsFinds", unfollowed := true, recurses := true, apart := false, narrowed := true }
def OptsFindsUptoSaid : Prop := optsFindsUptoRow.holds Try.pinned (OpenSpec.upto optsFindsSpec)

/-- 'boarderlaw05.OptsOthers', WHERE WHAT IT READS IS OF BULK AT MOST 1048576: true; the input reads as it did. -/
def optsOthersUptoRow : OpenClaim := { program := "ytiklcnlehlpdaaa", sum := "27fefad0550bdc60fe9f4b6e7813d1fb6d3d325d3eba6b717e014d97374216d6", func := "boarder/boarderlaw05.OptsOthers", spec := "optsOthers", unfollowed := true, recurses := true, apart := false, narrowed := true }
def OptsOthersUptoSaid : Prop := optsOthersUptoRow.holds Try.pinned (OpenSpec.upto optsOthersSpec)

/-- 'boarderlaw16.ClassMade', WHERE WHAT IT READS IS OF BULK AT MOST 1048576: true; the input reads as it did. -/
def classMadeUptoRow : OpenClaim := { program := "ytiklcnlehlpdaaa", sum := "27fefad0550bdc60fe9f4b6e7813d1fb6d3d325d3eba6b717e014d97374216d6", func := "boarder/boarderlaw16.ClassMade", spec := "classMade", unfollowed := true, recurses := true, apart := false, narrowed := true }
def ClassMadeUptoSaid : Prop := classMadeUptoRow.holds Try.pinned (OpenSpec.upto classMadeSpec)

/-- 'boarderlaw16.ClassOthers', WHERE WHAT IT READS IS OF BULK AT MOST 1048576: true; the input reads as it did. -/
def classOthersUptoRow : OpenClaim := { program := "ytiklcnlehlpdaaa", sum := "27fefad0550bdc60fe9f4b6e7813d1fb6d3d325d3eba6b717e014d97374216d6", func := "boarder/boarderlaw16.ClassOthers", spec := "classOthers", unfollowed := true, recurses := true, apart := false, narrowed := true }
def ClassOthersUptoSaid : Prop := classOthersUptoRow.holds Try.pinned (OpenSpec.upto classOthersSpec)

end Rows
end Go.Proofs.Ytiklcnlehlpdaaa
