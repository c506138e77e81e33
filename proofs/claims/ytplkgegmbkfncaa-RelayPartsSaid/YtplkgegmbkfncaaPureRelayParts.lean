/- Any bytes have the parts that the reference tells, or the error is told. -/
import Derived.Test.YtplkgegmbkfncaaRelBase
set_option linter.unusedVariables false
set_option linter.unusedSimpArgs false
namespace Go.Proofs.Ytplkgegmbkfncaa.Pure
open Go.RowKit Go.Proofs.Ytplkgegmbkfncaa.PRel Go.Proofs.YtplkgegmbkfncaaW.PrintWords Go.Proofs.YtplkgegmbkfncaaW.PrintLast Go.Proofs.Ytplkgegmbkfncaa.Plain
theorem RelayParts : boarderlaw06_RelayParts.Pure := by
  intro l _ hl hw
  have hb := bytes_of_wf hw
  refine Ev.rounds (g := fun k => boarderlaw06_RelayParts.f k l) ?_
  unfold boarderlaw06_RelayParts.f
  by_cases h : (l.length : Int) > 5000
  · exact Ev.pos h knows_then
  refine Ev.neg h (Ev.bind (Ev.now _) (Ev.pos (by simp; omega) ?_))
  rw [List.nil_append]
  have h2 := partsA_len l hb
  exact Ev.bind (parts_is l hb (by omega)) (Ev.bind (rparts_is l hb) (Ev.bind (same_is _ (by omega)) (Ev.pos rfl (Ev.pos rfl knows_then))))
end Go.Proofs.Ytplkgegmbkfncaa.Pure
