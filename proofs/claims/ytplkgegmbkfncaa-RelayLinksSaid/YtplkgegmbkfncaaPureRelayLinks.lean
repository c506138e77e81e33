/- The link that is told is the reference's. -/
import Derived.Test.YtplkgegmbkfncaaRelBase
set_option linter.unusedVariables false
set_option linter.unusedSimpArgs false
namespace Go.Proofs.Ytplkgegmbkfncaa.Pure
open Go.RowKit Go.Proofs.Ytplkgegmbkfncaa.PRel Go.Proofs.YtplkgegmbkfncaaW.PrintWords Go.Proofs.YtplkgegmbkfncaaW.PrintLast Go.Proofs.Ytplkgegmbkfncaa.Plain
theorem RelayLinks : boarderlaw06_RelayLinks.Pure := by
  intro l _ hl hw
  have hb := bytes_of_wf hw
  refine Ev.rounds (g := fun k => boarderlaw06_RelayLinks.f k l) ?_
  unfold boarderlaw06_RelayLinks.f
  by_cases h : (l.length : Int) > 5000
  · exact Ev.pos h knows_then
  refine Ev.neg h (Ev.bind (linkof_is l hb (by omega)) (Ev.bind (rlink_is l hb (by omega)) (Ev.pos rfl (Ev.pos (by simp) knows_then))))
end Go.Proofs.Ytplkgegmbkfncaa.Pure
