/- Any bytes are read as the reference says, or the error is told. -/
import Derived.Test.YtplkgegmbkfncaaRecBase
import Derived.Test.YtplkgegmbkfncaaPRecx7
set_option linter.unusedVariables false
set_option linter.unusedSimpArgs false
namespace Go.Proofs.Ytplkgegmbkfncaa.Pure
open Go.RowKit Go.Proofs.Ytplkgegmbkfncaa.PRec Go.Proofs.YtplkgegmbkfncaaW.PrintWords Go.Proofs.YtplkgegmbkfncaaW.PrintLast Go.Proofs.Ytplkgegmbkfncaa.Plain
theorem RecordReads : boarderlaw09_RecordReads.Pure := by
  intro l _ hl hw
  have hb := bytes_of_wf hw
  refine Ev.rounds (g := fun n => boarderlaw09_RecordReads.f n l) ?_
  unfold boarderlaw09_RecordReads.f
  by_cases h : (l.length : Int) > 1000
  · exact Ev.pos h knows_then
  refine Ev.neg h (Ev.bind (Ev.now _) (Ev.pos (by simp; omega) ?_))
  rw [List.nil_append]
  exact Ev.bind (read_is l hb (by omega)) (Ev.bind (rread_is l hb (by omega)) (Ev.pos (by simp) (Ev.pos rfl knows_then)))
end Go.Proofs.Ytplkgegmbkfncaa.Pure
