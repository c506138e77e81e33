/- Which leases are right. -/
import Derived.Test.YtplkgegmbkfncaaRecBase
set_option linter.unusedVariables false
set_option linter.unusedSimpArgs false
namespace Go.Proofs.Ytplkgegmbkfncaa.Pure
open Go.RowKit Go.Proofs.Ytplkgegmbkfncaa.PRec Go.Proofs.YtplkgegmbkfncaaW.PrintWords Go.Proofs.YtplkgegmbkfncaaW.PrintLast Go.Proofs.Ytplkgegmbkfncaa.Plain
theorem RecordRights : boarderlaw09_RecordRights.Pure := by
  intro a s e k _ _ _ hk
  refine Ev.rounds (g := fun n => boarderlaw09_RecordRights.f n a s e k) ?_
  unfold boarderlaw09_RecordRights.f
  by_cases h : (k.size : Int) > 1000
  · exact Ev.pos h knows_then
  exact Ev.neg h (Ev.bind (Ev.opt (right_is a s e k (by omega))) (Ev.bind (Ev.opt (rright_is a s e k)) (Ev.pos (by simp) knows_then)))
end Go.Proofs.Ytplkgegmbkfncaa.Pure
