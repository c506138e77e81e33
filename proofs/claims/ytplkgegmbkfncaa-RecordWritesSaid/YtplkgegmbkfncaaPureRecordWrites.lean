/- A lease is written as the reference says, or the error is told. -/
import Derived.Test.YtplkgegmbkfncaaRecBase
set_option linter.unusedVariables false
set_option linter.unusedSimpArgs false
namespace Go.Proofs.Ytplkgegmbkfncaa.Pure
open Go.RowKit Go.Proofs.Ytplkgegmbkfncaa.PRec Go.Proofs.YtplkgegmbkfncaaW.PrintWords Go.Proofs.YtplkgegmbkfncaaW.PrintLast Go.Proofs.Ytplkgegmbkfncaa.Plain
theorem RecordWrites : boarderlaw09_RecordWrites.Pure := by
  intro a s e k _ _ _ hk
  refine Ev.rounds (g := fun n => boarderlaw09_RecordWrites.f n a s e k) ?_
  unfold boarderlaw09_RecordWrites.f
  by_cases h : (k.size : Int) > 1000
  · exact Ev.pos h knows_then
  refine Ev.neg h (Ev.bind (write_is a s e k (by omega)) (Ev.bind (Ev.opt (rright_is a s e k)) ?_))
  by_cases hm : May9 a s e k
  · rw [if_pos hm, decide_eq_true hm]
    exact Ev.pos rfl (Ev.bind (rwrite_is a s e k (by omega) hm) (Ev.pos rfl (Ev.pos rfl knows_then)))
  · rw [if_neg hm, decide_eq_false hm]
    exact Ev.neg (by decide) (Ev.pos rfl (Ev.pos rfl knows_then))
end Go.Proofs.Ytplkgegmbkfncaa.Pure
