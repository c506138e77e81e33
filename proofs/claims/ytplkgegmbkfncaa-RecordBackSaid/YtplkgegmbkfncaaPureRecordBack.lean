/- A lease that was written is read as it was. -/
import Derived.Test.YtplkgegmbkfncaaRecBase
import Derived.Test.YtplkgegmbkfncaaPRecx7
set_option linter.unusedVariables false
set_option linter.unusedSimpArgs false
namespace Go.Proofs.Ytplkgegmbkfncaa.Pure
open Go.RowKit Go.Proofs.Ytplkgegmbkfncaa.PRec Go.Proofs.YtplkgegmbkfncaaW.PrintWords Go.Proofs.YtplkgegmbkfncaaW.PrintLast Go.Proofs.Ytplkgegmbkfncaa.Plain
theorem RecordBack : boarderlaw09_RecordBack.Pure := by
  intro a s e k _ _ _ hk
  refine Ev.rounds (g := fun n => boarderlaw09_RecordBack.f n a s e k) ?_
  unfold boarderlaw09_RecordBack.f
  by_cases h : (k.size : Int) > 1000
  · exact Ev.pos h knows_then
  refine Ev.neg h (Ev.bind (write_is a s e k (by omega)) ?_)
  by_cases hm : May9 a s e k
  · rw [if_pos hm]
    have hr := Ev.eq (read_is (recL a s e k) (recL_bytes a s e k) (by rw [recL_length]; omega)) (read_rec a s e k hm)
    exact Ev.pos rfl (Ev.bind hr (Ev.pos (by simp) (Ev.pos rfl knows_then)))
  · rw [if_neg hm]
    exact Ev.neg (by decide) (Ev.pos rfl knows_then)
end Go.Proofs.Ytplkgegmbkfncaa.Pure
