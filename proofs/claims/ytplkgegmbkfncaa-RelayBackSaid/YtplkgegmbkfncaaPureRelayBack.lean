/- Parts come back from their bytes. -/
import Derived.Test.YtplkgegmbkfncaaRelBase
set_option linter.unusedVariables false
set_option linter.unusedSimpArgs false
namespace Go.Proofs.Ytplkgegmbkfncaa.Pure
open Go.RowKit Go.Proofs.Ytplkgegmbkfncaa.PRel Go.Proofs.YtplkgegmbkfncaaW.PrintWords Go.Proofs.YtplkgegmbkfncaaW.PrintLast Go.Proofs.Ytplkgegmbkfncaa.Plain
theorem RelayBack : boarderlaw06_RelayBack.Pure := by
  intro l hl hw
  refine Ev.rounds (g := fun k => boarderlaw06_RelayBack.f k l) ?_
  unfold boarderlaw06_RelayBack.f
  obtain ⟨g, hg, hg2⟩ := great_is l hl
  refine Ev.bind hg ?_
  by_cases h : g = true
  · exact Ev.pos h knows_then
  obtain ⟨h1, h2⟩ := hg2 (by simpa using h)
  refine Ev.neg h (Ev.bind (bytes_is l (by omega) h2) ?_)
  unfold bytesA
  by_cases hok : okB l = true
  · rw [if_pos hok]
    by_cases h6 : (bytesL l).length > 600
    · rw [if_pos h6]; exact Ev.neg (by decide) (Ev.pos rfl knows_then)
    · rw [if_neg h6]
      have hp : partsA (bytesL l) = (l, 0) := by
        unfold partsA
        rw [if_neg h6, parts_bytesL l hok]
        rfl
      refine Ev.pos rfl (Ev.bind (Ev.eq (parts_is (bytesL l) (bytesL_bytes l hok (bytes_of_wf51 hw)) (by omega)) hp) ?_)
      exact Ev.bind (same_is l (by omega)) (Ev.pos rfl (Ev.pos rfl knows_then))
  · rw [if_neg hok]; exact Ev.neg (by decide) (Ev.pos rfl knows_then)
end Go.Proofs.Ytplkgegmbkfncaa.Pure
