/- Parts have the bytes that the reference tells, or the error is told. -/
import Derived.Test.YtplkgegmbkfncaaRelBase
set_option linter.unusedVariables false
set_option linter.unusedSimpArgs false
namespace Go.Proofs.Ytplkgegmbkfncaa.Pure
open Go.RowKit Go.Proofs.Ytplkgegmbkfncaa.PRel Go.Proofs.YtplkgegmbkfncaaW.PrintWords Go.Proofs.YtplkgegmbkfncaaW.PrintLast Go.Proofs.Ytplkgegmbkfncaa.Plain
theorem RelayBytes : boarderlaw06_RelayBytes.Pure := by
  intro l hl hw
  refine Ev.rounds (g := fun k => boarderlaw06_RelayBytes.f k l) ?_
  unfold boarderlaw06_RelayBytes.f
  obtain ⟨g, hg, hg2⟩ := great_is l hl
  refine Ev.bind hg ?_
  by_cases h : g = true
  · exact Ev.pos h knows_then
  obtain ⟨h1, h2⟩ := hg2 (by simpa using h)
  exact Ev.neg h (Ev.bind (bytes_is l (by omega) h2) (Ev.bind (rbytes_is l (by omega)) (Ev.pos rfl (Ev.pos rfl knows_then))))
end Go.Proofs.Ytplkgegmbkfncaa.Pure
