/- The bytes of a code are found, and the right options known, as the reference says. -/
import Derived.Test.YtiklcnlehlpdaaaTlvProg
import Derived.Test.YtiklcnlehlpdaaaPTlvx6
set_option linter.unusedVariables false
set_option linter.unusedSimpArgs false
namespace Go.Proofs.Ytiklcnlehlpdaaa.Pure
open Go.RowKit Go.Proofs.Ytiklcnlehlpdaaa.PTlv Go.Proofs.YtiklcnlehlpdaaaW.PrintWords Go.Proofs.YtiklcnlehlpdaaaW.PrintLast Go.Proofs.Ytiklcnlehlpdaaa.Plain
theorem TlvRights : boarderlaw03_TlvRights.Pure := by
  intro l c hl hw _
  refine Ev.rounds (g := fun n => boarderlaw03_TlvRights.f n l c) ?_
  unfold boarderlaw03_TlvRights.f
  obtain ⟨g, hg, hf⟩ := great_then l hl
  refine Ev.bind hg ?_
  cases g with
  | true => exact Ev.pos rfl knows_then
  | false =>
    obtain ⟨hfit, h100⟩ := hf rfl
    refine Ev.neg (by decide) ?_
    refine Ev.bind (find_is l hfit c) (Ev.bind (rfind_is l hfit.1 c) (Ev.bind (tright_is l hfit.1) (Ev.bind (rright_is l (by omega)) ?_)))
    exact Ev.pos (by simp) (Ev.pos rfl (Ev.pos (by simp) knows_then))
end Go.Proofs.Ytiklcnlehlpdaaa.Pure
