/- Right options are written as the reference says, and others are not. -/
import Derived.Test.YtiklcnlehlpdaaaTlvRefW
import Derived.Test.YtiklcnlehlpdaaaPTlvx7
set_option linter.unusedVariables false
set_option linter.unusedSimpArgs false
namespace Go.Proofs.Ytiklcnlehlpdaaa.Pure
open Go.RowKit Go.Proofs.Ytiklcnlehlpdaaa.PTlv Go.Proofs.YtiklcnlehlpdaaaW.PrintWords Go.Proofs.YtiklcnlehlpdaaaW.PrintLast Go.Proofs.Ytiklcnlehlpdaaa.Plain
theorem TlvWrites : boarderlaw03_TlvWrites.Pure := by
  intro l hl hw
  refine Ev.rounds (g := fun n => boarderlaw03_TlvWrites.f n l) ?_
  unfold boarderlaw03_TlvWrites.f
  obtain ⟨g, hg, hf⟩ := great_then l hl
  refine Ev.bind hg ?_
  cases g with
  | true => exact Ev.pos rfl knows_then
  | false =>
    obtain ⟨hfit, h100⟩ := hf rfl
    refine Ev.neg (by decide) ?_
    refine Ev.bind (write_is l hfit.1) (Ev.bind (rright_is l (by omega)) ?_)
    by_cases h : Right3 l
    · rw [if_pos h, decide_eq_true h]
      exact Ev.pos rfl (Ev.bind (rwrite_is l h) (Ev.pos rfl (Ev.pos rfl knows_then)))
    · rw [if_neg h, decide_eq_false h]
      exact Ev.neg (by decide) (Ev.pos rfl (Ev.pos rfl knows_then))
end Go.Proofs.Ytiklcnlehlpdaaa.Pure
