/- What options say of the kind, of a number, and of what is asked for, is what the reference says. -/
import Derived.Test.YtiklcnlehlpdaaaOpsSame
import Derived.Test.YtiklcnlehlpdaaaPOpsx5
set_option linter.unusedVariables false
set_option linter.unusedSimpArgs false
namespace Go.Proofs.Ytiklcnlehlpdaaa.Pure
open Go.RowKit Go.Proofs.Ytiklcnlehlpdaaa.POps Go.Proofs.YtiklcnlehlpdaaaW.PrintWords Go.Proofs.YtiklcnlehlpdaaaW.PrintLast Go.Proofs.Ytiklcnlehlpdaaa.Plain
theorem OptsSays : boarderlaw05_OptsSays.Pure := by
  intro l c hl hw _
  have hb := bytes_of_wf70 hw
  refine Ev.rounds (g := fun n => boarderlaw05_OptsSays.f n l c) ?_
  unfold boarderlaw05_OptsSays.f
  obtain ⟨g, hg, hf⟩ := great_then l hl
  refine Ev.bind hg ?_
  cases g with
  | true => exact Ev.pos rfl knows_then
  | false =>
    obtain ⟨hfit, _⟩ := hf rfl
    refine Ev.neg (by decide) (Ev.bind (number_is l hfit hb c) (Ev.bind (rnumber_is l hfit hb c) (Ev.bind (kind_is l hfit) (Ev.bind (rkind_is l hfit) (Ev.pos rfl (Ev.pos rfl (Ev.pos (by simp) ?_)))))))
    refine Ev.bind (listed_is l hfit hb) (Ev.bind (rlisted_is l hfit hb) (Ev.bind (ints_is _ (find_len hfit 55)) (Ev.pos rfl ?_)))
    exact Ev.bind (wants_is l hfit hb c) (Ev.bind (rwants_is l hfit hb c) (Ev.pos (by simp) knows_then))
end Go.Proofs.Ytiklcnlehlpdaaa.Pure
