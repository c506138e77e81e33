/- An option is kept as the reference says, or the error is told. -/
import Derived.Test.YtiklcnlehlpdaaaOpsSame
import Derived.Test.YtiklcnlehlpdaaaPOpsx6
set_option linter.unusedVariables false
set_option linter.unusedSimpArgs false
namespace Go.Proofs.Ytiklcnlehlpdaaa.Pure
open Go.RowKit Go.Proofs.Ytiklcnlehlpdaaa.POps Go.Proofs.YtiklcnlehlpdaaaW.PrintWords Go.Proofs.YtiklcnlehlpdaaaW.PrintLast Go.Proofs.Ytiklcnlehlpdaaa.Plain
theorem OptsKeeps : boarderlaw05_OptsKeeps.Pure := by
  intro l c b hl hw _ _ hlb hwb
  have hb := bytes_of_wf70 hw
  refine Ev.rounds (g := fun n => boarderlaw05_OptsKeeps.f n l c b) ?_
  have bad : Ev (fun k => boarderlaw05_OptsKeeps.j0 k l c b true) true := Ev.step (fun k => by rw [boarderlaw05_OptsKeeps.j0]) (Ev.pos rfl knows_then)
  unfold boarderlaw05_OptsKeeps.f
  obtain ⟨g, hg, hf⟩ := great_then l hl
  refine Ev.bind hg ?_
  cases g with
  | true => exact Ev.pos rfl bad
  | false =>
    obtain ⟨hfit, h100⟩ := hf rfl
    refine Ev.neg (by decide) ?_
    by_cases h : (b.length : Int) > 1000
    · rw [decide_eq_true h]; exact bad
    rw [decide_eq_false h]
    refine Ev.step (fun k => by rw [boarderlaw05_OptsKeeps.j0]) (Ev.neg (by decide) ?_)
    refine Ev.bind (Ev.now _) (Ev.pos (by simp; omega) ?_)
    rw [List.nil_append]
    refine Ev.bind (keep_is l hfit c b (by omega)) (Ev.bind (Ev.opt (rfairc_is c b)) ?_)
    by_cases hc : FairC c b
    · rw [if_pos hc, decide_eq_true hc]
      refine Ev.pos rfl (Ev.bind (rkeep_is l hfit.1 c b) (Ev.bind (same_is _ (by have := (keepL_fit hfit (by omega) c (b := b) (by omega)).2; show (keepL l c b).length ≤ 1000000; omega)) (Ev.pos rfl (Ev.pos rfl knows_then))))
    · rw [if_neg hc, decide_eq_false hc]
      exact Ev.neg (by decide) (Ev.pos rfl (Ev.pos rfl knows_then))
end Go.Proofs.Ytiklcnlehlpdaaa.Pure
