/- What a message is about, and whom it is for, is what the reference says. -/
import Derived.Test.YtiklcnlehlpdaaaClsBase
import Derived.Test.YtiklcnlehlpdaaaPOptx5
set_option linter.unusedVariables false
set_option linter.unusedSimpArgs false
namespace Go.Proofs.Ytiklcnlehlpdaaa.Pure
open Go.RowKit Go.Proofs.Ytiklcnlehlpdaaa.POpt Go.Proofs.YtiklcnlehlpdaaaW.PrintWords Go.Proofs.YtiklcnlehlpdaaaW.PrintLast Go.Proofs.Ytiklcnlehlpdaaa.Plain
theorem ClassOf : boarderlaw16_ClassOf.Pure := by
  intro a0 a1 a2 a3 a4 a5 a6 a7 a8 a9 a10 m l server _ _ _ _ _ _ _ _ _ _ _ _ _ hl hw _
  have hb := bytes_of_wf70 hw
  refine Ev.rounds (g := fun n => boarderlaw16_ClassOf.f n a0 a1 a2 a3 a4 a5 a6 a7 a8 a9 a10 m l server) ?_
  unfold boarderlaw16_ClassOf.f
  obtain ⟨g, hg, hf⟩ := great4_is a0 a1 a2 a3 a4 a5 a6 a7 a8 a9 a10 m l hl
  refine Ev.bind hg ?_
  cases g with
  | true => exact Ev.pos rfl knows_then
  | false =>
    have hfit := hf rfl
    refine Ev.neg (by decide) (Ev.bind (Ev.opt (show boarderlaw04_As.f a0 a1 a2 a3 a4 a5 a6 a7 a8 a9 a10 m l = some (a0, a1, a2, a3, a4, a5, a6, a7, a8, a9, a10, m, l) from rfl)) ?_)
    refine Ev.bind (of_is a0 a1 a2 a3 a4 a5 a6 a7 a8 a9 a10 m l hfit hb) (Ev.bind (rof_is a0 a1 a2 a3 a4 a5 a6 a7 a8 a9 a10 m l hfit hb) (Ev.pos rfl ?_))
    refine Ev.bind (about_is a0 a1 a2 a3 a4 a5 a6 a7 a8 a9 a10 m l hfit hb) (Ev.bind (rabout_is a0 a1 a2 a3 a4 a5 a6 a7 a8 a9 a10 m l hfit hb) (Ev.pos rfl ?_))
    exact Ev.bind (foreign_is a0 a1 a2 a3 a4 a5 a6 a7 a8 a9 a10 m l hfit hb server) (Ev.bind (rforeign_is a0 a1 a2 a3 a4 a5 a6 a7 a8 a9 a10 m l hfit hb server) (Ev.pos (by simp) knows_then))
end Go.Proofs.Ytiklcnlehlpdaaa.Pure
