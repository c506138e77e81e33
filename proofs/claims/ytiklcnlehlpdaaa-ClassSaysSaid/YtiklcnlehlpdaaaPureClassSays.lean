/- What is selecting says whom it selects, and what it wants; what is foreign is neither a reboot nor an extension. -/
import Derived.Test.YtiklcnlehlpdaaaClsBase
import Derived.Test.YtiklcnlehlpdaaaPOptx6
set_option linter.unusedVariables false
set_option linter.unusedSimpArgs false
namespace Go.Proofs.Ytiklcnlehlpdaaa.Pure
open Go.RowKit Go.Proofs.Ytiklcnlehlpdaaa.POpt Go.Proofs.YtiklcnlehlpdaaaW.PrintWords Go.Proofs.YtiklcnlehlpdaaaW.PrintLast Go.Proofs.Ytiklcnlehlpdaaa.Plain
theorem ofB_one {s w : Bool} {ci : Int} (h : ofB s w ci = 1) : s = true ∧ w = true := by
  unfold ofB at h
  by_cases hc : ci = 0 <;> cases s <;> cases w <;> simp [hc] at h ⊢
theorem ofB_more {s w : Bool} {ci : Int} (h : ofB s w ci = 2 ∨ ofB s w ci = 3) : s = false := by
  unfold ofB at h
  by_cases hc : ci = 0 <;> cases s <;> cases w <;> simp [hc] at h ⊢
theorem ofL_kind {ci : Int} {l : List S70} (h : ofL ci l ≠ 0) : kindL l = 3 ∧ ofL ci l = ofB (num 54 l).2 (num 50 l).2 ci := by
  unfold ofL at h ⊢
  by_cases hk : kindL l = 3
  · rw [if_pos hk]; exact ⟨hk, rfl⟩
  · rw [if_neg hk] at h; exact absurd rfl h
theorem ClassSays : boarderlaw16_ClassSays.Pure := by
  intro a0 a1 a2 a3 a4 a5 a6 a7 a8 a9 a10 m l server _ _ _ _ _ _ _ _ _ _ _ _ _ hl hw _
  have hb := bytes_of_wf70 hw
  refine Ev.rounds (g := fun n => boarderlaw16_ClassSays.f n a0 a1 a2 a3 a4 a5 a6 a7 a8 a9 a10 m l server) ?_
  unfold boarderlaw16_ClassSays.f
  obtain ⟨g, hg, hf⟩ := great4_is a0 a1 a2 a3 a4 a5 a6 a7 a8 a9 a10 m l hl
  refine Ev.bind hg ?_
  cases g with
  | true => exact Ev.pos rfl knows_then
  | false =>
    have hfit := hf rfl
    refine Ev.neg (by decide) (Ev.bind (of_is a0 a1 a2 a3 a4 a5 a6 a7 a8 a9 a10 m l hfit hb) (Ev.bind (rnumber_is l hfit hb 54) (Ev.bind (rnumber_is l hfit hb 50) ?_)))
    have j1 : Ev (fun k => boarderlaw16_ClassSays.j1 k (ofL a7 l) false a0 a1 a2 a3 a4 a5 a6 a7 a8 a9 a10 m l) true := by
      refine Ev.step (fun k => by rw [boarderlaw16_ClassSays.j1]) (Ev.neg (by decide) ?_)
      by_cases h0 : ofL a7 l = 0
      · exact Ev.pos h0 knows_then
      · exact Ev.neg h0 (Ev.bind (rkind_is l hfit) (Ev.pos (ofL_kind h0).1 knows_then))
    have j0 : Ev (fun k => boarderlaw16_ClassSays.j0 k server (ofL a7 l) false a0 a1 a2 a3 a4 a5 a6 a7 a8 a9 a10 m l) true := by
      refine Ev.step (fun k => by rw [boarderlaw16_ClassSays.j0]) (Ev.neg (by decide) (Ev.bind (foreign_is a0 a1 a2 a3 a4 a5 a6 a7 a8 a9 a10 m l hfit hb server) ?_))
      by_cases hfo : foreignL server l = true
      · have hs : (num 54 l).2 = true := by unfold foreignL at hfo; simp at hfo; exact hfo.1
        have hno : ¬ (ofL a7 l = 2 ∨ ofL a7 l = 3) := by
          intro h
          have e := (ofL_kind (ci := a7) (l := l) (by omega)).2
          rw [e] at h
          rw [ofB_more h] at hs
          cases hs
        refine Ev.pos hfo (Ev.neg (fun h => hno (Or.inl h)) ?_)
        rw [show (ofL a7 l == 3) = false from beq_eq_false_iff_ne.mpr (fun h => hno (Or.inr h))]
        exact j1
      · exact Ev.neg hfo j1
    by_cases h1 : ofL a7 l = 1
    · have e := (ofL_kind (ci := a7) (l := l) (by omega)).2
      obtain ⟨hs, hwn⟩ := ofB_one (e.symm.trans h1)
      have hab : aboutL a7 l = (num 50 l).1 := by unfold aboutL; rw [if_pos (Or.inl h1)]
      refine Ev.pos h1 (Ev.pos hs (Ev.pos hwn (Ev.bind (about_is a0 a1 a2 a3 a4 a5 a6 a7 a8 a9 a10 m l hfit hb) (Ev.pos hab (Ev.bind (foreign_is a0 a1 a2 a3 a4 a5 a6 a7 a8 a9 a10 m l hfit hb _) ?_)))))
      rw [show foreignL (num 54 l).1 l = false by unfold foreignL; simp]
      exact j0
    · exact Ev.neg h1 j0
end Go.Proofs.Ytiklcnlehlpdaaa.Pure
