/- A number that is set in four bytes is found, and so is a kind. -/
import Derived.Test.YtiklcnlehlpdaaaOpsSame
import Derived.Test.YtiklcnlehlpdaaaOpsSetNum
import Derived.Test.YtiklcnlehlpdaaaPOpsx7
set_option linter.unusedVariables false
set_option linter.unusedSimpArgs false
namespace Go.Proofs.Ytiklcnlehlpdaaa.Pure
open Go.RowKit Go.Proofs.Ytiklcnlehlpdaaa.POps Go.Proofs.YtiklcnlehlpdaaaW.PrintWords Go.Proofs.YtiklcnlehlpdaaaW.PrintLast Go.Proofs.Ytiklcnlehlpdaaa.Plain
theorem OptsFinds : boarderlaw05_OptsFinds.Pure := by
  intro l c v hl hw _ hv
  have hb := bytes_of_wf70 hw
  have hv := i64_of_wf hv
  refine Ev.rounds (g := fun k => boarderlaw05_OptsFinds.f k l c v) ?_
  unfold boarderlaw05_OptsFinds.f
  obtain ⟨g, hg, hf⟩ := great_then l hl
  refine Ev.bind hg ?_
  cases g with
  | true => exact Ev.pos rfl knows_then
  | false =>
    obtain ⟨hfit, h100⟩ := hf rfl
    have j0 : Ev (fun k => boarderlaw05_OptsFinds.j0 k l v) true := by
      refine Ev.step (fun k => by rw [boarderlaw05_OptsFinds.j0]) ?_
      refine Ev.bind (set_is l hfit 53 v 1 hv) ?_
      unfold setR
      by_cases h : May v 1
      · rw [if_pos ⟨h, by decide⟩]
        have hk := kind_keep l v h
        refine Ev.pos rfl (Ev.bind (kind_is _ (keepL_fit hfit (by omega) 53 (by rw [beL_length]; decide)).1) ?_)
        by_cases hv1 : 1 ≤ v ∧ v ≤ 8
        · rw [if_pos hv1] at hk
          exact Ev.pos hk knows_then
        · by_cases h0 : v = 0
          · exact Ev.pos (by rw [hk, if_neg hv1, h0]) knows_then
          · refine Ev.neg (by rw [hk, if_neg hv1]; omega) ?_
            by_cases h2 : v < 1
            · exact Ev.pos h2 knows_then
            · exact Ev.neg h2 (Ev.pos (by omega) knows_then)
      · rw [if_neg (fun hh => h hh.1)]
        refine Ev.neg (by decide) ?_
        by_cases h0 : v < 0
        · exact Ev.pos h0 knows_then
        · refine Ev.neg h0 (Ev.pos ?_ knows_then)
          rcases Int.lt_or_le 255 v with h2 | h2
          · exact h2
          · exact absurd (may1' (by omega) (by omega)) h
    refine Ev.neg (by decide) (Ev.bind (set_is l hfit c v 4 hv) ?_)
    unfold setR
    by_cases h : May v 4 ∧ 1 ≤ c ∧ c ≤ 254
    · rw [if_pos h]
      have hn := num_keep l c v h.1
      refine Ev.pos rfl (Ev.bind (number_is _ (keepL_fit hfit (by omega) c (by rw [beL_length]; decide)).1 (keepL_bytes hb c (beL_bytes _ _)) c) ?_)
      exact Ev.pos (by rw [hn]) (Ev.pos (by rw [hn]) j0)
    · rw [if_neg h]
      exact Ev.neg (by decide) j0
end Go.Proofs.Ytiklcnlehlpdaaa.Pure
