/- A number is set as the reference says, or the error is told. -/
import Derived.Test.YtiklcnlehlpdaaaOpsSame
import Derived.Test.YtiklcnlehlpdaaaOpsRef
import Derived.Test.YtiklcnlehlpdaaaPOpsx6
set_option linter.unusedVariables false
set_option linter.unusedSimpArgs false
namespace Go.Proofs.Ytiklcnlehlpdaaa.Pure
open Go.RowKit Go.Proofs.Ytiklcnlehlpdaaa.POps Go.Proofs.YtiklcnlehlpdaaaW.PrintWords Go.Proofs.YtiklcnlehlpdaaaW.PrintLast Go.Proofs.Ytiklcnlehlpdaaa.Plain
theorem OptsSets : boarderlaw05_OptsSets.Pure := by
  intro l c v n hl hw _ hv _
  have hb := bytes_of_wf70 hw
  have hv := i64_of_wf hv
  refine Ev.rounds (g := fun k => boarderlaw05_OptsSets.f k l c v n) ?_
  unfold boarderlaw05_OptsSets.f
  obtain ⟨g, hg, hf⟩ := great_then l hl
  refine Ev.bind hg ?_
  cases g with
  | true => exact Ev.pos rfl knows_then
  | false =>
    obtain ⟨hfit, h100⟩ := hf rfl
    refine Ev.neg (by decide) (Ev.bind (set_is l hfit c v n hv) (Ev.bind (rfair_is v n) ?_))
    have bad : Ev (fun k => boarderlaw05_OptsSets.j0 k l c v n [] 1 true) true := by
      refine Ev.step (fun k => by rw [boarderlaw05_OptsSets.j0]) (Ev.pos rfl ?_)
      exact Ev.pos rfl (Ev.pos rfl knows_then)
    unfold setR
    by_cases h : May v n
    · rw [decide_eq_true h]
      refine Ev.pos rfl (Ev.bind (Ev.opt (rfairc_is c [])) ?_)
      by_cases hc : 1 ≤ c ∧ c ≤ 254
      · rw [if_pos ⟨h, hc⟩, decide_eq_true (show FairC c [] from ⟨hc.1, hc.2, by simp⟩)]
        obtain ⟨h1, h2, h3, h4⟩ := h
        obtain ⟨m, rfl⟩ := Int.eq_ofNat_of_zero_le (show 0 ≤ n by omega)
        refine Ev.step (fun k => by rw [boarderlaw05_OptsSets.j0]) (Ev.neg (by decide) ?_)
        refine Ev.bind (rput_is m (by omega) v h3 (by omega)) (Ev.bind (rkeep_is l hfit.1 c _) (Ev.bind (same_is _ ?_) (Ev.pos rfl (Ev.pos rfl knows_then))))
        have := (keepL_fit hfit (by omega) c (b := beL m v) (by rw [beL_length]; omega)).2
        rw [Int.toNat_natCast]
        show (keepL l c (beL m v)).length ≤ 1000000
        omega
      · rw [if_neg (fun hh => hc hh.2), decide_eq_false (show ¬ FairC c [] from fun hh => hc ⟨hh.1, hh.2.1⟩)]
        exact bad
    · rw [if_neg (fun hh => h hh.1), decide_eq_false h]
      exact Ev.neg (by decide) bad
end Go.Proofs.Ytiklcnlehlpdaaa.Pure
