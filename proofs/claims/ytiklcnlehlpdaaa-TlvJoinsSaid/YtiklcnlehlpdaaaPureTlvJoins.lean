/- Options are joined as the reference joins them. -/
import Derived.Test.YtiklcnlehlpdaaaTljRJn
set_option linter.unusedVariables false
set_option linter.unusedSimpArgs false
namespace Go.Proofs.Ytiklcnlehlpdaaa.Pure
open Go.RowKit Go.Proofs.Ytiklcnlehlpdaaa.PTlj Go.Proofs.YtiklcnlehlpdaaaW.PrintWords Go.Proofs.YtiklcnlehlpdaaaW.PrintLast Go.Proofs.Ytiklcnlehlpdaaa.Plain
theorem TlvJoins : boarderlaw03_TlvJoins.Pure := by
  intro l m hl _ hm _
  refine Ev.rounds (g := fun n => boarderlaw03_TlvJoins.f n l m) ?_
  have bad : Ev (fun k => boarderlaw03_TlvJoins.j0 k l m true) true := Ev.step (fun k => by rw [boarderlaw03_TlvJoins.j0]) (Ev.pos rfl knows_then)
  unfold boarderlaw03_TlvJoins.f
  obtain ⟨g, hg, hf⟩ := great_then l hl
  obtain ⟨g2, hg2, hf2⟩ := great_then m hm
  refine Ev.bind hg ?_
  cases g with
  | true => exact Ev.pos rfl bad
  | false =>
    refine Ev.neg (by decide) (Ev.bind hg2 ?_)
    cases g2 with
    | true => exact bad
    | false =>
      obtain ⟨hfit, h100⟩ := hf rfl
      obtain ⟨hfit2, h1002⟩ := hf2 rfl
      refine Ev.step (fun k => by rw [boarderlaw03_TlvJoins.j0]) (Ev.neg (by decide) ?_)
      refine Ev.bind (jn_is l m hfit.1 hfit2.1) (Ev.bind (rjn_is l m hfit.1 hfit2.1) (Ev.bind (same_is _ (jn_len l m)) ?_))
      exact Ev.pos rfl (Ev.pos rfl knows_then)
end Go.Proofs.Ytiklcnlehlpdaaa.Pure
