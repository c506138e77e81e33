/- What is written is read back, whatever stands behind it. -/
import Derived.Test.YtiklcnlehlpdaaaTlvSame
set_option linter.unusedVariables false
set_option linter.unusedSimpArgs false
namespace Go.Proofs.Ytiklcnlehlpdaaa.Pure
open Go.RowKit Go.Proofs.Ytiklcnlehlpdaaa.PTlv Go.Proofs.YtiklcnlehlpdaaaW.PrintWords Go.Proofs.YtiklcnlehlpdaaaW.PrintLast Go.Proofs.Ytiklcnlehlpdaaa.Plain
theorem TlvBack : boarderlaw03_TlvBack.Pure := by
  intro l m hl hw hm _ hwm
  have hb := bytes_of_wf70 hw
  have hbm := bytes_of_wf hwm
  refine Ev.rounds (g := fun n => boarderlaw03_TlvBack.f n l m) ?_
  have bad : Ev (fun k => boarderlaw03_TlvBack.j0 k l m true) true := Ev.step (fun k => by rw [boarderlaw03_TlvBack.j0]) (Ev.pos rfl knows_then)
  unfold boarderlaw03_TlvBack.f
  obtain ⟨g, hg, hf⟩ := great_then l hl
  refine Ev.bind hg ?_
  cases g with
  | true => exact Ev.pos rfl bad
  | false =>
    obtain ⟨hfit, h100⟩ := hf rfl
    refine Ev.neg (by decide) ?_
    by_cases h : (m.length : Int) > 1000
    · rw [decide_eq_true h]; exact bad
    rw [decide_eq_false h]
    refine Ev.step (fun k => by rw [boarderlaw03_TlvBack.j0]) (Ev.neg (by decide) ?_)
    refine Ev.bind (write_is l hfit.1) ?_
    by_cases hr : Right3 l
    · rw [if_pos hr]
      have hf := writeL_fit hr
      refine Ev.pos rfl (Ev.bind (Ev.now _) (Ev.pos (by simp; omega) ?_))
      rw [List.nil_append]
      refine Ev.bind (Ev.now _) (Ev.pos (by show (writeL l).length + m.length < _; omega) ?_)
      refine Ev.bind (Ev.eq (read_is (writeL l ++ m) (by simp; omega) ((writeL_bytes hr hb).append hbm)) (read_write hr m)) ?_
      exact Ev.bind (same_is l (by omega)) (Ev.pos rfl (Ev.pos rfl knows_then))
    · rw [if_neg hr]
      exact Ev.neg (by decide) (Ev.pos rfl knows_then)
end Go.Proofs.Ytiklcnlehlpdaaa.Pure
