/- Bytes are read as the reference reads them. -/
import Derived.Test.YtiklcnlehlpdaaaTlvRefR
import Derived.Test.YtiklcnlehlpdaaaTlvSame
set_option linter.unusedVariables false
set_option linter.unusedSimpArgs false
namespace Go.Proofs.Ytiklcnlehlpdaaa.Pure
open Go.RowKit Go.Proofs.Ytiklcnlehlpdaaa.PTlv Go.Proofs.YtiklcnlehlpdaaaW.PrintWords Go.Proofs.YtiklcnlehlpdaaaW.PrintLast Go.Proofs.Ytiklcnlehlpdaaa.Plain
theorem TlvReads : boarderlaw03_TlvReads.Pure := by
  intro l hl _ hw
  have hb := bytes_of_wf hw
  refine Ev.rounds (g := fun n => boarderlaw03_TlvReads.f n l) ?_
  unfold boarderlaw03_TlvReads.f
  by_cases h : (l.length : Int) > 5000
  · exact Ev.pos h knows_then
  refine Ev.neg h (Ev.bind (Ev.now _) (Ev.pos (by simp; omega) ?_))
  rw [List.nil_append]
  refine Ev.bind (read_is l (by omega) hb) (Ev.bind (rread_is l (by omega) hb) (Ev.bind (same_is _ (readA_len l hb)) ?_))
  exact Ev.pos rfl (Ev.pos rfl knows_then)
end Go.Proofs.Ytiklcnlehlpdaaa.Pure
