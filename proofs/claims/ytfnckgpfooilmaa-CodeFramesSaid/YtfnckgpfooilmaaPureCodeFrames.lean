/- Bytes are framed as the reference says, or the error is told: the length, the sum and the bytes; more than 2,000 bytes are refused. -/
import Derived.Test.YtfnckgpfooilmaaCrc
namespace Go.Proofs.Ytfnckgpfooilmaa.Pure
open Go.RowKit Go.Proofs.Ytfnckgpfooilmaa.PCode Go.Proofs.YtfnckgpfooilmaaW.PrintWords Go.Proofs.YtfnckgpfooilmaaW.PrintLast Go.Proofs.Ytfnckgpfooilmaa.Plain
theorem CodeFrames : boarderlaw02_CodeFrames.Pure := by
  intro l _ hl hw
  have hb := bytes_of_wf hw
  have hk : Ev (fun k => (boarderlaw02_knows.f k).bind fun t => some t) true := Ev.bind knows_is (Ev.now _)
  refine Ev.rounds (g := fun k => boarderlaw02_CodeFrames.f k l) ?_
  unfold boarderlaw02_CodeFrames.f
  refine Ev.bind (Ev.now _) ?_
  by_cases h : (l.length : Int) > 5000
  · exact Ev.pos (by simp [h]) hk
  · refine Ev.neg (by simp; omega) (Ev.bind (Ev.now _) (Ev.pos (by simp; omega) ?_))
    rw [List.nil_append]
    refine Ev.bind (frame_is l hb (by omega)) ?_
    by_cases h2 : (l.length : Int) > 2000
    · rw [if_pos h2]
      exact Ev.pos h2 (Ev.pos rfl (Ev.pos rfl hk))
    · rw [if_neg h2]
      exact Ev.neg h2 (Ev.bind (rframe_is l hb (by omega)) (Ev.pos rfl (Ev.pos rfl hk)))
end Go.Proofs.Ytfnckgpfooilmaa.Pure
