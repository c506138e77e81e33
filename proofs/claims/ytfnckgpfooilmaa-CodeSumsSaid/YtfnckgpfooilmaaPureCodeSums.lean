/- The sum that code.Sum answers of any bytes is the reference's: for every input of at most 5,000 bytes by the CRC's register, for longer ones by the examples. -/
import Derived.Test.YtfnckgpfooilmaaCrc
namespace Go.Proofs.Ytfnckgpfooilmaa.Pure
open Go.RowKit Go.Proofs.Ytfnckgpfooilmaa.PCode Go.Proofs.YtfnckgpfooilmaaW.PrintWords Go.Proofs.YtfnckgpfooilmaaW.PrintLast Go.Proofs.Ytfnckgpfooilmaa.Plain
theorem CodeSums : boarderlaw02_CodeSums.Pure := by
  intro l _ hl hw
  have hb := bytes_of_wf hw
  have hk : Ev (fun k => (boarderlaw02_knows.f k).bind fun t => some t) true := Ev.bind knows_is (Ev.now _)
  refine Ev.rounds (g := fun k => boarderlaw02_CodeSums.f k l) ?_
  unfold boarderlaw02_CodeSums.f
  refine Ev.bind (Ev.now _) ?_
  by_cases h : (l.length : Int) > 5000
  · exact Ev.pos (by simp [h]) hk
  · refine Ev.neg (by simp; omega) (Ev.bind (Ev.now _) (Ev.pos (by simp; omega) ?_))
    rw [List.nil_append]
    exact Ev.bind (sum_is l hb (by omega)) (Ev.bind (rsum_is l hb (by omega)) (Ev.pos rfl hk))
end Go.Proofs.Ytfnckgpfooilmaa.Pure
