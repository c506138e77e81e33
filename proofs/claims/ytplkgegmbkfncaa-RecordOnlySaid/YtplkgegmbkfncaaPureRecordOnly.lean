/- What was read has just the bytes that it was read from. -/
import Derived.Test.YtplkgegmbkfncaaRecBase
import Derived.Test.YtplkgegmbkfncaaPRecx7
set_option linter.unusedVariables false
set_option linter.unusedSimpArgs false
namespace Go.Proofs.Ytplkgegmbkfncaa.Pure
open Go.RowKit Go.Proofs.Ytplkgegmbkfncaa.PRec Go.Proofs.YtplkgegmbkfncaaW.PrintWords Go.Proofs.YtplkgegmbkfncaaW.PrintLast Go.Proofs.Ytplkgegmbkfncaa.Plain
theorem RecordOnly : boarderlaw09_RecordOnly.Pure := by
  intro l _ hl hw
  have hb := bytes_of_wf hw
  refine Ev.rounds (g := fun n => boarderlaw09_RecordOnly.f n l) ?_
  unfold boarderlaw09_RecordOnly.f
  by_cases h : (l.length : Int) > 1000
  · exact Ev.pos h knows_then
  refine Ev.neg h (Ev.bind (Ev.now _) (Ev.pos (by simp; omega) ?_))
  rw [List.nil_append]
  refine Ev.bind (read_is l hb (by omega)) ?_
  have he : ((⟨#[]⟩ : ByteArray).toList == ([] : List UInt8)) = true := by rw [ByteArray.toList_eq]; rfl
  unfold readL
  by_cases h12 : l.length < 12
  · rw [if_pos h12]
    exact Ev.neg (by decide) (Ev.pos (by show ((0 : Int) == 0 && ((0 : Int) == 0 && ((0 : Int) == 0 && ((⟨#[]⟩ : ByteArray).toList == ([] : List UInt8))))) = true; rw [he]; rfl) knows_then)
  rw [if_neg h12]
  by_cases hm : May9 (valL (l.take 4)) (valL ((l.drop 4).take 1)) (valL ((l.drop 5).take 7)) (strOfNums (l.drop 12))
  · rw [if_pos hm]
    have hwr := Ev.eq (write_is _ _ _ _ (by rw [str_size]; simp; omega)) (if_pos hm)
    rw [rec_read l hb (by omega)] at hwr
    exact Ev.pos rfl (Ev.bind hwr (Ev.pos rfl (Ev.pos rfl knows_then)))
  · rw [if_neg hm]
    exact Ev.neg (by decide) (Ev.pos (by show ((0 : Int) == 0 && ((0 : Int) == 0 && ((0 : Int) == 0 && ((⟨#[]⟩ : ByteArray).toList == ([] : List UInt8))))) = true; rw [he]; rfl) knows_then)
end Go.Proofs.Ytplkgegmbkfncaa.Pure
