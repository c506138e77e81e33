/- A link that is put ahead of all parts is the one that is told. -/
import Derived.Test.YtplkgegmbkfncaaRelBase
set_option linter.unusedVariables false
set_option linter.unusedSimpArgs false
namespace Go.Proofs.Ytplkgegmbkfncaa.Pure
open Go.RowKit Go.Proofs.Ytplkgegmbkfncaa.PRel Go.Proofs.YtplkgegmbkfncaaW.PrintWords Go.Proofs.YtplkgegmbkfncaaW.PrintLast Go.Proofs.Ytplkgegmbkfncaa.Plain
theorem RelayFirst : boarderlaw06_RelayFirst.Pure := by
  intro l a _ hl hw ha0
  have hb := bytes_of_wf hw
  have ha := i64_of_wf ha0
  refine Ev.rounds (g := fun k => boarderlaw06_RelayFirst.f k l a) ?_
  have hgreat : Ev (fun k => boarderlaw06_RelayFirst.j0 k l a true) true := Ev.step (fun k => by rw [boarderlaw06_RelayFirst.j0]) (Ev.pos rfl knows_then)
  unfold boarderlaw06_RelayFirst.f
  refine Ev.bind (rparts_is l hb) ?_
  by_cases h5 : (l.length : Int) > 500
  · exact Ev.pos h5 hgreat
  refine Ev.neg h5 ?_
  by_cases hz : (partsA l).2 = 0
  · refine Ev.pos hz ?_
    by_cases h0 : a < 0
    · exact Ev.pos h0 hgreat
    refine Ev.neg h0 ?_
    by_cases h1 : a > 4294967295
    · rw [decide_eq_true h1]; exact hgreat
    rw [decide_eq_false h1]
    refine Ev.step (fun k => by rw [boarderlaw06_RelayFirst.j0]) (Ev.neg (by simp) ?_)
    refine Ev.bind (Ev.now _) ?_
    refine Ev.pos (by simp; omega) ?_
    have hb6 : Bytes ([5, 4, (a / 16777216) % 256, (a / 65536) % 256, (a / 256) % 256, a % 256] ++ l) := by
      refine Bytes.append ?_ hb
      exact Bytes.cons (by omega) (Bytes.cons (by omega) (Bytes.cons (by omega) (Bytes.cons (by omega) (Bytes.cons (by omega) (Bytes.cons (by omega) Bytes.nil)))))
    have hlink : link (partsA ([5, 4, (a / 16777216) % 256, (a / 65536) % 256, (a / 256) % 256, a % 256] ++ l)).1 = (a, true) := by
      unfold partsA at hz ⊢
      rw [if_neg (by omega)] at hz
      rw [if_neg (by simp; omega)]
      cases hp : parts l with
      | none => rw [hp] at hz; exact absurd hz (by decide)
      | some ps =>
        have e : parts ([5, 4, (a / 16777216) % 256, (a / 65536) % 256, (a / 256) % 256, a % 256] ++ l) = some (⟨5, [(a / 16777216) % 256, (a / 65536) % 256, (a / 256) % 256, a % 256]⟩ :: ps) := by
          show parts (5 :: 4 :: ((a / 16777216) % 256 :: (a / 65536) % 256 :: (a / 256) % 256 :: a % 256 :: l)) = _
          rw [parts, if_neg (by simp; omega), show (4 : Int).toNat = 4 from rfl]
          simp only [List.drop_succ_cons, List.drop_zero, List.take_succ_cons, List.take_zero, hp]
          rfl
        rw [e]
        simp only [partsR, List.nil_append, link]
        rw [if_pos trivial, if_pos (by rfl)]
        congr 1
        simp only [valL, List.foldl]
        omega
    refine Ev.bind (Ev.eq (linkof_is _ hb6 (by simp; omega)) hlink) ?_
    exact Ev.pos rfl (Ev.pos rfl knows_then)
  · exact Ev.neg hz hgreat
end Go.Proofs.Ytplkgegmbkfncaa.Pure
