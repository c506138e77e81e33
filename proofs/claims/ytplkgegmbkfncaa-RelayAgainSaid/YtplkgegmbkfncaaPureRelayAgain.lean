/- Bytes come back from their parts. -/
import Derived.Test.YtplkgegmbkfncaaRelBase
set_option linter.unusedVariables false
set_option linter.unusedSimpArgs false
namespace Go.Proofs.Ytplkgegmbkfncaa.Pure
open Go.RowKit Go.Proofs.Ytplkgegmbkfncaa.PRel Go.Proofs.YtplkgegmbkfncaaW.PrintWords Go.Proofs.YtplkgegmbkfncaaW.PrintLast Go.Proofs.Ytplkgegmbkfncaa.Plain
theorem RelayAgain : boarderlaw06_RelayAgain.Pure := by
  intro l _ hl hw
  have hb := bytes_of_wf hw
  refine Ev.rounds (g := fun k => boarderlaw06_RelayAgain.f k l) ?_
  unfold boarderlaw06_RelayAgain.f
  by_cases h : (l.length : Int) > 5000
  · exact Ev.pos h knows_then
  refine Ev.neg h (Ev.bind (Ev.now _) (Ev.pos (by simp; omega) ?_))
  rw [List.nil_append]
  refine Ev.bind (parts_is l hb (by omega)) ?_
  unfold partsA
  by_cases h6 : l.length > 600
  · rw [if_pos h6]; exact Ev.neg (by decide) (Ev.pos rfl knows_then)
  rw [if_neg h6]
  cases hp : parts l with
  | none => exact Ev.neg (by decide) (Ev.pos rfl knows_then)
  | some ps =>
    obtain ⟨g1, g2, g3⟩ := bytesL_parts l.length l ps (Nat.le_refl _) hb hp
    have h7 := parts_bytes l.length l ps (Nat.le_refl _) hb hp
    have hA : bytesA ps = (l, 0) := by
      unfold bytesA
      rw [if_pos g1, g2, if_neg h6]
    have hA2 := Ev.eq (bytes_is ps (by omega) (fun x hx => by have := (h7 x hx).2; omega)) hA
    show Ev _ _
    refine Ev.pos rfl ?_
    simp only [partsR, List.nil_append]
    exact Ev.bind hA2 (Ev.pos rfl (Ev.pos rfl knows_then))
end Go.Proofs.Ytplkgegmbkfncaa.Pure
