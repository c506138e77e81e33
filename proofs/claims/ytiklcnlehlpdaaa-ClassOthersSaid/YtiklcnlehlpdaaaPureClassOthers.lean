/- A message that isn't a REQUEST is about nothing. -/
import Derived.Test.YtiklcnlehlpdaaaOpsCls
import Derived.Test.YtiklcnlehlpdaaaOpsSetNum
import Derived.Test.YtiklcnlehlpdaaaPOpsx11
set_option linter.unusedVariables false
set_option linter.unusedSimpArgs false
namespace Go.Proofs.Ytiklcnlehlpdaaa.Pure
open Go.RowKit Go.Proofs.Ytiklcnlehlpdaaa.POps Go.Proofs.YtiklcnlehlpdaaaW.PrintWords Go.Proofs.YtiklcnlehlpdaaaW.PrintLast Go.Proofs.Ytiklcnlehlpdaaa.Plain
theorem ClassOthers : boarderlaw16_ClassOthers.Pure := by
  intro a0 a1 a2 a3 a4 a5 a6 a7 a8 a9 a10 m l v _ _ _ _ _ _ _ _ _ _ _ _ _ hl hw hv
  have hb := bytes_of_wf70 hw
  have hv := i64_of_wf hv
  refine Ev.rounds (g := fun n => boarderlaw16_ClassOthers.f n a0 a1 a2 a3 a4 a5 a6 a7 a8 a9 a10 m l v) ?_
  have bad : Ev (fun k => boarderlaw16_ClassOthers.j0 k v true a0 a1 a2 a3 a4 a5 a6 a7 a8 a9 a10 m l) true := Ev.step (fun k => by rw [boarderlaw16_ClassOthers.j0]) (Ev.pos rfl knows16_then)
  unfold boarderlaw16_ClassOthers.f
  obtain ⟨g, hg, hf⟩ := great4_len a0 a1 a2 a3 a4 a5 a6 a7 a8 a9 a10 m l hl
  refine Ev.bind hg ?_
  cases g with
  | true => exact Ev.pos rfl bad
  | false =>
    obtain ⟨hfit, h100⟩ := hf rfl
    refine Ev.neg (by decide) ?_
    by_cases h3 : v = 3
    · rw [h3]
      rw [h3] at bad
      exact bad
    rw [show (v == 3) = false from beq_eq_false_iff_ne.mpr h3]
    refine Ev.step (fun k => by rw [boarderlaw16_ClassOthers.j0]) (Ev.neg (by decide) ?_)
    refine Ev.bind (set_is l hfit 53 v 1 hv) ?_
    unfold setR
    by_cases h : May v 1
    · rw [if_pos ⟨h, by decide⟩]
      have hk := kind_keep l v h
      have hf1 := (keepL_fit hfit (by omega) 53 (b := beL (1 : Int).toNat v) (by rw [beL_length]; decide)).1
      have hb1 := keepL_bytes hb 53 (beL_bytes (1 : Int).toNat v)
      generalize keepL l 53 (beL (1 : Int).toNat v) = n at *
      have hk3 : kindL n ≠ 3 := by
        rw [hk]
        by_cases hv1 : 1 ≤ v ∧ v ≤ 8
        · rw [if_pos hv1]; exact h3
        · rw [if_neg hv1]; decide
      have o : ofL a7 n = 0 := by unfold ofL; rw [if_neg hk3]
      have ab : aboutL a7 n = 0 := by unfold aboutL; rw [o]; rfl
      exact Ev.pos rfl (Ev.bind (of_is a0 a1 a2 a3 a4 a5 a6 a7 a8 a9 a10 m n hf1 hb1) (Ev.pos o (Ev.bind (about_is a0 a1 a2 a3 a4 a5 a6 a7 a8 a9 a10 m n hf1 hb1) (Ev.pos ab knows16_then))))
    · rw [if_neg (fun hh => h hh.1)]
      refine Ev.neg (by decide) ?_
      by_cases h0 : v < 0
      · exact Ev.pos h0 knows16_then
      · refine Ev.neg h0 (Ev.pos ?_ knows16_then)
        rcases Int.lt_or_le 255 v with h2 | h2
        · exact h2
        · exact absurd (may1' (by omega) (by omega)) h
end Go.Proofs.Ytiklcnlehlpdaaa.Pure
