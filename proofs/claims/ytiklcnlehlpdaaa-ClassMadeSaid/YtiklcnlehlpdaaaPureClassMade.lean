/- Messages that are made as the document's table says are what it says. -/
import Derived.Test.YtiklcnlehlpdaaaOpsCls
import Derived.Test.YtiklcnlehlpdaaaOpsSetNum
import Derived.Test.YtiklcnlehlpdaaaPOpsx10
set_option linter.unusedVariables false
set_option linter.unusedSimpArgs false
namespace Go.Proofs.Ytiklcnlehlpdaaa.Pure
open Go.RowKit Go.Proofs.Ytiklcnlehlpdaaa.POps Go.Proofs.YtiklcnlehlpdaaaW.PrintWords Go.Proofs.YtiklcnlehlpdaaaW.PrintLast Go.Proofs.Ytiklcnlehlpdaaa.Plain
def req : List S70 := [⟨53, [3]⟩]
theorem ClassMade : boarderlaw16_ClassMade.Pure := by
  intro server a hs ha
  have hs := i64_of_wf hs
  have ha := i64_of_wf ha
  refine Ev.rounds (g := fun k => boarderlaw16_ClassMade.f k server a) ?_
  have hreq : Fit req ∧ AllBytes req := by
    refine ⟨⟨by decide, ?_⟩, ?_⟩
    · intro x hx
      simp [req] at hx
      rw [hx]; decide
    · intro x hx
      simp [req] at hx
      rw [hx]; intro y hy; simp at hy; omega
  have hkind : kindL req = 3 := by decide +kernel
  unfold boarderlaw16_ClassMade.f
  refine Ev.bind (set_is req hreq.1 50 a 4 ha) ?_
  unfold setR
  by_cases h : May a 4
  · rw [if_pos ⟨h, by decide⟩]
    have hb4 : (beL (4 : Int).toNat a).length ≤ 1000000 := by rw [beL_length]; decide
    have hf1 := keepL_fit hreq.1 (by decide) 50 hb4
    have hb1 := keepL_bytes hreq.2 50 (beL_bytes (4 : Int).toNat a)
    have n50 := num_keep req 50 a h
    have n54 : num 54 (keepL req 50 (beL (4 : Int).toNat a)) = (0, false) := by rw [num_keep_ne (by decide)]; decide +kernel
    have k1 : kindL (keepL req 50 (beL (4 : Int).toNat a)) = 3 := by rw [kind_keep_ne (by decide)]; exact hkind
    generalize keepL req 50 (beL (4 : Int).toNat a) = l at *
    have o1 : ofL 0 l = 2 := by unfold ofL; rw [if_pos k1, n54, n50]; rfl
    have ab1 : aboutL 0 l = a := by unfold aboutL; rw [if_pos (Or.inr o1), n50]
    refine Ev.pos rfl (Ev.bind (of_is 0 0 0 0 0 0 0 0 0 0 0 [] l hf1.1 hb1) (Ev.pos o1 (Ev.bind (about_is 0 0 0 0 0 0 0 0 0 0 0 [] l hf1.1 hb1) ?_)))
    rw [ab1, show (a != a) = false by simp]
    refine Ev.step (fun k => by rw [boarderlaw16_ClassMade.j0]) (Ev.neg (by decide) ?_)
    refine Ev.bind (set_is l hf1.1 54 server 4 hs) ?_
    unfold setR
    by_cases h2 : May server 4
    · rw [if_pos ⟨h2, by decide⟩]
      have hb5 : (beL (4 : Int).toNat server).length ≤ 1000000 := by rw [beL_length]; decide
      have hlen : l.length ≤ 1000 := by have := hf1.2; simp [req] at this; omega
      have hf2 := keepL_fit hf1.1 hlen 54 hb5
      have hb2 := keepL_bytes hb1 54 (beL_bytes (4 : Int).toNat server)
      have m54 := num_keep l 54 server h2
      have m50 : num 50 (keepL l 54 (beL (4 : Int).toNat server)) = (a, true) := by rw [num_keep_ne (by decide), n50]
      have k2 : kindL (keepL l 54 (beL (4 : Int).toNat server)) = 3 := by rw [kind_keep_ne (by decide)]; exact k1
      generalize keepL l 54 (beL (4 : Int).toNat server) = m at *
      have o2 : ofL 0 m = 1 := by unfold ofL; rw [if_pos k2, m54, m50]; rfl
      have ab2 : aboutL 0 m = a := by unfold aboutL; rw [if_pos (Or.inl o2), m50]
      have o3 : ofL 1 m = 0 := by unfold ofL; rw [if_pos k2, m54, m50]; rfl
      have ab3 : aboutL 1 m = 0 := by unfold aboutL; rw [o3]; rfl
      have fo : foreignL server m = false := by unfold foreignL; rw [m54]; simp
      refine Ev.pos rfl (Ev.bind (of_is 0 0 0 0 0 0 0 0 0 0 0 [] m hf2.1 hb2) (Ev.pos o2 (Ev.bind (about_is 0 0 0 0 0 0 0 0 0 0 0 [] m hf2.1 hb2) (Ev.pos ab2 ?_))))
      refine Ev.bind (of_is 0 0 0 0 0 0 0 1 0 0 0 [] m hf2.1 hb2) (Ev.pos o3 (Ev.bind (about_is 0 0 0 0 0 0 0 1 0 0 0 [] m hf2.1 hb2) (Ev.pos ab3 ?_)))
      exact Ev.bind (foreign_is 0 0 0 0 0 0 0 0 0 0 0 [] m hf2.1 hb2 server) (Ev.neg (by rw [fo]; decide) knows16_then)
    · rw [if_neg (fun hh => h2 hh.1)]
      refine Ev.neg (by decide) ?_
      by_cases h0 : server < 0
      · exact Ev.pos h0 knows16_then
      · refine Ev.neg h0 (Ev.pos ?_ knows16_then)
        rcases Int.lt_or_le 4294967295 server with h3 | h3
        · exact h3
        · exact absurd (may4' (by omega) (by omega)) h2
  · rw [if_neg (fun hh => h hh.1)]
    refine Ev.neg (by decide) ?_
    by_cases h0 : a < 0
    · exact Ev.pos h0 knows16_then
    · refine Ev.neg h0 (Ev.pos ?_ knows16_then)
      rcases Int.lt_or_le 4294967295 a with h3 | h3
      · exact h3
      · exact absurd (may4' (by omega) (by omega)) h
end Go.Proofs.Ytiklcnlehlpdaaa.Pure
