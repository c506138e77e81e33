/- Options: what the reference's Join comes to. -/
import Derived.Test.YtiklcnlehlpdaaaTljRefJ
import Derived.Test.YtiklcnlehlpdaaaTljJn
import Derived.Test.YtiklcnlehlpdaaaPTljx7
set_option linter.unusedVariables false
set_option linter.unusedSimpArgs false
namespace Go.Proofs.Ytiklcnlehlpdaaa.Plain
open Go.RowKit Go.Proofs.YtiklcnlehlpdaaaW.PrintWords Go.Proofs.YtiklcnlehlpdaaaW.PrintLast Go.Proofs.YtiklcnlehlpdaaaW.PrintMore Go.Proofs.Ytiklcnlehlpdaaa.PTlj
theorem rjn_loop (m : List S70) (hm : ∀ x ∈ m, x.f1.length ≤ 600) (hmn : m.length ≤ 100) : ∀ (r : List S70) (i p : Nat) (out : List S70), m.drop i = r → Small p out → p + r.length ≤ 200 → Once out →
    Ev (fun k => boarderref03_Join.l0 k m out i) (if Right3 (joins out r) then (joins out r, 0) else ([], 3)) := by
  intro r
  induction r with
  | nil =>
    intro i p out h hs hp ho
    have := drop_none h
    refine Ev.step (fun k => by rw [boarderref03_Join.l0]) (Ev.neg (by omega) (Ev.bind (rright_is out (by have := hs.1; omega)) ?_))
    show Ev _ (if Right3 out then (out, 0) else ([], 3))
    by_cases h3 : Right3 out
    · refine Ev.eq ?_ (if_pos h3).symm
      exact Ev.pos (decide_eq_true h3) (Ev.now _)
    · refine Ev.eq ?_ (if_neg h3).symm
      exact Ev.neg (by simp [h3]) (Ev.now _)
  | cons x r ih =>
    intro i p out h hs hp ho
    have hlen := drop_len h
    have hr := rd70_at h
    have hx := hm x (mem_at h)
    simp only [List.length_cons] at hp
    have ei := wi i m.length (by omega) (by omega)
    refine Ev.step (fun k => by rw [boarderref03_Join.l0]) (Ev.pos (by omega) (Ev.pos (by omega) ?_))
    simp only [hr, ei]
    refine Ev.bind (joined_is out (hs.fit (by omega)) ho x.f0 x.f1 (by omega)) ?_
    exact ih (i + 1) (p + 1) _ (drop_next h) (hs.join x.f0 hx) (by omega) (ho.join x.f0 x.f1)
theorem rjn_is (l m : List S70) (hl : l.length ≤ 100000) (hm : m.length ≤ 100000) : Ev (fun k => boarderref03_Join.f k l m) (jn l m) := by
  unfold boarderref03_Join.f jn
  refine Ev.bind (rright_is l (by omega)) ?_
  have bad : Ev (fun k => boarderref03_Join.j0 k l m true) ([], 1) := by
    refine Ev.step (fun k => by rw [boarderref03_Join.j0]) ?_
    exact Ev.pos rfl (Ev.now _)
  by_cases h1 : Right3 l
  · rw [decide_eq_true h1]
    refine Ev.pos rfl (Ev.bind (rright_is m (by omega)) ?_)
    by_cases h2 : Right3 m
    · rw [if_pos ⟨h1, h2⟩, decide_eq_true h2]
      have hl60 := h1.1
      have hm60 := h2.1
      have s1 : Small l.length l := ⟨Nat.le_refl _, fun x hx => by have := (h1.2 x hx).1.2.2; omega⟩
      refine Ev.step (fun k => by rw [boarderref03_Join.j0]) (Ev.neg (by decide) ?_)
      exact rjn_loop m (fun x hx => (h2.2 x hx).1.2.2) (by omega) m 0 l.length l rfl s1 (by omega) h1.once
    · rw [if_neg (fun h => h2 h.2), decide_eq_false h2]
      exact bad
  · rw [if_neg (fun h => h1 h.1), decide_eq_false h1]
    exact Ev.neg (by decide) bad
end Go.Proofs.Ytiklcnlehlpdaaa.Plain
