/- Options: Same and the reference's Keep, Fair. -/
import Derived.Test.YtiklcnlehlpdaaaOpsKnow
import Derived.Test.YtiklcnlehlpdaaaPOpsx5
set_option linter.unusedVariables false
set_option linter.unusedSimpArgs false
namespace Go.Proofs.Ytiklcnlehlpdaaa.Plain
open Go.RowKit Go.Proofs.YtiklcnlehlpdaaaW.PrintWords Go.Proofs.YtiklcnlehlpdaaaW.PrintLast Go.Proofs.YtiklcnlehlpdaaaW.PrintMore Go.Proofs.Ytiklcnlehlpdaaa.POps
theorem same_loop (l : List S70) (hl : l.length ≤ 1000000) : ∀ (n i : Nat), i + n = l.length → Ev (fun k => boarderref03_Same.l0 k l l i) true
  | 0, i, h => Ev.step (fun k => by rw [boarderref03_Same.l0]) (Ev.neg (by omega) (Ev.now _))
  | n + 1, i, h => by
    have ei := wi i l.length (by omega) (by omega)
    refine Ev.step (fun k => by rw [boarderref03_Same.l0]) (Ev.pos (by omega) (Ev.pos (by omega) (Ev.pos (by omega) (Ev.pos rfl (Ev.pos rfl ?_)))))
    simp only [ei]
    exact same_loop l hl n (i + 1) (by omega)
theorem same_is (l : List S70) (hl : l.length ≤ 1000000) : Ev (fun k => boarderref03_Same.f k l l) true := by
  unfold boarderref03_Same.f
  exact Ev.pos rfl (same_loop l hl l.length 0 (by omega))
theorem rfairc_is (c : Int) (b : List Int) : boarderref05_Fair.f c b = some (decide (FairC c b)) := by
  unfold boarderref05_Fair.f
  by_cases h1 : c ≥ 1
  · rw [if_pos h1]
    by_cases h2 : c ≤ 254
    · rw [if_pos h2]
      congr 1
      rw [decide_eq_decide]
      unfold FairC
      omega
    · rw [if_neg h2, decide_eq_false (fun h => h2 h.2.1)]
  · rw [if_neg h1, decide_eq_false (fun h => h1 h.1)]
theorem rkeep_loop (l : List S70) (hl : l.length ≤ 100000) (c : Int) (b : List Int) : ∀ (r : List S70) (i : Nat) (acc : List S70), l.drop i = r → acc.length ≤ i → i ≤ l.length →
    Ev (fun k => boarderref05_Keep.l0 k l c b acc i) (acc ++ others c r ++ [⟨c, b⟩]) := by
  intro r
  induction r with
  | nil =>
    intro i acc h ha hi
    have := drop_none h
    refine Ev.step (fun k => by rw [boarderref05_Keep.l0]) (Ev.neg (by omega) ?_)
    exact Ev.pos (by omega) (Ev.const (by simp [others]))
  | cons x r ih =>
    intro i acc h ha hi
    have hlen := drop_len h
    have hr := rd70_at h
    have ei := wi i l.length (by omega) (by omega)
    refine Ev.step (fun k => by rw [boarderref05_Keep.l0]) (Ev.pos (by omega) (Ev.pos (by omega) ?_))
    simp only [hr, ei]
    by_cases hc : x.f0 = c
    · rw [others_same hc]
      exact Ev.pos hc (ih (i + 1) acc (drop_next h) (by omega) (by omega))
    · rw [others_more hc]
      refine Ev.neg hc (Ev.pos (by omega) ?_)
      have := ih (i + 1) (acc ++ [x]) (drop_next h) (by simp; omega) (by omega)
      rw [List.append_assoc acc [x]] at this
      exact this
theorem rkeep_is (l : List S70) (hl : l.length ≤ 100000) (c : Int) (b : List Int) : Ev (fun k => boarderref05_Keep.f k l c b) (keepL l c b) := by
  unfold boarderref05_Keep.f
  have := rkeep_loop l hl c b l 0 [] rfl (by simp) (by omega)
  rw [List.nil_append] at this
  exact this
theorem great_then (l : List S70) (hl : l.length ≤ maxLen) : ∃ g, Ev (fun k => boarderlaw03_Great.f k l) g ∧ (g = false → Fit l ∧ l.length ≤ 100) := by
  obtain ⟨g, h1, h2⟩ := great_is l (by unfold maxLen at hl; omega)
  exact ⟨g, h1, fun hg => ⟨Fit.of (h2 hg), (h2 hg).1⟩⟩
end Go.Proofs.Ytiklcnlehlpdaaa.Plain
