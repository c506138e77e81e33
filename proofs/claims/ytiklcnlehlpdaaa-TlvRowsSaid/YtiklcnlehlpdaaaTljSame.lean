/- Options: the same are the same. -/
import Derived.Test.YtiklcnlehlpdaaaTljProg
import Derived.Test.YtiklcnlehlpdaaaPTljx5
set_option linter.unusedVariables false
set_option linter.unusedSimpArgs false
namespace Go.Proofs.Ytiklcnlehlpdaaa.Plain
open Go.RowKit Go.Proofs.YtiklcnlehlpdaaaW.PrintWords Go.Proofs.YtiklcnlehlpdaaaW.PrintLast Go.Proofs.YtiklcnlehlpdaaaW.PrintMore Go.Proofs.Ytiklcnlehlpdaaa.PTlj
theorem same_loop (l : List S70) (hl : l.length ≤ 1000000) : ∀ (n i : Nat), i + n = l.length → Ev (fun k => boarderref03_Same.l0 k l l i) true
  | 0, i, h => Ev.step (fun k => by rw [boarderref03_Same.l0]) (Ev.neg (by omega) (Ev.now _))
  | n + 1, i, h => by
    have ei := wi i l.length (by omega) (by omega)
    refine Ev.step (fun k => by rw [boarderref03_Same.l0]) (Ev.pos (by omega) (Ev.pos (by omega) (Ev.pos (by omega) (Ev.pos rfl (Ev.pos rfl ?_)))))
    simp only [ei]
    exact same_loop l hl n (i + 1) (by omega)
theorem same_is (l : List S70) (hl : l.length ≤ 1000000) : Ev (fun k => boarderref03_Same.f k l l) true := by
  unfold boarderref03_Same.f
  exact Ev.pos rfl (same_loop l hl l.length 0 (by omega))
theorem readA_len (l : List Int) (hb : Bytes l) : (readA l []).1.length ≤ 1000000 := by
  rcases readA_right l hb with ⟨_, h, _⟩ | ⟨_, h⟩
  · have := h.1; omega
  · rw [h]; decide
end Go.Proofs.Ytiklcnlehlpdaaa.Plain
