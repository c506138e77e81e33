/- What the references boarderref02.Put, power, Fair come to. -/
import Derived.Test.YtiklcnlehlpdaaaOpsPut
import Derived.Test.YtiklcnlehlpdaaaPOpsx6
set_option linter.unusedVariables false
set_option linter.unusedSimpArgs false
namespace Go.Proofs.Ytiklcnlehlpdaaa.Plain
open Go.RowKit Go.Proofs.YtiklcnlehlpdaaaW.PrintWords Go.Proofs.YtiklcnlehlpdaaaW.PrintLast Go.Proofs.YtiklcnlehlpdaaaW.PrintMore Go.Proofs.Ytiklcnlehlpdaaa.POps

theorem rput_is (n : Nat) (hn : n ≤ 1000) : ∀ (v : Int), 0 ≤ v → v < 9223372036854775808 → Ev (fun k => boarderref02_Put.f k v n) (beL n v) := by
  induction n with
  | zero =>
    intro v _ _
    refine Ev.step (fun k => by rw [boarderref02_Put.f]) ?_
    exact Ev.pos (by simp) (Ev.now _)
  | succ n ih =>
    intro v h0 h1
    have e1 : wrap64 (Int.tdiv v 256) = v / 256 := by rw [Int.tdiv_eq_ediv_of_nonneg h0, w64 (by omega) (by omega)]
    have e2 : wrap64 (((n + 1 : Nat) : Int) - 1) = n := by rw [w64 (by omega) (by omega)]; omega
    refine Ev.step (fun k => by rw [boarderref02_Put.f]) (Ev.neg (by omega) ?_)
    simp only [e1, e2]
    refine Ev.bind (ih (by omega) (v / 256) (by omega) (by omega)) (Ev.pos (by rw [beL_length]; omega) (Ev.const ?_))
    rw [beL, Int.tmod_eq_emod_of_nonneg h0]
    congr 2
    omega
theorem rpower_loop (n : Nat) (hn : n ≤ 7) : ∀ (d i : Nat), i + d = n → Ev (fun k => boarderref02_power.l0 k n (256 ^ i) i) (256 ^ n)
  | 0, i, h => by
    obtain rfl : i = n := by omega
    exact Ev.step (fun k => by rw [boarderref02_power.l0]) (Ev.neg (by omega) (Ev.now _))
  | d + 1, i, h => by
    have ei : wrap64 ((i : Int) + 1) = ((i + 1 : Nat) : Int) := by rw [w64 (by omega) (by omega)]; simp
    have hp := pow256_le7 (n := i + 1) (by omega)
    have hq := pow_pos256 (i + 1)
    have ep : wrap64 ((256 : Int) ^ i * 256) = 256 ^ (i + 1) := by rw [← pow256_succ, w64 (by omega) (by omega)]
    refine Ev.step (fun k => by rw [boarderref02_power.l0]) (Ev.pos (by omega) ?_)
    simp only [ei, ep]
    exact rpower_loop n hn d (i + 1) (by omega)
theorem rpower_is (n : Nat) (hn : n ≤ 7) : Ev (fun k => boarderref02_power.f k n) (256 ^ n) := by
  unfold boarderref02_power.f
  have := rpower_loop n hn n 0 (by omega)
  simpa using this
theorem rfair_is (v n : Int) : Ev (fun k => boarderref02_Fair.f k v n) (decide (May v n)) := by
  unfold boarderref02_Fair.f
  by_cases h1 : n > 0
  · refine Ev.pos h1 ?_
    by_cases h2 : n < 8
    · refine Ev.pos h2 ?_
      by_cases h3 : v ≥ 0
      · refine Ev.pos h3 ?_
        obtain ⟨m, rfl⟩ := Int.eq_ofNat_of_zero_le (show 0 ≤ n by omega)
        refine Ev.bind (rpower_is m (by omega)) (Ev.const ?_)
        rw [decide_eq_decide]
        unfold May
        rw [Int.toNat_natCast]
        constructor
        · intro h; exact ⟨by omega, by omega, by omega, h⟩
        · rintro ⟨_, _, _, h⟩; exact h
      · exact Ev.neg h3 (Ev.const (by symm; rw [decide_eq_false_iff_not]; rintro ⟨_, _, _, _⟩; omega))
    · exact Ev.neg h2 (Ev.const (by symm; rw [decide_eq_false_iff_not]; rintro ⟨_, _, _, _⟩; omega))
  · exact Ev.neg h1 (Ev.const (by symm; rw [decide_eq_false_iff_not]; rintro ⟨_, _, _, _⟩; omega))
end Go.Proofs.Ytiklcnlehlpdaaa.Plain
