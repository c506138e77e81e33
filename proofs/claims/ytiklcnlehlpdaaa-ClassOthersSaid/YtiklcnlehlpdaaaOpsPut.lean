/- What code.Put comes to. -/
import Derived.Test.YtiklcnlehlpdaaaMath
import Derived.Test.YtiklcnlehlpdaaaPOpsx4
set_option linter.unusedVariables false
set_option linter.unusedSimpArgs false
namespace Go.Proofs.Ytiklcnlehlpdaaa.Plain
open Go.RowKit Go.Proofs.YtiklcnlehlpdaaaW.PrintWords Go.Proofs.YtiklcnlehlpdaaaW.PrintLast Go.Proofs.YtiklcnlehlpdaaaW.PrintMore Go.Proofs.Ytiklcnlehlpdaaa.POps

/-- one more digit ahead -/
theorem set_digit (d n : Nat) (v : Int) (h : d < n + 1) (m : List Int) :
    (List.replicate (d + 1) (0 : Int) ++ m).set d v = List.replicate d 0 ++ v :: m := by
  rw [List.replicate_succ']
  rw [List.append_assoc, List.set_append_right _ _ (by simp)]
  simp
theorem put_loop (v : Int) (n : Nat) (hn : n ≤ 7) (h0 : 0 ≤ v) (h1 : v < 9223372036854775808) : ∀ (d i : Nat), i + d = n →
    Ev (fun k => code_Put.l0 k v n (List.replicate d 0 ++ beL i v) n i) (beL n v, 0)
  | 0, i, h => by
    obtain rfl : i = n := by omega
    refine Ev.step (fun k => by rw [code_Put.l0]) (Ev.neg (by omega) (Ev.const (by simp)))
  | d + 1, i, h => by
    have e8 : wrap64 (8 * (i : Int)) = 8 * i := w64 (by omega) (by omega)
    have en : wrap64 ((n : Int) - 1) = n - 1 := w64 (by omega) (by omega)
    have ed : wrap64 ((n : Int) - 1 - i) = (d : Int) := by rw [w64 (by omega) (by omega)]; omega
    have ei : wrap64 ((i : Int) + 1) = ((i + 1 : Nat) : Int) := by rw [w64 (by omega) (by omega)]; simp
    have es : shr .i64 v (8 * i) % 256 = v / 256 ^ i % 256 := by
      rw [shr64 (by omega) (by omega), show (8 * (i : Int)).toNat = 8 * i by omega, two_pow_8]
    refine Ev.step (fun k => by rw [code_Put.l0]) (Ev.pos (by omega) ?_)
    simp only [e8, en, ed, ei, es]
    refine Ev.pos (by omega) (Ev.pos (by omega) (Ev.pos (by simp [beL_length]; omega) ?_))
    have hs := set_digit d n (v / 256 ^ i % 256) (by omega) (beL i v)
    rw [Int.toNat_natCast, hs, ← beL_cons]
    exact put_loop v n hn h0 h1 d (i + 1) (by omega)

theorem put_bad (v n : Int) : Ev (fun k => code_Put.j0 k v n true) ([], 1) :=
  Ev.step (fun k => by rw [code_Put.j0]) (Ev.pos rfl (Ev.now _))
/-- A number that may be, in so many bytes. -/
theorem put_ok (v : Int) (n : Nat) (hn : 1 ≤ n) (hn7 : n ≤ 7) (h0 : 0 ≤ v) (h1 : v < 256 ^ n) : Ev (fun k => code_Put.f k v n) (beL n v, 0) := by
  have hp := pow256_le7 hn7
  have e8 : wrap64 (8 * (n : Int)) = 8 * n := w64 (by omega) (by omega)
  have es : shr .i64 v (8 * n) = 0 := by
    rw [shr64 (by omega) (by omega), show (8 * (n : Int)).toNat = 8 * n by omega, two_pow_8]
    exact Int.ediv_eq_zero_of_lt h0 h1
  unfold code_Put.f
  refine Ev.neg (by omega) (Ev.neg (by omega) (Ev.neg (by omega) (Ev.pos (by omega) ?_)))
  simp only [e8, es]
  refine Ev.step (fun k => by rw [code_Put.j0]) (Ev.neg (by simp) (Ev.pos (by omega) (Ev.pos (by omega) ?_)))
  have := put_loop v n hn7 h0 (by omega) n 0 (by omega)
  simpa [beL] using this
/-- May a number be written in so many bytes? -/
def May (v n : Int) : Prop := 0 < n ∧ n < 8 ∧ 0 ≤ v ∧ v < 256 ^ n.toNat
instance (v n : Int) : Decidable (May v n) := by unfold May; exact inferInstance
theorem put_no (v n : Int) (hv : -9223372036854775808 ≤ v ∧ v < 9223372036854775808) (h : ¬ May v n) : Ev (fun k => code_Put.f k v n) ([], 1) := by
  unfold code_Put.f
  by_cases h1 : n < 1
  · exact Ev.pos h1 (put_bad v n)
  by_cases h2 : n > 7
  · exact Ev.neg h1 (Ev.pos h2 (put_bad v n))
  by_cases h3 : v < 0
  · exact Ev.neg h1 (Ev.neg h2 (Ev.pos h3 (put_bad v n)))
  obtain ⟨m, rfl⟩ := Int.eq_ofNat_of_zero_le (show 0 ≤ n by omega)
  have e8 : wrap64 (8 * (m : Int)) = 8 * m := w64 (by omega) (by omega)
  have hge : (256 : Int) ^ m ≤ v := by
    rcases Int.lt_or_le v (256 ^ m) with h4 | h4
    · exact absurd ⟨by omega, by omega, by omega, by simpa using h4⟩ h
    · exact h4
  have es : (shr .i64 v (8 * m) != 0) = true := by
    rw [shr64 (by omega) (by omega), show (8 * (m : Int)).toNat = 8 * m by omega, two_pow_8, bne_iff_ne]
    intro he
    have := (Int.le_ediv_iff_mul_le (pow_pos256 m) (a := 1) (b := v)).2 (by omega)
    omega
  refine Ev.neg h1 (Ev.neg h2 (Ev.neg h3 (Ev.pos (by omega) ?_)))
  simp only [e8, es]
  exact put_bad v m

end Go.Proofs.Ytiklcnlehlpdaaa.Plain
