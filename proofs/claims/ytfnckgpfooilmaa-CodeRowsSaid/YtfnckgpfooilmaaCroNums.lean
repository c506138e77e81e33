/- What the printed functions code.Put, code.Get and the references Put, Value, power, Fair come to. -/
import Derived.Test.YtfnckgpfooilmaaMath
import Derived.Test.YtfnckgpfooilmaaPCrox
set_option linter.unusedVariables false
set_option linter.unusedSimpArgs false
namespace Go.Proofs.Ytfnckgpfooilmaa.Plain
open Go.RowKit Go.Proofs.YtfnckgpfooilmaaW.PrintWords Go.Proofs.YtfnckgpfooilmaaW.PrintLast Go.Proofs.YtfnckgpfooilmaaW.PrintMore Go.Proofs.Ytfnckgpfooilmaa.PCro

/-- one more digit ahead -/
theorem set_digit (d n : Nat) (v : Int) (h : d < n + 1) (m : List Int) :
    (List.replicate (d + 1) (0 : Int) ++ m).set d v = List.replicate d 0 ++ v :: m := by
  rw [List.replicate_succ']
  rw [List.append_assoc, List.set_append_right _ _ (by simp)]
  simp
theorem put_loop (v : Int) (n : Nat) (hn : n ≤ 7) (h0 : 0 ≤ v) (h1 : v < 9223372036854775808) : ∀ (d i : Nat), i + d = n →
    Ev (fun k => code_Put.l0 k v n (List.replicate d 0 ++ beL i v) n i) (beL n v, 0)
  | 0, i, h => by
    obtain rfl : i = n := by omega
    refine Ev.step (fun k => by rw [code_Put.l0]) (Ev.neg (by omega) (Ev.const (by simp)))
  | d + 1, i, h => by
    have e8 : wrap64 (8 * (i : Int)) = 8 * i := w64 (by omega) (by omega)
    have en : wrap64 ((n : Int) - 1) = n - 1 := w64 (by omega) (by omega)
    have ed : wrap64 ((n : Int) - 1 - i) = (d : Int) := by rw [w64 (by omega) (by omega)]; omega
    have ei : wrap64 ((i : Int) + 1) = ((i + 1 : Nat) : Int) := by rw [w64 (by omega) (by omega)]; simp
    have es : shr .i64 v (8 * i) % 256 = v / 256 ^ i % 256 := by
      rw [shr64 (by omega) (by omega), show (8 * (i : Int)).toNat = 8 * i by omega, two_pow_8]
    refine Ev.step (fun k => by rw [code_Put.l0]) (Ev.pos (by omega) ?_)
    simp only [e8, en, ed, ei, es]
    refine Ev.pos (by omega) (Ev.pos (by omega) (Ev.pos (by simp [beL_length]; omega) ?_))
    have hs := set_digit d n (v / 256 ^ i % 256) (by omega) (beL i v)
    rw [Int.toNat_natCast, hs, ← beL_cons]
    exact put_loop v n hn h0 h1 d (i + 1) (by omega)

theorem put_bad (v n : Int) : Ev (fun k => code_Put.j0 k v n true) ([], 1) :=
  Ev.step (fun k => by rw [code_Put.j0]) (Ev.pos rfl (Ev.now _))
/-- A number that may be, in so many bytes. -/
theorem put_ok (v : Int) (n : Nat) (hn : 1 ≤ n) (hn7 : n ≤ 7) (h0 : 0 ≤ v) (h1 : v < 256 ^ n) : Ev (fun k => code_Put.f k v n) (beL n v, 0) := by
  have hp := pow256_le7 hn7
  have e8 : wrap64 (8 * (n : Int)) = 8 * n := w64 (by omega) (by omega)
  have es : shr .i64 v (8 * n) = 0 := by
    rw [shr64 (by omega) (by omega), show (8 * (n : Int)).toNat = 8 * n by omega, two_pow_8]
    exact Int.ediv_eq_zero_of_lt h0 h1
  unfold code_Put.f
  refine Ev.neg (by omega) (Ev.neg (by omega) (Ev.neg (by omega) (Ev.pos (by omega) ?_)))
  simp only [e8, es]
  refine Ev.step (fun k => by rw [code_Put.j0]) (Ev.neg (by simp) (Ev.pos (by omega) (Ev.pos (by omega) ?_)))
  have := put_loop v n hn7 h0 (by omega) n 0 (by omega)
  simpa [beL] using this
/-- May a number be written in so many bytes? -/
def May (v n : Int) : Prop := 0 < n ∧ n < 8 ∧ 0 ≤ v ∧ v < 256 ^ n.toNat
instance (v n : Int) : Decidable (May v n) := by unfold May; exact inferInstance
theorem put_no (v n : Int) (hv : -9223372036854775808 ≤ v ∧ v < 9223372036854775808) (h : ¬ May v n) : Ev (fun k => code_Put.f k v n) ([], 1) := by
  unfold code_Put.f
  by_cases h1 : n < 1
  · exact Ev.pos h1 (put_bad v n)
  by_cases h2 : n > 7
  · exact Ev.neg h1 (Ev.pos h2 (put_bad v n))
  by_cases h3 : v < 0
  · exact Ev.neg h1 (Ev.neg h2 (Ev.pos h3 (put_bad v n)))
  obtain ⟨m, rfl⟩ := Int.eq_ofNat_of_zero_le (show 0 ≤ n by omega)
  have e8 : wrap64 (8 * (m : Int)) = 8 * m := w64 (by omega) (by omega)
  have hge : (256 : Int) ^ m ≤ v := by
    rcases Int.lt_or_le v (256 ^ m) with h4 | h4
    · exact absurd ⟨by omega, by omega, by omega, by simpa using h4⟩ h
    · exact h4
  have es : (shr .i64 v (8 * m) != 0) = true := by
    rw [shr64 (by omega) (by omega), show (8 * (m : Int)).toNat = 8 * m by omega, two_pow_8, bne_iff_ne]
    intro he
    have := (Int.le_ediv_iff_mul_le (pow_pos256 m) (a := 1) (b := v)).2 (by omega)
    omega
  refine Ev.neg h1 (Ev.neg h2 (Ev.neg h3 (Ev.pos (by omega) ?_)))
  simp only [e8, es]
  exact put_bad v m

/-! ### code.Get -/
theorem valL_take_succ (l : List Int) (i : Nat) (h : i < l.length) : valL (l.take (i + 1)) = valL (l.take i) * 256 + rd l i := by
  rw [List.take_succ_eq_append_getElem h, valL_snoc]
  unfold rd
  rw [Int.toNat_natCast, List.getD_eq_getElem?_getD, List.getElem?_eq_getElem h]
  rfl
theorem rd_drop (l : List Int) (a i : Nat) : rd (l.drop a) i = rd l ((a : Int) + i) := by
  unfold rd
  rw [show ((a : Int) + i).toNat = a + i by omega, Int.toNat_natCast, List.getD_eq_getElem?_getD, List.getD_eq_getElem?_getD, List.getElem?_drop]
theorem val_small (l : List Int) (hl : l.length ≤ 7) (hb : Bytes l) : 0 ≤ valL l ∧ valL l < 72057594037927936 := by
  obtain ⟨h0, h1⟩ := valL_range l.length l rfl hb
  have := pow256_le7 hl
  omega
theorem val_small6 (l : List Int) (hl : l.length ≤ 6) (hb : Bytes l) : 0 ≤ valL l ∧ valL l < 281474976710656 := by
  obtain ⟨h0, h1⟩ := valL_range l.length l rfl hb
  have : (256 : Int) ^ l.length ≤ 281474976710656 := by
    generalize l.length = n at hl
    rcases n with _ | _ | _ | _ | _ | _ | _ | n
    all_goals first | decide | omega
  omega
theorem get_loop (l : List Int) (hb : Bytes l) (a n : Nat) (hn : n ≤ 7) (hl : a + n ≤ l.length) (hlen : l.length ≤ 140737488351232) : ∀ (d i : Nat), i + d = n →
    Ev (fun k => code_Get.l0 k l a (valL ((l.drop a).take i)) n i) (valL ((l.drop a).take n), 0)
  | 0, i, h => by
    obtain rfl : i = n := by omega
    exact Ev.step (fun k => by rw [code_Get.l0]) (Ev.neg (by omega) (Ev.now _))
  | d + 1, i, h => by
    have ea : wrap64 ((a : Int) + i) = a + i := w64 (by omega) (by omega)
    have ei : wrap64 ((i : Int) + 1) = ((i + 1 : Nat) : Int) := by rw [w64 (by omega) (by omega)]; simp
    have hv := val_small6 ((l.drop a).take i) (by simp; omega) ((hb.drop a).take i)
    have hr := hb.rd ((a : Int) + i)
    have em : wrap64 (valL ((l.drop a).take i) * 256) = valL ((l.drop a).take i) * 256 := w64 (by omega) (by omega)
    have er : wrap64 (rd l ((a : Int) + i)) = rd l ((a : Int) + i) := w64 (by omega) (by omega)
    refine Ev.step (fun k => by rw [code_Get.l0]) (Ev.pos (by omega) ?_)
    simp only [ea, ei, em, er]
    refine Ev.pos (by omega) (Ev.pos (by omega) ?_)
    rw [bits_or hv.1 (by omega) hr.1 hr.2, ← rd_drop, ← valL_take_succ _ _ (by simp; omega)]
    exact get_loop l hb a n hn hl hlen d (i + 1) (by omega)
/-- What code.Get answers. -/
def getL (l : List Int) (a n : Int) : Int × Int :=
  if n < 1 ∨ n > 7 ∨ a < 0 then (0, 1) else if a > l.length ∨ l.length - a < n then (0, 4) else (valL ((l.drop a.toNat).take n.toNat), 0)
theorem get_is (l : List Int) (hb : Bytes l) (hlen : l.length ≤ 140737488351232) (a n : Int) (ha : a < 9223372036854775808) : Ev (fun k => code_Get.f k l a n) (getL l a n) := by
  have hbad : Ev (fun k => code_Get.j0 k l a n true) (0, 1) := Ev.step (fun k => by rw [code_Get.j0]) (Ev.pos rfl (Ev.now _))
  have hmore : Ev (fun k => code_Get.j1 k l a n true) (0, 4) := Ev.step (fun k => by rw [code_Get.j1]) (Ev.pos rfl (Ev.now _))
  unfold code_Get.f getL
  by_cases h1 : n < 1
  · rw [if_pos (by omega)]; exact Ev.pos h1 hbad
  by_cases h2 : n > 7
  · rw [if_pos (by omega)]; exact Ev.neg h1 (Ev.pos h2 hbad)
  by_cases h3 : a < 0
  · rw [if_pos (by omega)]
    refine Ev.neg h1 (Ev.neg h2 ?_)
    simp only [h3, decide_true]
    exact hbad
  rw [if_neg (by omega)]
  refine Ev.neg h1 (Ev.neg h2 ?_)
  simp only [h3, decide_false]
  refine Ev.step (fun k => by rw [code_Get.j0]) (Ev.neg (by simp) ?_)
  by_cases h4 : a > (l.length : Int)
  · rw [if_pos (by omega)]; exact Ev.pos h4 hmore
  refine Ev.neg h4 ?_
  have ew : wrap64 ((l.length : Int) - a) = l.length - a := w64 (by omega) (by omega)
  simp only [ew]
  by_cases h5 : (l.length : Int) - a < n
  · rw [if_pos (by omega)]
    simp only [h5, decide_true]
    exact hmore
  rw [if_neg (by omega)]
  simp only [h5, decide_false]
  refine Ev.step (fun k => by rw [code_Get.j1]) (Ev.neg (by simp) ?_)
  obtain ⟨m, rfl⟩ := Int.eq_ofNat_of_zero_le (show 0 ≤ a by omega)
  obtain ⟨j, rfl⟩ := Int.eq_ofNat_of_zero_le (show 0 ≤ n by omega)
  have := get_loop l hb m j (by omega) (by omega) hlen j 0 (by omega)
  simpa [valL] using this

/-! ### the references -/
end Go.Proofs.Ytfnckgpfooilmaa.Plain
