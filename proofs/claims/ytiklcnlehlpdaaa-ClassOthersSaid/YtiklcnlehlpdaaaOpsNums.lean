/- What the printed functions code.Put, code.Get and the references Put, Value, power, Fair come to. -/
import Derived.Test.YtiklcnlehlpdaaaMath
import Derived.Test.YtiklcnlehlpdaaaPOpsx2
set_option linter.unusedVariables false
set_option linter.unusedSimpArgs false
namespace Go.Proofs.Ytiklcnlehlpdaaa.Plain
open Go.RowKit Go.Proofs.YtiklcnlehlpdaaaW.PrintWords Go.Proofs.YtiklcnlehlpdaaaW.PrintLast Go.Proofs.YtiklcnlehlpdaaaW.PrintMore Go.Proofs.Ytiklcnlehlpdaaa.POps

/-! ### code.Get -/
theorem valL_take_succ (l : List Int) (i : Nat) (h : i < l.length) : valL (l.take (i + 1)) = valL (l.take i) * 256 + rd l i := by
  rw [List.take_succ_eq_append_getElem h, valL_snoc]
  unfold rd
  rw [Int.toNat_natCast, List.getD_eq_getElem?_getD, List.getElem?_eq_getElem h]
  rfl
theorem rd_drop (l : List Int) (a i : Nat) : rd (l.drop a) i = rd l ((a : Int) + i) := by
  unfold rd
  rw [show ((a : Int) + i).toNat = a + i by omega, Int.toNat_natCast, List.getD_eq_getElem?_getD, List.getD_eq_getElem?_getD, List.getElem?_drop]
theorem val_small (l : List Int) (hl : l.length ≤ 7) (hb : Bytes l) : 0 ≤ valL l ∧ valL l < 72057594037927936 := by
  obtain ⟨h0, h1⟩ := valL_range l.length l rfl hb
  have := pow256_le7 hl
  omega
theorem val_small6 (l : List Int) (hl : l.length ≤ 6) (hb : Bytes l) : 0 ≤ valL l ∧ valL l < 281474976710656 := by
  obtain ⟨h0, h1⟩ := valL_range l.length l rfl hb
  have : (256 : Int) ^ l.length ≤ 281474976710656 := by
    generalize l.length = n at hl
    rcases n with _ | _ | _ | _ | _ | _ | _ | n
    all_goals first | decide | omega
  omega
theorem get_loop (l : List Int) (hb : Bytes l) (a n : Nat) (hn : n ≤ 7) (hl : a + n ≤ l.length) (hlen : l.length ≤ 140737488351232) : ∀ (d i : Nat), i + d = n →
    Ev (fun k => code_Get.l0 k l a (valL ((l.drop a).take i)) n i) (valL ((l.drop a).take n), 0)
  | 0, i, h => by
    obtain rfl : i = n := by omega
    exact Ev.step (fun k => by rw [code_Get.l0]) (Ev.neg (by omega) (Ev.now _))
  | d + 1, i, h => by
    have ea : wrap64 ((a : Int) + i) = a + i := w64 (by omega) (by omega)
    have ei : wrap64 ((i : Int) + 1) = ((i + 1 : Nat) : Int) := by rw [w64 (by omega) (by omega)]; simp
    have hv := val_small6 ((l.drop a).take i) (by simp; omega) ((hb.drop a).take i)
    have hr := hb.rd ((a : Int) + i)
    have em : wrap64 (valL ((l.drop a).take i) * 256) = valL ((l.drop a).take i) * 256 := w64 (by omega) (by omega)
    have er : wrap64 (rd l ((a : Int) + i)) = rd l ((a : Int) + i) := w64 (by omega) (by omega)
    refine Ev.step (fun k => by rw [code_Get.l0]) (Ev.pos (by omega) ?_)
    simp only [ea, ei, em, er]
    refine Ev.pos (by omega) (Ev.pos (by omega) ?_)
    rw [bits_or hv.1 (by omega) hr.1 hr.2, ← rd_drop, ← valL_take_succ _ _ (by simp; omega)]
    exact get_loop l hb a n hn hl hlen d (i + 1) (by omega)
/-- What code.Get answers. -/
def getL (l : List Int) (a n : Int) : Int × Int :=
  if n < 1 ∨ n > 7 ∨ a < 0 then (0, 1) else if a > l.length ∨ l.length - a < n then (0, 4) else (valL ((l.drop a.toNat).take n.toNat), 0)
theorem get_is (l : List Int) (hb : Bytes l) (hlen : l.length ≤ 140737488351232) (a n : Int) (ha : a < 9223372036854775808) : Ev (fun k => code_Get.f k l a n) (getL l a n) := by
  have hbad : Ev (fun k => code_Get.j0 k l a n true) (0, 1) := Ev.step (fun k => by rw [code_Get.j0]) (Ev.pos rfl (Ev.now _))
  have hmore : Ev (fun k => code_Get.j1 k l a n true) (0, 4) := Ev.step (fun k => by rw [code_Get.j1]) (Ev.pos rfl (Ev.now _))
  unfold code_Get.f getL
  by_cases h1 : n < 1
  · rw [if_pos (by omega)]; exact Ev.pos h1 hbad
  by_cases h2 : n > 7
  · rw [if_pos (by omega)]; exact Ev.neg h1 (Ev.pos h2 hbad)
  by_cases h3 : a < 0
  · rw [if_pos (by omega)]
    refine Ev.neg h1 (Ev.neg h2 ?_)
    simp only [h3, decide_true]
    exact hbad
  rw [if_neg (by omega)]
  refine Ev.neg h1 (Ev.neg h2 ?_)
  simp only [h3, decide_false]
  refine Ev.step (fun k => by rw [code_Get.j0]) (Ev.neg (by simp) ?_)
  by_cases h4 : a > (l.length : Int)
  · rw [if_pos (by omega)]; exact Ev.pos h4 hmore
  refine Ev.neg h4 ?_
  have ew : wrap64 ((l.length : Int) - a) = l.length - a := w64 (by omega) (by omega)
  simp only [ew]
  by_cases h5 : (l.length : Int) - a < n
  · rw [if_pos (by omega)]
    simp only [h5, decide_true]
    exact hmore
  rw [if_neg (by omega)]
  simp only [h5, decide_false]
  refine Ev.step (fun k => by rw [code_Get.j1]) (Ev.neg (by simp) ?_)
  obtain ⟨m, rfl⟩ := Int.eq_ofNat_of_zero_le (show 0 ≤ a by omega)
  obtain ⟨j, rfl⟩ := Int.eq_ofNat_of_zero_le (show 0 ≤ n by omega)
  have := get_loop l hb m j (by omega) (by omega) hlen j 0 (by omega)
  simpa [valL] using this

/-! ### the references -/
theorem rvalue_loop (l : List Int) (hb : Bytes l) (hl : l.length ≤ 7) : ∀ (d i : Nat), i + d = l.length →
    Ev (fun k => boarderref02_Value.l0 k l (valL (l.take i)) i) (valL l)
  | 0, i, h => by
    obtain rfl : i = l.length := by omega
    exact Ev.step (fun k => by rw [boarderref02_Value.l0]) (Ev.neg (by omega) (Ev.const (by rw [List.take_length])))
  | d + 1, i, h => by
    have ei : wrap64 ((i : Int) + 1) = ((i + 1 : Nat) : Int) := by rw [w64 (by omega) (by omega)]; simp
    have hv := val_small6 (l.take i) (by simp; omega) (hb.take i)
    have hr := hb.rd (i : Int)
    have em : wrap64 (valL (l.take i) * 256) = valL (l.take i) * 256 := w64 (by omega) (by omega)
    have er : wrap64 (rd l (i : Int)) = rd l (i : Int) := w64 (by omega) (by omega)
    refine Ev.step (fun k => by rw [boarderref02_Value.l0]) (Ev.pos (by omega) (Ev.pos (by omega) ?_))
    simp only [ei, em, er]
    rw [w64 (x := valL (l.take i) * 256 + rd l i) (by omega) (by omega), ← valL_take_succ _ _ (by omega)]
    exact rvalue_loop l hb hl d (i + 1) (by omega)
theorem rvalue_is (l : List Int) (hb : Bytes l) (hl : l.length ≤ 7) : Ev (fun k => boarderref02_Value.f k l) (valL l) := by
  unfold boarderref02_Value.f
  have := rvalue_loop l hb hl l.length 0 (by omega)
  simpa [valL] using this
end Go.Proofs.Ytiklcnlehlpdaaa.Plain
