/- Options: what the statements' own examples, Listed, Wants and the references come to. -/
import Derived.Test.YtiklcnlehlpdaaaOpsKeep
set_option linter.unusedVariables false
set_option linter.unusedSimpArgs false
namespace Go.Proofs.Ytiklcnlehlpdaaa.Plain
open Go.RowKit Go.Proofs.YtiklcnlehlpdaaaW.PrintWords Go.Proofs.YtiklcnlehlpdaaaW.PrintLast Go.Proofs.YtiklcnlehlpdaaaW.PrintMore Go.Proofs.Ytiklcnlehlpdaaa.POps
theorem take_rd (l : List Int) (i : Nat) (h : i < l.length) : l.take (i + 1) = l.take i ++ [rd l i] := by
  rw [List.take_succ_eq_append_getElem h]
  unfold rd
  rw [Int.toNat_natCast, List.getD_eq_getElem?_getD, List.getElem?_eq_getElem h]
  rfl
theorem w64_rd {l : List Int} (hb : Bytes l) (i : Int) : wrap64 (rd l i) = rd l i := by
  have := hb.rd i
  exact w64 (by omega) (by omega)
theorem listed_loop (d : List Int) (hd : d.length ≤ 1000000) (hb : Bytes d) : ∀ (n i : Nat), i + n = d.length → Ev (fun k => opts_Listed.l0 k (d.take i) d (d.length : Int) i) d
  | 0, i, h => Ev.step (fun k => by rw [opts_Listed.l0]) (Ev.neg (by omega) (Ev.const (List.take_of_length_le (by omega))))
  | n + 1, i, h => by
    have ei := wi i d.length (by omega) (by omega)
    refine Ev.step (fun k => by rw [opts_Listed.l0]) (Ev.pos (by omega) (Ev.pos (by omega) (Ev.pos (by omega) ?_)))
    refine Ev.bind (Ev.now _) (Ev.pos (by simp; omega) ?_)
    simp only [ei, w64_rd hb]
    rw [← take_rd d i (by omega)]
    exact listed_loop d hd hb n (i + 1) (by omega)
theorem listed_is (l : List S70) (hl : Fit l) (hb : AllBytes l) : Ev (fun k => opts_Listed.f k l) (find 55 l).1 := by
  unfold opts_Listed.f
  refine Ev.bind (find_is l hl 55) ?_
  exact listed_loop (find 55 l).1 (find_len hl 55) (find_bytes hb 55) (find 55 l).1.length 0 (by omega)
theorem rlisted_loop (d : List Int) (hd : d.length ≤ 1000000) (hb : Bytes d) : ∀ (n i : Nat), i + n = d.length → Ev (fun k => boarderref05_Listed.l0 k d (d.take i) i) d
  | 0, i, h => Ev.step (fun k => by rw [boarderref05_Listed.l0]) (Ev.neg (by omega) (Ev.const (List.take_of_length_le (by omega))))
  | n + 1, i, h => by
    have ei := wi i d.length (by omega) (by omega)
    refine Ev.step (fun k => by rw [boarderref05_Listed.l0]) (Ev.pos (by omega) (Ev.pos (by omega) (Ev.pos (by simp; omega) ?_)))
    simp only [ei, w64_rd hb]
    rw [← take_rd d i (by omega)]
    exact rlisted_loop d hd hb n (i + 1) (by omega)
theorem rlisted_is (l : List S70) (hl : Fit l) (hb : AllBytes l) : Ev (fun k => boarderref05_Listed.f k l) (find 55 l).1 := by
  unfold boarderref05_Listed.f
  refine Ev.bind (rfind_is l hl.1 55) ?_
  exact rlisted_loop (find 55 l).1 (find_len hl 55) (find_bytes hb 55) (find 55 l).1.length 0 (by omega)
def wantsR (c : Int) : List Int → Bool
  | [] => false
  | x :: r => if x = c then true else wantsR c r
theorem wants_loop (c : Int) (d : List Int) (hd : d.length ≤ 1000000) : ∀ (r : List Int) (i : Nat), d.drop i = r → Ev (fun k => opts_Wants.l0 k c d (d.length : Int) i) (wantsR c r) := by
  intro r
  induction r with
  | nil =>
    intro i h
    have := drop_none h
    unfold wantsR
    exact Ev.step (fun k => by rw [opts_Wants.l0]) (Ev.neg (by omega) (Ev.now _))
  | cons x r ih =>
    intro i h
    have hlen := drop_len h
    have hr := rd_at h
    have ei := wi i d.length (by omega) (by omega)
    refine Ev.step (fun k => by rw [opts_Wants.l0]) (Ev.pos (by omega) (Ev.pos (by omega) (Ev.pos (by omega) ?_)))
    simp only [hr, ei]
    unfold wantsR
    by_cases hx : x = c
    · rw [if_pos hx]; exact Ev.pos hx (Ev.now _)
    · rw [if_neg hx]; exact Ev.neg hx (ih (i + 1) (drop_next h))
theorem wants_is (l : List S70) (hl : Fit l) (hb : AllBytes l) (c : Int) : Ev (fun k => opts_Wants.f k l c) (wantsR c (find 55 l).1) := by
  unfold opts_Wants.f
  exact Ev.bind (listed_is l hl hb) (wants_loop c _ (find_len hl 55) _ 0 rfl)
theorem rwants_loop (c : Int) (d : List Int) (hd : d.length ≤ 1000000) (hb : Bytes d) : ∀ (r : List Int) (i : Nat), d.drop i = r → Ev (fun k => boarderref05_Wants.l0 k c d i) (wantsR c r) := by
  intro r
  induction r with
  | nil =>
    intro i h
    have := drop_none h
    unfold wantsR
    exact Ev.step (fun k => by rw [boarderref05_Wants.l0]) (Ev.neg (by omega) (Ev.now _))
  | cons x r ih =>
    intro i h
    have hlen := drop_len h
    have hr := rd_at h
    have ei := wi i d.length (by omega) (by omega)
    refine Ev.step (fun k => by rw [boarderref05_Wants.l0]) (Ev.pos (by omega) (Ev.pos (by omega) ?_))
    simp only [w64_rd hb]
    simp only [hr, ei]
    unfold wantsR
    by_cases hx : x = c
    · rw [if_pos hx]; exact Ev.pos hx (Ev.now _)
    · rw [if_neg hx]; exact Ev.neg hx (ih (i + 1) (drop_next h))
theorem rwants_is (l : List S70) (hl : Fit l) (hb : AllBytes l) (c : Int) : Ev (fun k => boarderref05_Wants.f k l c) (wantsR c (find 55 l).1) := by
  unfold boarderref05_Wants.f
  exact Ev.bind (rfind_is l hl.1 55) (rwants_loop c _ (find_len hl 55) (find_bytes hb 55) _ 0 rfl)
theorem ints_loop (d : List Int) (hd : d.length ≤ 1000000) : ∀ (n i : Nat), i + n = d.length → Ev (fun k => boarderref05_SameInts.l0 k d d i) true
  | 0, i, h => Ev.step (fun k => by rw [boarderref05_SameInts.l0]) (Ev.neg (by omega) (Ev.now _))
  | n + 1, i, h => by
    have ei := wi i d.length (by omega) (by omega)
    refine Ev.step (fun k => by rw [boarderref05_SameInts.l0]) (Ev.pos (by omega) (Ev.pos (by omega) (Ev.pos (by omega) (Ev.pos rfl ?_))))
    simp only [ei]
    exact ints_loop d hd n (i + 1) (by omega)
theorem ints_is (d : List Int) (hd : d.length ≤ 1000000) : Ev (fun k => boarderref05_SameInts.f k d d) true := by
  unfold boarderref05_SameInts.f
  exact Ev.pos rfl (ints_loop d hd d.length 0 (by omega))
/-! ### knows -/
def oneX : List S70 := [⟨51, [0, 0, 2, 88]⟩]
def twoX : List S70 := [⟨51, [0, 0, 2, 88]⟩, ⟨53, [5]⟩]
def wantX : List S70 := [⟨55, [3]⟩]
theorem fit_of {l : List S70} (h : (l.length ≤ 100000 ∧ l.all (fun x => decide (x.f1.length ≤ 1000000) && x.f1.all (fun y => decide (0 ≤ y) && decide (y < 256))) = true)) : Fit l ∧ AllBytes l := by
  obtain ⟨h1, h2⟩ := h
  rw [List.all_eq_true] at h2
  refine ⟨⟨h1, fun x hx => ?_⟩, fun x hx y hy => ?_⟩
  · have := h2 x hx
    simp only [Bool.and_eq_true, decide_eq_true_eq] at this
    exact this.1
  · have := h2 x hx
    simp only [Bool.and_eq_true, decide_eq_true_eq, List.all_eq_true] at this
    exact this.2 y hy
theorem knows_is : Ev (fun k => boarderlaw05_knows.f k) true := by
  have s1 : setR [] 51 600 4 = (oneX, 0) := by
    unfold setR
    rw [if_pos (by decide +kernel)]
    rfl
  have s2 : setR oneX 53 5 1 = (twoX, 0) := by
    unfold setR
    rw [if_pos (by decide +kernel)]
    rfl
  have f0 : Fit ([] : List S70) := ⟨by decide, fun x hx => by cases hx⟩
  have f1 := fit_of (l := oneX) ⟨by decide, by decide⟩
  have f2 := fit_of (l := twoX) ⟨by decide, by decide⟩
  have f3 := fit_of (l := wantX) ⟨by decide, by decide⟩
  unfold boarderlaw05_knows.f
  refine Ev.bind (Ev.eq (set_is [] f0 51 600 4 (by decide)) s1) (Ev.bind (Ev.eq (set_is oneX f1.1 53 5 1 (by decide)) s2) (Ev.bind (Ev.eq (number_is twoX f2.1 f2.2 51) (show num 51 twoX = (600, true) by decide +kernel)) ?_))
  refine Ev.pos rfl (Ev.pos rfl (Ev.pos rfl (Ev.pos (by decide) (Ev.pos (by rw [str_toList]; decide +kernel) (Ev.pos rfl (Ev.pos rfl ?_))))))
  exact Ev.bind (Ev.eq (kind_is twoX f2.1) (show kindL twoX = 5 by decide +kernel)) (Ev.pos rfl (Ev.bind (Ev.eq (wants_is wantX f3.1 f3.2 3) (by decide +kernel)) (Ev.now _)))
theorem knows_then : Ev (fun k => (boarderlaw05_knows.f k).bind fun t => some t) true := Ev.bind knows_is (Ev.now _)
end Go.Proofs.Ytiklcnlehlpdaaa.Plain
