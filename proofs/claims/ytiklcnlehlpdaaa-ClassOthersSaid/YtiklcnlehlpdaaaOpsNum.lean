/- Options: what opts.Number, opts.KindOf and the references come to. -/
import Derived.Test.YtiklcnlehlpdaaaOpsFind
set_option linter.unusedVariables false
set_option linter.unusedSimpArgs false
namespace Go.Proofs.Ytiklcnlehlpdaaa.Plain
open Go.RowKit Go.Proofs.YtiklcnlehlpdaaaW.PrintWords Go.Proofs.YtiklcnlehlpdaaaW.PrintLast Go.Proofs.YtiklcnlehlpdaaaW.PrintMore Go.Proofs.Ytiklcnlehlpdaaa.POps
def num (c : Int) (l : List S70) : Int × Bool := if (find c l).1.length = 4 then (valL (find c l).1, true) else (0, false)
theorem number_is (l : List S70) (hl : Fit l) (hb : AllBytes l) (c : Int) : Ev (fun k => opts_Number.f k l c) (num c l) := by
  unfold opts_Number.f num
  refine Ev.bind (find_is l hl c) ?_
  by_cases h : (find c l).1.length = 4
  · rw [if_pos h]
    have g := Ev.eq (get_is (find c l).1 (find_bytes hb c) (by omega) 0 4 (by omega)) (show getL (find c l).1 0 4 = (valL (find c l).1, 0) by
      unfold getL
      rw [if_neg (by omega), if_neg (by omega)]
      simp only [Int.toNat_zero, List.drop_zero]
      rw [List.take_of_length_le (by rw [h]; decide)])
    exact Ev.pos (by omega) (Ev.bind g (Ev.now _))
  · rw [if_neg h]; exact Ev.neg (by omega) (Ev.now _)
theorem rnumber_is (l : List S70) (hl : Fit l) (hb : AllBytes l) (c : Int) : Ev (fun k => boarderref05_Number.f k l c) (num c l) := by
  unfold boarderref05_Number.f num
  refine Ev.bind (rfind_is l hl.1 c) ?_
  rcases find_cases c l with e | ⟨x, hx, e, _⟩
  · rw [e]; exact Ev.neg (by decide) (Ev.now _)
  · have hbx := hb x hx
    rw [e]
    refine Ev.pos rfl ?_
    by_cases h : x.f1.length = 4
    · rw [if_pos h]; exact Ev.pos (by show ((x.f1.length : Nat) : Int) = 4; omega) (Ev.bind (rvalue_is x.f1 hbx (by omega)) (Ev.now _))
    · rw [if_neg h]; exact Ev.neg (by show ¬ ((x.f1.length : Nat) : Int) = 4; omega) (Ev.now _)
def kindL (l : List S70) : Int := if (find 53 l).1.length = 1 ∧ 1 ≤ rd (find 53 l).1 0 ∧ rd (find 53 l).1 0 ≤ 8 then rd (find 53 l).1 0 else 0
theorem kind_one (d : List Int) : (if d.length = 1 ∧ 1 ≤ rd d 0 ∧ rd d 0 ≤ 8 then rd d 0 else 0) = (if d.length = 1 then (if rd d 0 < 1 then 0 else if rd d 0 > 8 then 0 else rd d 0) else 0) := by
  by_cases h : d.length = 1
  · by_cases h1 : rd d 0 < 1
    · rw [if_neg (by omega), if_pos h, if_pos h1]
    by_cases h2 : rd d 0 > 8
    · rw [if_neg (by omega), if_pos h, if_neg h1, if_pos h2]
    · rw [if_pos ⟨h, by omega, by omega⟩, if_pos h, if_neg h1, if_neg h2]
  · rw [if_neg (by omega), if_neg h]
theorem kind_is (l : List S70) (hl : Fit l) : Ev (fun k => opts_KindOf.f k l) (kindL l) := by
  unfold kindL
  rw [kind_one]
  unfold opts_KindOf.f
  refine Ev.bind (find_is l hl 53) ?_
  generalize (find 53 l).1 = d
  by_cases h : d.length = 1
  · refine Ev.eq ?_ (if_pos h).symm
    refine Ev.pos (by omega) (Ev.pos (by omega) ?_)
    by_cases h1 : rd d 0 < 1
    · exact Ev.eq (Ev.pos h1 (Ev.now _)) (if_pos h1).symm
    refine Ev.eq ?_ (if_neg h1).symm
    by_cases h2 : rd d 0 > 8
    · exact Ev.eq (Ev.neg h1 (Ev.pos h2 (Ev.now _))) (if_pos h2).symm
    · exact Ev.eq (Ev.neg h1 (Ev.neg h2 (Ev.const (w64 (by omega) (by omega))))) (if_neg h2).symm
  · exact Ev.eq (Ev.neg (by omega) (Ev.now _)) (if_neg h).symm
theorem rkind_is (l : List S70) (hl : Fit l) : Ev (fun k => boarderref05_Kind.f k l) (kindL l) := by
  unfold kindL
  rw [kind_one]
  unfold boarderref05_Kind.f
  refine Ev.bind (rfind_is l hl.1 53) ?_
  rcases find_cases 53 l with e | ⟨x, hx, e, _⟩
  · rw [e]; exact Ev.neg (by decide) (Ev.now _)
  · rw [e]
    refine Ev.pos (by rfl) ?_
    show Ev (fun k => if (x.f1.length : Int) = 1 then (if 0 < (x.f1.length : Int) then (if (rd x.f1 0) ≥ 1 then (if (rd x.f1 0) ≤ 8 then (some (wrap64 (rd x.f1 0))) else (some 0)) else (some 0)) else (none)) else (some 0)) (if x.f1.length = 1 then (if rd x.f1 0 < 1 then 0 else if rd x.f1 0 > 8 then 0 else rd x.f1 0) else 0)
    generalize x.f1 = d
    by_cases h : d.length = 1
    · refine Ev.eq ?_ (if_pos h).symm
      refine Ev.pos (by omega) (Ev.pos (by omega) ?_)
      by_cases h1 : rd d 0 < 1
      · exact Ev.eq (Ev.neg (by omega) (Ev.now _)) (if_pos h1).symm
      refine Ev.eq ?_ (if_neg h1).symm
      by_cases h2 : rd d 0 > 8
      · exact Ev.eq (Ev.pos (by omega) (Ev.neg (by omega) (Ev.now _))) (if_pos h2).symm
      · exact Ev.eq (Ev.pos (by omega) (Ev.pos (by omega) (Ev.const (w64 (by omega) (by omega))))) (if_neg h2).symm
    · exact Ev.eq (Ev.neg (by omega) (Ev.now _)) (if_neg h).symm
end Go.Proofs.Ytiklcnlehlpdaaa.Plain
