/- Other options stay, and stay findable, whatever is kept. -/
import Derived.Test.YtiklcnlehlpdaaaOpsSame
import Derived.Test.YtiklcnlehlpdaaaPOpsx8
set_option linter.unusedVariables false
set_option linter.unusedSimpArgs false
namespace Go.Proofs.Ytiklcnlehlpdaaa.Pure
open Go.RowKit Go.Proofs.Ytiklcnlehlpdaaa.POps Go.Proofs.YtiklcnlehlpdaaaW.PrintWords Go.Proofs.YtiklcnlehlpdaaaW.PrintLast Go.Proofs.Ytiklcnlehlpdaaa.Plain
def has (c : Int) : List S70 → Nat
  | [] => 0
  | x :: r => if x.f0 = c then has c r + 1 else has c r
theorem has_le (c : Int) : ∀ l : List S70, has c l ≤ l.length
  | [] => Nat.le_refl _
  | x :: r => by
    have := has_le c r
    unfold has
    by_cases h : x.f0 = c
    · rw [if_pos h]; simp; omega
    · rw [if_neg h]; simp; omega
theorem has_loop (l : List S70) (hl : l.length ≤ 1000000) (c : Int) : ∀ (r : List S70) (i n : Nat), l.drop i = r → n ≤ i → Ev (fun k => boarderref03_Has.l0 k l c n i) ((n + has c r : Nat) : Int) := by
  intro r
  induction r with
  | nil =>
    intro i n h hn
    have := drop_none h
    unfold has
    exact Ev.step (fun k => by rw [boarderref03_Has.l0]) (Ev.neg (by omega) (Ev.const (by simp)))
  | cons x r ih =>
    intro i n h hn
    have hlen := drop_len h
    have hr := rd70_at h
    have ei := wi i l.length (by omega) (by omega)
    have en := wi n (l.length + 1) (by omega) (by omega)
    refine Ev.step (fun k => by rw [boarderref03_Has.l0]) (Ev.pos (by omega) (Ev.pos (by omega) ?_))
    simp only [hr, ei, en]
    unfold has
    by_cases hx : x.f0 = c
    · rw [if_pos hx]
      exact Ev.pos hx (Ev.eq (ih (i + 1) (n + 1) (drop_next h) (by omega)) (by omega))
    · rw [if_neg hx]
      exact Ev.neg hx (ih (i + 1) n (drop_next h) (by omega))
theorem has_is (l : List S70) (hl : l.length ≤ 1000000) (c : Int) : Ev (fun k => boarderref03_Has.f k l c) ((has c l : Nat) : Int) := by
  unfold boarderref03_Has.f
  have := has_loop l hl c l 0 0 rfl (Nat.le_refl _)
  rw [Nat.zero_add] at this
  exact this
theorem right_loop (l : List S70) (hl : l.length ≤ 1000000) : ∀ (r : List S70) (i : Nat), l.drop i = r → ∃ b, Ev (fun k => boarderref03_Right.l0 k l i) b := by
  intro r
  induction r with
  | nil =>
    intro i h
    have := drop_none h
    exact ⟨true, Ev.step (fun k => by rw [boarderref03_Right.l0]) (Ev.neg (by omega) (Ev.now _))⟩
  | cons x r ih =>
    intro i h
    have hlen := drop_len h
    have hr := rd70_at h
    have ei := wi i l.length (by omega) (by omega)
    by_cases h1 : x.f0 < 1
    · refine ⟨false, Ev.step (fun k => by rw [boarderref03_Right.l0]) (Ev.pos (by omega) (Ev.pos (by omega) ?_))⟩
      simp only [hr]
      exact Ev.pos h1 (Ev.now _)
    by_cases h2 : x.f0 > 254
    · refine ⟨false, Ev.step (fun k => by rw [boarderref03_Right.l0]) (Ev.pos (by omega) (Ev.pos (by omega) ?_))⟩
      simp only [hr]
      exact Ev.neg h1 (Ev.pos h2 (Ev.now _))
    by_cases h3 : (x.f1.length : Int) > 600
    · refine ⟨false, Ev.step (fun k => by rw [boarderref03_Right.l0]) (Ev.pos (by omega) (Ev.pos (by omega) ?_))⟩
      simp only [hr]
      exact Ev.neg h1 (Ev.neg h2 (Ev.pos h3 (Ev.now _)))
    by_cases h4 : ((has x.f0 l : Nat) : Int) > 1
    · refine ⟨false, Ev.step (fun k => by rw [boarderref03_Right.l0]) (Ev.pos (by omega) (Ev.pos (by omega) ?_))⟩
      simp only [hr]
      exact Ev.neg h1 (Ev.neg h2 (Ev.neg h3 (Ev.bind (has_is l hl x.f0) (Ev.pos h4 (Ev.now _)))))
    · obtain ⟨b, hb⟩ := ih (i + 1) (drop_next h)
      refine ⟨b, Ev.step (fun k => by rw [boarderref03_Right.l0]) (Ev.pos (by omega) (Ev.pos (by omega) ?_))⟩
      simp only [hr, ei]
      exact Ev.neg h1 (Ev.neg h2 (Ev.neg h3 (Ev.bind (has_is l hl x.f0) (Ev.neg h4 hb))))
theorem right_some (l : List S70) (hl : l.length ≤ 1000000) : ∃ b, Ev (fun k => boarderref03_Right.f k l) b := by
  unfold boarderref03_Right.f
  by_cases h : (l.length : Int) > 60
  · exact ⟨false, Ev.pos h (Ev.now _)⟩
  · obtain ⟨b, hb⟩ := right_loop l hl l 0 rfl
    exact ⟨b, Ev.neg h hb⟩
theorem has_append (c : Int) : ∀ l m : List S70, has c (l ++ m) = has c l + has c m
  | [], m => by simp [has]
  | x :: r, m => by
    have := has_append c r m
    by_cases h : x.f0 = c
    · simp [has, h]; omega
    · simp [has, h]; omega
theorem has_others (c : Int) : ∀ l : List S70, has c (others c l) = 0
  | [] => rfl
  | x :: r => by
    by_cases h : x.f0 = c
    · rw [others_same h]; exact has_others c r
    · rw [others_more h]; simp [has, h, has_others c r]
theorem has_keep (l : List S70) (c : Int) (b : List Int) : has c (keepL l c b) = 1 := by
  unfold keepL
  rw [has_append, has_others]
  simp [has]
theorem OptsOthers : boarderlaw05_OptsOthers.Pure := by
  intro l c b d hl hw _ _ hlb hwb _
  have hb := bytes_of_wf70 hw
  refine Ev.rounds (g := fun n => boarderlaw05_OptsOthers.f n l c b d) ?_
  have bad : Ev (fun k => boarderlaw05_OptsOthers.j0 k l c b d true) true := Ev.step (fun k => by rw [boarderlaw05_OptsOthers.j0]) (Ev.pos rfl knows_then)
  unfold boarderlaw05_OptsOthers.f
  obtain ⟨g, hg, hf⟩ := great_then l hl
  refine Ev.bind hg ?_
  cases g with
  | true => exact Ev.pos rfl bad
  | false =>
    obtain ⟨hfit, h100⟩ := hf rfl
    refine Ev.neg (by decide) ?_
    by_cases h : (b.length : Int) > 1000
    · exact Ev.pos h bad
    refine Ev.neg h ?_
    by_cases hcd : c = d
    · exact Ev.pos hcd bad
    refine Ev.neg hcd ?_
    obtain ⟨rt, hrt⟩ := right_some l (by omega)
    refine Ev.bind hrt ?_
    cases rt with
    | false => exact bad
    | true =>
      refine Ev.step (fun k => by rw [boarderlaw05_OptsOthers.j0]) (Ev.neg (by decide) ?_)
      refine Ev.bind (keep_is l hfit c b (by omega)) ?_
      by_cases hc : FairC c b
      · rw [if_pos hc]
        have hk := (keepL_fit hfit (by omega) c (b := b) (by omega))
        have hlen : (keepL l c b).length ≤ 100000 := by omega
        refine Ev.pos rfl (Ev.bind (rfind_is l hfit.1 d) (Ev.bind (rfind_is (keepL l c b) hlen d) (Ev.bind (rfind_is (keepL l c b) hlen c) ?_)))
        rw [find_keep_ne (fun e => hcd e.symm), find_keep]
        refine Ev.pos rfl (Ev.pos (by simp) (Ev.pos rfl (Ev.pos rfl (Ev.bind (has_is (keepL l c b) (by omega) c) (Ev.pos ?_ knows_then)))))
        rw [has_keep]
        rfl
      · rw [if_neg hc]
        refine Ev.neg (by decide) (Ev.bind (Ev.opt (rfairc_is c b)) ?_)
        rw [decide_eq_false hc]
        exact Ev.neg (by decide) knows_then
end Go.Proofs.Ytiklcnlehlpdaaa.Pure
