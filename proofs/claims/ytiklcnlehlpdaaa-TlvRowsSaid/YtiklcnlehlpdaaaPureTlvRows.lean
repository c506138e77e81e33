/- Two written, one behind the other, are read as the two joined. -/
import Derived.Test.YtiklcnlehlpdaaaTljJn
import Derived.Test.YtiklcnlehlpdaaaPTljx8
set_option linter.unusedVariables false
set_option linter.unusedSimpArgs false
namespace Go.Proofs.Ytiklcnlehlpdaaa.Pure
open Go.RowKit Go.Proofs.Ytiklcnlehlpdaaa.PTlj Go.Proofs.YtiklcnlehlpdaaaW.PrintWords Go.Proofs.YtiklcnlehlpdaaaW.PrintLast Go.Proofs.Ytiklcnlehlpdaaa.Plain
theorem flat_two {l m : List S70} (hl : Right3 l) (hm : Right3 m) : readA (flatL l ++ writeL m) [] = jn l m := by
  unfold jn
  rw [read_flat _ l [] (fun x hx => (hl.2 x hx).1) Right3.nil, joins_self hl.once, if_pos hl, if_pos ⟨hl, hm⟩]
  unfold writeL
  rw [read_flat _ m l (fun x hx => (hm.2 x hx).1) hl]
  by_cases h : Right3 (joins l m)
  · rw [if_pos h, if_pos h]
    exact readA_end _ _
  · rw [if_neg h, if_neg h]
theorem TlvRows : boarderlaw03_TlvRows.Pure := by
  intro l m hl hwl hm hwm
  have hbl := bytes_of_wf70 hwl
  have hbm := bytes_of_wf70 hwm
  refine Ev.rounds (g := fun n => boarderlaw03_TlvRows.f n l m) ?_
  have bad : Ev (fun k => boarderlaw03_TlvRows.j0 k l m true) true := Ev.step (fun k => by rw [boarderlaw03_TlvRows.j0]) (Ev.pos rfl knows_then)
  have none : ∀ (x y : List Int), (x = [] ∨ y = []) → Ev (fun k => boarderlaw03_TlvRows.j1 k l m x y true) true := by
    intro x y h
    refine Ev.step (fun k => by rw [boarderlaw03_TlvRows.j1]) (Ev.pos rfl ?_)
    by_cases hx : (x.length : Int) = 0
    · exact Ev.pos hx knows_then
    · refine Ev.neg hx (Ev.pos ?_ knows_then)
      rcases h with h | h
      · rw [h] at hx; exact absurd rfl hx
      · rw [h]; rfl
  unfold boarderlaw03_TlvRows.f
  obtain ⟨g, hg, hf⟩ := great_then l hl
  obtain ⟨g2, hg2, hf2⟩ := great_then m hm
  refine Ev.bind hg ?_
  cases g with
  | true => exact Ev.pos rfl bad
  | false =>
    refine Ev.neg (by decide) (Ev.bind hg2 ?_)
    cases g2 with
    | true => exact bad
    | false =>
      obtain ⟨hfit, h100⟩ := hf rfl
      obtain ⟨hfit2, h1002⟩ := hf2 rfl
      refine Ev.step (fun k => by rw [boarderlaw03_TlvRows.j0]) (Ev.neg (by decide) ?_)
      refine Ev.bind (write_is l hfit.1) (Ev.bind (write_is m hfit2.1) ?_)
      by_cases h1 : Right3 l
      · rw [if_pos h1]
        refine Ev.pos rfl ?_
        by_cases h2 : Right3 m
        · rw [if_pos h2]
          have e1 := writeL_fit h1
          have e2 := writeL_fit h2
          have ew : (writeL l).length = (flatL l).length + 1 := by simp [writeL]
          have eq : wrap64 (((writeL l).length : Int) - 1) = ((flatL l).length : Int) := by rw [w64 (by omega) (by omega)]; omega
          have et : (writeL l).take (flatL l).length = flatL l := by unfold writeL; exact List.take_left' rfl
          show Ev (fun k => boarderlaw03_TlvRows.j1 k l m (writeL l) (writeL m) false) true
          refine Ev.step (fun k => by rw [boarderlaw03_TlvRows.j1]) (Ev.neg (by decide) (Ev.neg (by omega) (Ev.bind (Ev.now _) ?_)))
          simp only [eq, Int.toNat_natCast, et]
          refine Ev.pos (by omega) (Ev.pos (by omega) (Ev.bind (Ev.now _) (Ev.pos (by simp; omega) ?_)))
          rw [List.nil_append]
          refine Ev.bind (Ev.now _) (Ev.pos (by omega) ?_)
          have hb : Bytes (flatL l ++ writeL m) := (flatL_bytes l (fun x hx => (h1.2 x hx).1.2.2) hbl).append (writeL_bytes h2 hbm)
          refine Ev.bind (Ev.eq (read_is (flatL l ++ writeL m) (by simp; omega) hb) (flat_two h1 h2)) (Ev.bind (jn_is l m hfit.1 hfit2.1) (Ev.pos rfl (Ev.bind (same_is _ (jn_len l m)) (Ev.pos rfl knows_then))))
        · rw [if_neg h2]
          exact none _ _ (Or.inr rfl)
      · rw [if_neg h1]
        exact Ev.neg (by decide) (none _ _ (Or.inl rfl))
end Go.Proofs.Ytiklcnlehlpdaaa.Pure
