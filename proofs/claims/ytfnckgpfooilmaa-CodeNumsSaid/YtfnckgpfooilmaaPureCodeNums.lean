/- Numbers are written and read as the reference says, or the error is told: any numbers, any bytes. -/
import Derived.Test.YtfnckgpfooilmaaCrc
namespace Go.Proofs.Ytfnckgpfooilmaa.Pure
open Go.RowKit Go.Proofs.Ytfnckgpfooilmaa.PCode Go.Proofs.YtfnckgpfooilmaaW.PrintWords Go.Proofs.YtfnckgpfooilmaaW.PrintLast Go.Proofs.Ytfnckgpfooilmaa.Plain
theorem CodeNums : boarderlaw02_CodeNums.Pure := by
  intro v n l at_ hv0 hn0 _ hl hw ha0
  have hb := bytes_of_wf hw
  have hv := i64_of_wf hv0
  have hn := i64_of_wf hn0
  have ha := i64_of_wf ha0
  have hk : Ev (fun k => (boarderlaw02_knows.f k).bind fun t => some t) true := Ev.bind knows_is (Ev.now _)
  refine Ev.rounds (g := fun k => boarderlaw02_CodeNums.f k v n l at_) ?_
  unfold boarderlaw02_CodeNums.f
  refine Ev.bind (Ev.now _) ?_
  by_cases h : (l.length : Int) > 5000
  · exact Ev.pos (by simp [h]) hk
  refine Ev.neg (by simp; omega) ?_
  have hread : Ev (fun k => boarderlaw02_CodeNums.j0 k n l at_) true := by
    refine Ev.step (fun k => by rw [boarderlaw02_CodeNums.j0]) (Ev.bind (get_is l hb (by omega) at_ n ha.2) ?_)
    have hbad : (n < 1 ∨ n > 7 ∨ at_ < 0) → Ev (fun k => boarderlaw02_CodeNums.j1 k n l at_ (getL l at_ n).1 (getL l at_ n).2 true) true := by
      intro h1
      have e : getL l at_ n = (0, 1) := if_pos h1
      rw [e]
      exact Ev.step (fun k => by rw [boarderlaw02_CodeNums.j1]) (Ev.pos rfl (Ev.pos rfl (Ev.pos rfl hk)))
    by_cases h1 : n < 1
    · exact Ev.pos h1 (hbad (.inl h1))
    by_cases h2 : n > 7
    · exact Ev.neg h1 (Ev.pos h2 (hbad (.inr (.inl h2))))
    refine Ev.neg h1 (Ev.neg h2 ?_)
    by_cases h3 : at_ < 0
    · rw [decide_eq_true h3]
      exact hbad (.inr (.inr h3))
    rw [decide_eq_false h3]
    refine Ev.step (fun k => by rw [boarderlaw02_CodeNums.j1]) (Ev.neg (by simp) ?_)
    have hmore : (at_ > (l.length : Int) ∨ l.length - at_ < n) → Ev (fun k => boarderlaw02_CodeNums.j2 k n l at_ (getL l at_ n).1 (getL l at_ n).2 true) true := by
      intro h4
      have e : getL l at_ n = (0, 4) := by unfold getL; rw [if_neg (by omega), if_pos h4]
      rw [e]
      exact Ev.step (fun k => by rw [boarderlaw02_CodeNums.j2]) (Ev.pos rfl (Ev.pos rfl (Ev.pos rfl hk)))
    by_cases h4 : at_ > (l.length : Int)
    · exact Ev.pos h4 (hmore (.inl h4))
    refine Ev.neg h4 ?_
    rw [w64 (x := (l.length : Int) - at_) (by omega) (by omega)]
    by_cases h5 : n > (l.length : Int) - at_
    · rw [decide_eq_true h5]
      exact hmore (.inr h5)
    rw [decide_eq_false h5]
    have e : getL l at_ n = (valL ((l.drop at_.toNat).take n.toNat), 0) := by unfold getL; rw [if_neg (by omega), if_neg (by omega)]
    rw [e]
    refine Ev.step (fun k => by rw [boarderlaw02_CodeNums.j2]) (Ev.neg (by simp) ?_)
    have ew : wrap64 (at_ + n) = at_ + n := w64 (by omega) (by omega)
    have et : (l.take (at_ + n).toNat).drop at_.toNat = (l.drop at_.toNat).take n.toNat := by
      rw [List.drop_take]; congr 1; omega
    simp only [ew, et]
    exact Ev.pos (by omega) (Ev.pos (by omega) (Ev.pos (by omega) (Ev.bind (rvalue_is _ ((hb.drop _).take _) (by simp; omega)) (Ev.pos (by first | rfl | trivial) (Ev.pos (by first | rfl | trivial) hk)))))
  by_cases hm : May v n
  · obtain ⟨h0, h8, hv1, hv2⟩ := hm
    obtain ⟨m, rfl⟩ := Int.eq_ofNat_of_zero_le (show 0 ≤ n by omega)
    have hv3 : v < 256 ^ m := by simpa using hv2
    refine Ev.bind (put_ok v m (by omega) (by omega) hv1 hv3) (Ev.bind (rfair_is v m) (Ev.pos (decide_eq_true ⟨h0, h8, hv1, hv2⟩) ?_))
    exact Ev.bind (rput_is m (by omega) v hv1 hv.2) (Ev.pos rfl (Ev.pos rfl hread))
  · refine Ev.bind (put_no v n hv hm) (Ev.bind (rfair_is v n) (Ev.neg (by simpa using hm) ?_))
    exact Ev.pos rfl (Ev.pos rfl hread)
end Go.Proofs.Ytfnckgpfooilmaa.Pure
