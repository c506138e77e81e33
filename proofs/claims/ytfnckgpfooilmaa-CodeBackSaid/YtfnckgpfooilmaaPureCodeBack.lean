/- A number that is written, with bytes ahead and behind, is read as it was: any numbers, any bytes. -/
import Derived.Test.YtfnckgpfooilmaaCrc
namespace Go.Proofs.Ytfnckgpfooilmaa.Pure
open Go.RowKit Go.Proofs.Ytfnckgpfooilmaa.PCode Go.Proofs.YtfnckgpfooilmaaW.PrintWords Go.Proofs.YtfnckgpfooilmaaW.PrintLast Go.Proofs.Ytfnckgpfooilmaa.Plain
theorem CodeBack : boarderlaw02_CodeBack.Pure := by
  intro v n a b hv0 hn0 _ hla hwa _ hlb hwb
  have hba := bytes_of_wf hwa
  have hbb := bytes_of_wf hwb
  have hv := i64_of_wf hv0
  have hn := i64_of_wf hn0
  have hk : Ev (fun k => (boarderlaw02_knows.f k).bind fun t => some t) true := Ev.bind knows_is (Ev.now _)
  refine Ev.rounds (g := fun k => boarderlaw02_CodeBack.f k v n a b) ?_
  have hgreat : Ev (fun k => boarderlaw02_CodeBack.j0 k v n a b true) true := Ev.step (fun k => by rw [boarderlaw02_CodeBack.j0]) (Ev.pos rfl hk)
  unfold boarderlaw02_CodeBack.f
  refine Ev.bind (Ev.now _) ?_
  by_cases h1 : (a.length : Int) > 5000
  · exact Ev.pos (by simp [h1]) hgreat
  refine Ev.neg (by simp; omega) (Ev.bind (Ev.now _) ?_)
  by_cases h2 : (b.length : Int) > 5000
  · rw [decide_eq_true h2]; exact hgreat
  rw [decide_eq_false h2]
  refine Ev.step (fun k => by rw [boarderlaw02_CodeBack.j0]) (Ev.neg (by simp) ?_)
  by_cases hm : May v n
  · obtain ⟨h0, h8, hv1, hv2⟩ := hm
    obtain ⟨m, rfl⟩ := Int.eq_ofNat_of_zero_le (show 0 ≤ n by omega)
    have hv3 : v < 256 ^ m := by simpa using hv2
    refine Ev.bind (put_ok v m (by omega) (by omega) hv1 hv3) (Ev.pos rfl (Ev.bind (Ev.now _) (Ev.pos (by simp; omega) (Ev.bind (Ev.now _) (Ev.pos (by simp [beL_length]; omega) (Ev.bind (Ev.now _) (Ev.pos (by simp [beL_length]; omega) ?_)))))))
    refine Ev.bind (get_is _ (((Bytes.nil.append hba).append (beL_bytes m v)).append hbb) (by simp [beL_length]; omega) a.length m (by omega)) ?_
    have e : getL ([] ++ a ++ beL m v ++ b) a.length m = (v, 0) := by
      unfold getL
      rw [if_neg (by omega), if_neg (by simp [beL_length]; omega), Int.toNat_natCast, Int.toNat_natCast, List.nil_append, List.append_assoc, List.drop_left' rfl, List.take_left' (beL_length m v), valL_beL m v hv1 hv3]
    rw [e]
    exact Ev.pos (by rw [beL_length]) (Ev.pos rfl (Ev.pos rfl hk))
  · refine Ev.bind (put_no v n hv hm) (Ev.neg (by decide) (Ev.bind (rfair_is v n) (Ev.neg (by simpa using hm) hk)))
end Go.Proofs.Ytfnckgpfooilmaa.Pure
