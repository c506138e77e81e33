/- Any bytes are opened as the reference says: the sum that stands is the sum of the bytes exactly if the frame of those bytes stands there. -/
import Derived.Test.YtfnckgpfooilmaaCrc
set_option linter.unusedVariables false
set_option linter.unusedSimpArgs false
namespace Go.Proofs.Ytfnckgpfooilmaa.Plain
open Go.RowKit Go.Proofs.YtfnckgpfooilmaaW.PrintWords Go.Proofs.YtfnckgpfooilmaaW.PrintLast Go.Proofs.YtfnckgpfooilmaaW.PrintMore Go.Proofs.Ytfnckgpfooilmaa.PCode
theorem frame_stands (l : List Int) (hb : Bytes l) (m : Nat) (hm : valL (l.take 2) = m) (hl : 6 + m ≤ l.length) :
    frameL ((l.drop 6).take m) = l.take (6 + m) ↔ crc ((l.drop 6).take m) = valL ((l.drop 2).take 4) := by
  have e2 : beL 2 (m : Int) = l.take 2 := by rw [← hm]; exact beL_valL 2 _ (by simp; omega) (hb.take 2)
  have e4 : beL 4 (valL ((l.drop 2).take 4)) = (l.drop 2).take 4 := beL_valL 4 _ (by simp; omega) ((hb.drop 2).take 4)
  have el : (((l.drop 6).take m).length : Int) = m := by simp; omega
  have et : l.take (6 + m) = l.take 2 ++ (l.drop 2).take 4 ++ (l.drop 6).take m := by
    rw [List.take_add, show (6 : Nat) = 2 + 4 from rfl, List.take_add]
  have hc := crc_range ((l.drop 6).take m)
  unfold frameL
  rw [el, e2, et]
  constructor
  · intro h
    have h1 := List.append_cancel_right h
    have h2 := List.append_cancel_left h1
    have h3 := congrArg valL h2
    rw [valL_beL 4 _ hc.1 (by have : (256 : Int) ^ 4 = 4294967296 := rfl; omega)] at h3
    exact h3
  · intro h
    rw [h, e4]
theorem ropen_is (l : List Int) (hb : Bytes l) (hl : l.length ≤ 140737488351232) : Ev (fun k => boarderref02_Open.f k l) (openL l) := by
  unfold boarderref02_Open.f openL
  by_cases h6 : l.length < 6
  · rw [if_pos h6]; exact Ev.pos (by omega) (Ev.now _)
  rw [if_neg h6]
  refine Ev.neg (by omega) (Ev.pos (by omega) (Ev.bind (rvalue_is _ (hb.take 2) (by simp; omega)) ?_))
  have hn := valL_range 2 (l.take 2) (by simp; omega) (hb.take 2)
  obtain ⟨m, hm⟩ := Int.eq_ofNat_of_zero_le hn.1
  have hst := frame_stands l hb m hm
  rw [hm] at hn ⊢
  have hn' : (m : Int) < 65536 := hn.2
  by_cases h3 : (m : Int) > 2000
  · rw [if_pos h3]; exact Ev.pos h3 (Ev.now _)
  rw [if_neg h3]
  refine Ev.neg h3 ?_
  have ew : wrap64 (6 + (m : Int)) = 6 + m := w64 (by omega) (by omega)
  have ez : wrap64 ((l.length : Int) - 6) = l.length - 6 := w64 (by omega) (by omega)
  simp only [ew, ez]
  clear ew ez
  by_cases h4 : (l.length : Int) < 6 + m
  · rw [if_pos h4]; exact Ev.pos (by omega) (Ev.now _)
  rw [if_neg h4]
  have et : (l.take (6 + (m : Int)).toNat).drop 6 = (l.drop 6).take m := by
    rw [show (6 + (m : Int)).toNat = 6 + m by omega, drop_take_six]
  have e6 : (6 + (m : Int)).toNat = 6 + m := by omega
  rw [Int.toNat_natCast]
  refine Ev.neg (by omega) (Ev.pos (by omega) (Ev.pos (by omega) ?_))
  simp only [et]
  refine Ev.bind (Ev.now _) (Ev.bind (rframe_is _ ((hb.drop 6).take m) (by simp; omega)) (Ev.pos (by omega) ?_))
  rw [e6]
  by_cases h5 : crc ((l.drop 6).take m) = valL ((l.drop 2).take 4)
  · exact Ev.eq (Ev.pos (by rw [(hst (by omega)).2 h5]) (Ev.now _)) (if_pos h5).symm
  · refine Ev.eq (Ev.neg (fun h => h5 ((hst (by omega)).1 ?_)) (Ev.now _)) (if_neg h5).symm
    exact (str_inj (frameL_bytes ((hb.drop 6).take m)) (hb.take _)).1 h
end Go.Proofs.Ytfnckgpfooilmaa.Plain
namespace Go.Proofs.Ytfnckgpfooilmaa.Pure
open Go.RowKit Go.Proofs.Ytfnckgpfooilmaa.PCode Go.Proofs.YtfnckgpfooilmaaW.PrintWords Go.Proofs.YtfnckgpfooilmaaW.PrintLast Go.Proofs.Ytfnckgpfooilmaa.Plain
theorem CodeOpens : boarderlaw02_CodeOpens.Pure := by
  intro l _ hl hw
  have hb := bytes_of_wf hw
  have hk : Ev (fun k => (boarderlaw02_knows.f k).bind fun t => some t) true := Ev.bind knows_is (Ev.now _)
  refine Ev.rounds (g := fun k => boarderlaw02_CodeOpens.f k l) ?_
  unfold boarderlaw02_CodeOpens.f
  refine Ev.bind (Ev.now _) ?_
  by_cases h : (l.length : Int) > 5000
  · exact Ev.pos (by simp [h]) hk
  · refine Ev.neg (by simp; omega) (Ev.bind (Ev.now _) (Ev.pos (by simp; omega) ?_))
    rw [List.nil_append]
    refine Ev.bind (open_is l hb (by omega)) (Ev.bind (ropen_is l hb (by omega)) ?_)
    exact Ev.pos rfl (Ev.pos rfl (Ev.pos rfl hk))
end Go.Proofs.Ytfnckgpfooilmaa.Pure
