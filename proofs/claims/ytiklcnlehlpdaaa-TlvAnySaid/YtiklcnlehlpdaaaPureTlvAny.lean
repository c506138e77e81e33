/- Whatever bytes are read: padding ahead changes nothing, and what is read is right, and is written and read back. -/
import Derived.Test.YtiklcnlehlpdaaaTlvSame
import Derived.Test.YtiklcnlehlpdaaaPTlvx11
set_option linter.unusedVariables false
set_option linter.unusedSimpArgs false
namespace Go.Proofs.Ytiklcnlehlpdaaa.Pure
open Go.RowKit Go.Proofs.Ytiklcnlehlpdaaa.PTlv Go.Proofs.YtiklcnlehlpdaaaW.PrintWords Go.Proofs.YtiklcnlehlpdaaaW.PrintLast Go.Proofs.Ytiklcnlehlpdaaa.Plain
theorem TlvAny : boarderlaw03_TlvAny.Pure := by
  intro l a hl _ hw ha
  have hb := bytes_of_wf hw
  have ha' := bytes_of_wf (l := [a]) (by intro x hx; simp at hx; subst hx; exact ha) a (by simp)
  refine Ev.rounds (g := fun n => boarderlaw03_TlvAny.f n l a) ?_
  unfold boarderlaw03_TlvAny.f
  by_cases h : (l.length : Int) > 5000
  · exact Ev.pos h knows_then
  refine Ev.neg h (Ev.bind (Ev.now _) (Ev.pos (by simp; omega) ?_))
  rw [List.nil_append]
  have et : Int.tmod a 20 = a % 20 := Int.tmod_eq_emod_of_nonneg ha'.1
  have ew : wrap64 (Int.tmod a 20) = a % 20 := by rw [et]; exact w64 (by omega) (by omega)
  refine Ev.bind (read_is l (by omega) hb) ?_
  simp only [ew]
  refine Ev.pos (by omega) (Ev.pos (by omega) ?_)
  have hp := readA_pads (a % 20).toNat l []
  refine Ev.bind (Ev.now _) (Ev.pos (by simp; omega) ?_)
  have hbp : Bytes (List.replicate (a % 20).toNat 0 ++ l) := by
    refine Bytes.append (fun x hx => ?_) hb
    have := List.eq_of_mem_replicate hx
    omega
  refine Ev.bind (Ev.eq (read_is _ (by simp; omega) hbp) hp) ?_
  have hlen := readA_len l hb
  refine Ev.pos rfl (Ev.bind (same_is _ hlen) ?_)
  refine Ev.step (fun k => by rw [boarderlaw03_TlvAny.j0]) (Ev.neg (by decide) ?_)
  rcases readA_right l hb with ⟨h0, hr, hab⟩ | ⟨h0, hn⟩
  · have hf := writeL_fit hr
    have hrw : readA (writeL (readA l []).1) [] = ((readA l []).1, 0) := by
      have := read_write hr []
      rw [List.append_nil] at this
      exact this
    refine Ev.pos h0 (Ev.bind (Ev.eq (write_is _ hr.fit.1) (if_pos hr)) ?_)
    refine Ev.bind (Ev.eq (read_is (writeL (readA l []).1) (by omega) (writeL_bytes hr hab)) hrw) ?_
    refine Ev.bind (tright_is _ hr.fit.1) (Ev.pos (decide_eq_true hr) (Ev.bind (rright_is _ (by have := hr.1; omega)) (Ev.pos (decide_eq_true hr) (Ev.pos rfl (Ev.pos rfl ?_)))))
    exact Ev.bind (same_is _ hlen) (Ev.pos rfl knows_then)
  · refine Ev.neg h0 ?_
    rw [hn]
    exact Ev.pos rfl knows_then
end Go.Proofs.Ytiklcnlehlpdaaa.Pure
