/- Options: what the reference's one and Write come to. -/
import Derived.Test.YtiklcnlehlpdaaaTlvProg
import Derived.Test.YtiklcnlehlpdaaaPTlvx6
set_option linter.unusedVariables false
set_option linter.unusedSimpArgs false
namespace Go.Proofs.Ytiklcnlehlpdaaa.Plain
open Go.RowKit Go.Proofs.YtiklcnlehlpdaaaW.PrintWords Go.Proofs.YtiklcnlehlpdaaaW.PrintLast Go.Proofs.YtiklcnlehlpdaaaW.PrintMore Go.Proofs.Ytiklcnlehlpdaaa.PTlv
theorem one_is (c : Int) : ∀ (n : Nat) (d : List Int), d.length ≤ 255 * (n + 1) → n ≤ 1000 → d.length ≤ 100000 → Ev (fun k => boarderref03_one.f k c d) (oneF n (c % 256) d) := by
  have short : ∀ (n : Nat) (d : List Int), d.length ≤ 255 → Ev (fun k => boarderref03_one.f k c d) (oneF n (c % 256) d) := by
    intro n d hd
    rw [oneF_short hd]
    refine Ev.step (fun k => by rw [boarderref03_one.f]) (Ev.neg (by omega) ?_)
    have e : ((d.length : Int)) % 256 = (d.length : Int) := by omega
    rw [e]
    refine Ev.bind (Ev.now _) (Ev.pos (by simp; omega) ?_)
    exact Ev.now _
  intro n
  induction n with
  | zero => intro d hd _ _; exact short 0 d (by omega)
  | succ n ih =>
    intro d hd hn hm
    by_cases hl : d.length ≤ 255
    · exact short (n + 1) d hl
    · have h1 := ih (d.drop 255) (by simp; omega) (by omega) (by simp; omega)
      have h2 := oneF_length n (c % 256) (d.drop 255)
      simp at h2
      rw [oneF, if_pos (by omega)]
      refine Ev.step (fun k => by rw [boarderref03_one.f]) (Ev.pos (by omega) ?_)
      refine Ev.bind (Ev.now _) (Ev.pos (by omega) (Ev.pos (by simp; omega) ?_))
      refine Ev.bind (Ev.now _) (Ev.bind h1 (Ev.pos (by simp; omega) ?_))
      exact Ev.const (by simp)
theorem rwrite_loop (l : List S70) (hl : Right3 l) : ∀ (r : List S70) (i : Nat) (acc : List Int), l.drop i = r → acc.length ≤ 608 * i → i ≤ l.length → Ev (fun k => boarderref03_Write.l0 k l acc i) (acc ++ flatL r ++ [255]) := by
  intro r
  have h60 := hl.1
  induction r with
  | nil =>
    intro i acc h ha hi
    have := drop_none h
    refine Ev.step (fun k => by rw [boarderref03_Write.l0]) (Ev.neg (by omega) (Ev.pos (by omega) ?_))
    exact Ev.const (by simp [flatL])
  | cons x r ih =>
    intro i acc h ha hi
    have hlen := drop_len h
    have hr := rd70_at h
    have hx := (hl.2 x (mem_at h)).1.2.2
    have ei := wi i l.length (by omega) (by omega)
    have h1 := oneF_length 3 (x.f0 % 256) x.f1
    refine Ev.step (fun k => by rw [boarderref03_Write.l0]) (Ev.pos (by omega) (Ev.pos (by omega) ?_))
    simp only [hr, ei]
    refine Ev.bind (one_is x.f0 3 x.f1 (by omega) (by decide) (by omega)) (Ev.pos (by omega) ?_)
    refine Ev.eq (ih (i + 1) (acc ++ oneF 3 (x.f0 % 256) x.f1) (drop_next h) (by simp; omega) (by omega)) ?_
    simp [flatL]
theorem rwrite_is (l : List S70) (hl : Right3 l) : Ev (fun k => boarderref03_Write.f k l) (writeL l) := by
  unfold boarderref03_Write.f
  exact Ev.eq (rwrite_loop l hl l 0 [] rfl (by simp) (by omega)) (by simp [writeL])
end Go.Proofs.Ytiklcnlehlpdaaa.Plain
