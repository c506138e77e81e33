/- Options: what the reference's Joined and Read come to. -/
import Derived.Test.YtiklcnlehlpdaaaTljProg
import Derived.Test.YtiklcnlehlpdaaaPTljx6
set_option linter.unusedVariables false
set_option linter.unusedSimpArgs false
namespace Go.Proofs.Ytiklcnlehlpdaaa.Plain
open Go.RowKit Go.Proofs.YtiklcnlehlpdaaaW.PrintWords Go.Proofs.YtiklcnlehlpdaaaW.PrintLast Go.Proofs.YtiklcnlehlpdaaaW.PrintMore Go.Proofs.Ytiklcnlehlpdaaa.PTlj
/-- Every option of the code is lengthened. -/
def longer (c : Int) (d : List Int) : List S70 → List S70
  | [] => []
  | x :: r => if x.f0 = c then ⟨x.f0, x.f1 ++ d⟩ :: longer c d r else x :: longer c d r
theorem longer_same {c : Int} {d : List Int} {x : S70} {r : List S70} (h : x.f0 = c) : longer c d (x :: r) = ⟨x.f0, x.f1 ++ d⟩ :: longer c d r := by simp [longer, h]
theorem longer_more {c : Int} {d : List Int} {x : S70} {r : List S70} (h : x.f0 ≠ c) : longer c d (x :: r) = x :: longer c d r := by simp [longer, h]
theorem longer_none {c : Int} {d : List Int} : ∀ {l : List S70}, has c l = 0 → longer c d l = l
  | [], _ => rfl
  | x :: r, h => by
    by_cases hx : x.f0 = c
    · rw [has_same hx] at h; omega
    · rw [has_more hx] at h
      rw [longer_more hx, longer_none h]
theorem longer_joinL {c : Int} {d : List Int} : ∀ {l : List S70}, has c l = 1 → longer c d l = joinL c d l
  | [], h => by simp [has] at h
  | x :: r, h => by
    by_cases hx : x.f0 = c
    · rw [has_same hx] at h
      rw [longer_same hx, joinL_same hx, longer_none (by omega)]
    · rw [has_more hx] at h
      rw [longer_more hx, joinL_more hx, longer_joinL h]
theorem joined_loop (l : List S70) (hl : Fit l) (c : Int) (d : List Int) (hd : d.length ≤ 1000000) : ∀ (r : List S70) (i : Nat) (acc : List S70), l.drop i = r → acc.length = i → i ≤ l.length →
    Ev (fun k => boarderref03_Joined.l0 k l c d acc i) (if has c l = 0 then acc ++ longer c d r ++ [⟨c, d⟩] else acc ++ longer c d r) := by
  intro r
  have hlm := hl.1
  induction r with
  | nil =>
    intro i acc h ha hi
    have := drop_none h
    refine Ev.step (fun k => by rw [boarderref03_Joined.l0]) (Ev.neg (by omega) (Ev.bind (has_is l (by omega) c) ?_))
    have e : acc ++ longer c d [] = acc := by simp [longer]
    rw [e]
    by_cases h0 : has c l = 0
    · refine Ev.eq ?_ (if_pos h0).symm
      exact Ev.pos (by omega) (Ev.pos (by omega) (Ev.now _))
    · refine Ev.eq ?_ (if_neg h0).symm
      exact Ev.neg (by omega) (Ev.now _)
  | cons x r ih =>
    intro i acc h ha hi
    have hlen := drop_len h
    have hr := rd70_at h
    have hx := hl.2 x (mem_at h)
    have ei := wi i l.length (by omega) (by omega)
    refine Ev.step (fun k => by rw [boarderref03_Joined.l0]) (Ev.pos (by omega) (Ev.pos (by omega) ?_))
    simp only [hr, ei]
    by_cases hc : x.f0 = c
    · rw [longer_same hc]
      refine Ev.pos hc (Ev.bind (Ev.now _) (Ev.pos (by simp; omega) ?_))
      rw [List.nil_append]
      refine Ev.bind (Ev.now _) (Ev.pos (by omega) (Ev.pos (by omega) ?_))
      refine Ev.eq (ih (i + 1) (acc ++ [⟨x.f0, x.f1 ++ d⟩]) (drop_next h) (by simp [ha]) (by omega)) ?_
      simp
    · rw [longer_more hc]
      refine Ev.neg hc (Ev.pos (by omega) ?_)
      refine Ev.eq (ih (i + 1) (acc ++ [x]) (drop_next h) (by simp [ha]) (by omega)) ?_
      simp
theorem joined_is (l : List S70) (hl : Fit l) (ho : Once l) (c : Int) (d : List Int) (hd : d.length ≤ 1000000) : Ev (fun k => boarderref03_Joined.f k l c d) (joinL c d l) := by
  unfold boarderref03_Joined.f
  refine Ev.eq (joined_loop l hl c d hd l 0 [] rfl rfl (by omega)) ?_
  rw [List.nil_append]
  by_cases h : has c l = 0
  · rw [if_pos h, longer_none h, join_new h]
  · have := ho c
    rw [if_neg h, longer_joinL (by omega)]
end Go.Proofs.Ytiklcnlehlpdaaa.Plain
