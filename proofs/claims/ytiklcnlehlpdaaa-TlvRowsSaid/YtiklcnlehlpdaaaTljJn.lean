/- Options: what tlv.Join comes to. -/
import Derived.Test.YtiklcnlehlpdaaaTljSame
import Derived.Test.YtiklcnlehlpdaaaPTljx5
set_option linter.unusedVariables false
set_option linter.unusedSimpArgs false
namespace Go.Proofs.Ytiklcnlehlpdaaa.Plain
open Go.RowKit Go.Proofs.YtiklcnlehlpdaaaW.PrintWords Go.Proofs.YtiklcnlehlpdaaaW.PrintLast Go.Proofs.YtiklcnlehlpdaaaW.PrintMore Go.Proofs.Ytiklcnlehlpdaaa.PTlj
/-- Few options, no one long. -/
def Small (n : Nat) (l : List S70) : Prop := l.length ≤ n ∧ ∀ x ∈ l, x.f1.length ≤ 600 * n + 600
theorem Small.fit {n : Nat} {l : List S70} (h : Small n l) (hn : n ≤ 1000) : Fit l := ⟨by have := h.1; omega, fun x hx => by have := h.2 x hx; omega⟩
theorem Small.join {n : Nat} {l : List S70} (h : Small n l) (c : Int) {d : List Int} (hd : d.length ≤ 600) : Small (n + 1) (joinL c d l) := by
  refine ⟨by have := (joinL_length c d l).2; have := h.1; omega, fun x hx => ?_⟩
  rcases joinL_mem c d l x hx with hx | ⟨_, hx | ⟨y, hy, hx⟩⟩
  · have := h.2 x hx; omega
  · rw [hx]; omega
  · have := h.2 y hy
    rw [hx]; simp; omega
theorem Small.joins : ∀ (l : List S70) {n : Nat} {out : List S70}, Small n out → (∀ x ∈ l, x.f1.length ≤ 600) → Small (n + l.length) (joins out l)
  | [], n, out, h, _ => h
  | x :: r, n, out, h, hl => by
    have := Small.joins r (h.join x.f0 (hl x (by simp))) (fun y hy => hl y (by simp [hy]))
    rw [joins_cons]
    have e : n + (x :: r).length = n + 1 + r.length := by simp; omega
    rw [e]; exact this
theorem Small.nil : Small 0 [] := ⟨by decide, fun x hx => by cases hx⟩
/-- What joining comes to. -/
def jn (l m : List S70) : List S70 × Int := if Right3 l ∧ Right3 m then (if Right3 (joins l m) then (joins l m, 0) else ([], 3)) else ([], 1)
theorem jl1_loop (R : List S70 × Int) (y : List (List S70)) (q n : Int) (l : List S70) (hl : ∀ x ∈ l, x.f1.length ≤ 600) (hln : l.length ≤ 100) : ∀ (r : List S70) (i p : Nat) (out : List S70), l.drop i = r → Small p out → p + r.length ≤ 200 →
    Ev (fun k => tlv_Join.l0 k (joins out r) y q (wrap64 (n + 1))) R → Ev (fun k => tlv_Join.l1 k out y q n l (l.length : Int) i) R := by
  intro r
  induction r with
  | nil =>
    intro i p out h hs hp e
    have := drop_none h
    refine Ev.step (fun k => by rw [tlv_Join.l1]) ?_
    exact Ev.neg (by omega) e
  | cons x r ih =>
    intro i p out h hs hp e
    have hlen := drop_len h
    have hr := rd70_at h
    have hx := hl x (mem_at h)
    simp only [List.length_cons] at hp
    have ei := wi i l.length (by omega) (by omega)
    refine Ev.step (fun k => by rw [tlv_Join.l1]) (Ev.pos (by omega) (Ev.pos (by omega) (Ev.pos (by omega) ?_)))
    simp only [hr, ei]
    refine Ev.bind (join_is out (hs.fit (by omega)) x.f0 x.f1 (by omega)) ?_
    exact ih (i + 1) (p + 1) _ (drop_next h) (hs.join x.f0 hx) (by omega) e
theorem jn_is (l m : List S70) (hl : l.length ≤ 100000) (hm : m.length ≤ 100000) : Ev (fun k => tlv_Join.f k l m) (jn l m) := by
  unfold tlv_Join.f jn
  refine Ev.bind (tright_is l hl) ?_
  have bad : Ev (fun k => tlv_Join.j0 k l m true) ([], 1) := by
    refine Ev.step (fun k => by rw [tlv_Join.j0]) ?_
    exact Ev.pos rfl (Ev.now _)
  by_cases h1 : Right3 l
  · rw [decide_eq_true h1]
    refine Ev.pos rfl (Ev.bind (tright_is m hm) ?_)
    by_cases h2 : Right3 m
    · rw [if_pos ⟨h1, h2⟩, decide_eq_true h2]
      refine Ev.step (fun k => by rw [tlv_Join.j0]) (Ev.neg (by decide) (Ev.bind (Ev.now _) ?_))
      have hl6 : ∀ x ∈ l, x.f1.length ≤ 600 := fun x hx => (h1.2 x hx).1.2.2
      have hm6 : ∀ x ∈ m, x.f1.length ≤ 600 := fun x hx => (h2.2 x hx).1.2.2
      have hl60 := h1.1
      have hm60 := h2.1
      have s1 := Small.joins l Small.nil hl6
      rw [joins_self h1.once, Nat.zero_add] at s1
      have s2 := Small.joins m s1 hm6
      refine Ev.step (fun k => by rw [tlv_Join.l0]) (Ev.pos (by simp) (Ev.pos (by decide) (Ev.pos (by simp) ?_)))
      refine jl1_loop _ _ _ _ l hl6 (by omega) l 0 0 [] rfl Small.nil (by omega) ?_
      rw [joins_self h1.once, show wrap64 ((0 : Int) + 1) = 1 from w64 (by omega) (by omega)]
      refine Ev.step (fun k => by rw [tlv_Join.l0]) (Ev.pos (by simp) (Ev.pos (by decide) (Ev.pos (by simp) ?_)))
      refine jl1_loop _ _ _ _ m hm6 (by omega) m 0 l.length l rfl s1 (by omega) ?_
      rw [show wrap64 ((1 : Int) + 1) = 2 from w64 (by omega) (by omega)]
      refine Ev.step (fun k => by rw [tlv_Join.l0]) (Ev.neg (by simp) (Ev.bind (tright_is _ (s2.fit (by omega)).1) ?_))
      by_cases h3 : Right3 (joins l m)
      · rw [if_pos h3]
        exact Ev.pos (decide_eq_true h3) (Ev.now _)
      · rw [if_neg h3]
        exact Ev.neg (by simp [h3]) (Ev.now _)
    · rw [if_neg (fun h => h2 h.2), decide_eq_false h2]
      exact bad
  · rw [if_neg (fun h => h1 h.1), decide_eq_false h1]
    exact Ev.neg (by decide) bad
theorem jn_len (l m : List S70) : (jn l m).1.length ≤ 1000000 := by
  unfold jn
  split
  · split
    · rename_i h; have := h.1; show (joins l m).length ≤ _; omega
    · decide
  · decide
end Go.Proofs.Ytiklcnlehlpdaaa.Plain
