/- Options: what tlv.Find, the reference's Find and Great come to. -/
import Derived.Test.YtiklcnlehlpdaaaTljNums
set_option linter.unusedVariables false
set_option linter.unusedSimpArgs false
namespace Go.Proofs.Ytiklcnlehlpdaaa.Plain
open Go.RowKit Go.Proofs.YtiklcnlehlpdaaaW.PrintWords Go.Proofs.YtiklcnlehlpdaaaW.PrintLast Go.Proofs.YtiklcnlehlpdaaaW.PrintMore Go.Proofs.Ytiklcnlehlpdaaa.PTlj

theorem Ev.opt {α : Type} {o : Option α} {r : α} (h : o = some r) : Ev (fun _ => o) r := h ▸ Ev.now r
theorem rd70_at {l : List S70} {i : Nat} {x : S70} {r : List S70} (h : l.drop i = x :: r) : rd_T70 l (i : Int) = x := by
  unfold rd_T70
  have e : l[i]? = (l.drop i)[0]? := by rw [List.getElem?_drop]; simp
  rw [Int.toNat_natCast, List.getD_eq_getElem?_getD, e, h]
  rfl
theorem rd70_get {l : List S70} {i : Nat} {x : S70} (h : l[i]? = some x) : rd_T70 l (i : Int) = x := by
  unfold rd_T70
  rw [Int.toNat_natCast, List.getD_eq_getElem?_getD, h]
  rfl
theorem rd_at {l : List Int} {i : Nat} {x : Int} {r : List Int} (h : l.drop i = x :: r) : rd l (i : Int) = x := by
  unfold rd
  have e : l[i]? = (l.drop i)[0]? := by rw [List.getElem?_drop]; simp
  rw [Int.toNat_natCast, List.getD_eq_getElem?_getD, e, h]
  rfl
theorem drop_more {α : Type} (l : List α) (i j : Nat) : l.drop (i + j) = (l.drop i).drop j := by
  rw [List.drop_drop]
theorem drop_next {α : Type} {l : List α} {i : Nat} {x : α} {r : List α} (h : l.drop i = x :: r) : l.drop (i + 1) = r := by
  rw [drop_more, h]; rfl
theorem drop_len {α : Type} {l : List α} {i : Nat} {x : α} {r : List α} (h : l.drop i = x :: r) : l.length = i + 1 + r.length := by
  have := congrArg List.length h
  simp at this
  omega
theorem drop_none {α : Type} {l : List α} {i : Nat} (h : l.drop i = []) : l.length ≤ i := by
  have := congrArg List.length h
  simp at this
  omega
theorem mem_at {α : Type} {l : List α} {i : Nat} {x : α} {r : List α} (h : l.drop i = x :: r) : x ∈ l := List.mem_of_mem_drop (h ▸ List.mem_cons_self : x ∈ l.drop i)
theorem wi (i n : Nat) (h : i < n) (hn : n ≤ 9223372036854775807) : wrap64 ((i : Int) + 1) = ((i + 1 : Nat) : Int) := by rw [w64 (by omega) (by omega)]; rfl

/-- Options of a size that is looked at, of bytes. -/
def Fit (l : List S70) : Prop := l.length ≤ 100000 ∧ ∀ x ∈ l, x.f1.length ≤ 1000000
def AllBytes (l : List S70) : Prop := ∀ x ∈ l, Bytes x.f1
theorem bytes_of_wf70 {l : List S70} (h : ∀ y ∈ l, wf70 y) : AllBytes l := fun x hx => bytes_of_wf (h x hx).2.2

/-! ### the bytes of a code -/
def find (c : Int) : List S70 → List Int × Bool
  | [] => ([], false)
  | x :: r => if x.f0 = c then (x.f1, true) else find c r
def atR (c : Int) : List S70 → Nat → Int
  | [], _ => -1
  | x :: r, i => if x.f0 = c then (i : Int) else atR c r (i + 1)
theorem atR_spec (c : Int) : ∀ (r : List S70) (i : Nat), (atR c r i = -1 ∧ find c r = ([], false)) ∨ ∃ j x, r[j]? = some x ∧ atR c r i = ((i + j : Nat) : Int) ∧ find c r = (x.f1, true) ∧ x.f0 = c
  | [], i => Or.inl ⟨rfl, rfl⟩
  | x :: r, i => by
    unfold atR find
    by_cases h : x.f0 = c
    · rw [if_pos h, if_pos h]; exact Or.inr ⟨0, x, rfl, rfl, rfl, h⟩
    · rw [if_neg h, if_neg h]
      rcases atR_spec c r (i + 1) with ⟨h1, h2⟩ | ⟨j, y, h1, h2, h3⟩
      · exact Or.inl ⟨h1, h2⟩
      · exact Or.inr ⟨j + 1, y, by simpa using h1, by rw [h2]; congr 1; omega, h3⟩
theorem find_cases (c : Int) (l : List S70) : find c l = ([], false) ∨ ∃ x ∈ l, find c l = (x.f1, true) ∧ x.f0 = c := by
  rcases atR_spec c l 0 with ⟨_, h⟩ | ⟨j, x, h1, _, h3, h4⟩
  · exact Or.inl h
  · exact Or.inr ⟨x, List.mem_of_getElem? h1, h3, h4⟩
theorem find_bytes {l : List S70} (h : AllBytes l) (c : Int) : Bytes (find c l).1 := by
  rcases find_cases c l with e | ⟨x, hx, e, _⟩
  · rw [e]; exact Bytes.nil
  · rw [e]; exact h x hx
theorem find_len {l : List S70} (h : Fit l) (c : Int) : (find c l).1.length ≤ 1000000 := by
  rcases find_cases c l with e | ⟨x, hx, e, _⟩
  · rw [e]; decide
  · rw [e]; exact h.2 x hx
theorem at_loop (l : List S70) (hl : l.length ≤ 100000) (c : Int) : ∀ (r : List S70) (i : Nat), l.drop i = r → Ev (fun k => tlv_at.l0 k l (l.length : Int) i c) (atR c r i) := by
  intro r
  induction r with
  | nil =>
    intro i h
    have := drop_none h
    unfold atR
    exact Ev.step (fun k => by rw [tlv_at.l0]) (Ev.neg (by omega) (Ev.now _))
  | cons x r ih =>
    intro i h
    have hlen := drop_len h
    have hr := rd70_at h
    have ei := wi i l.length (by omega) (by omega)
    refine Ev.step (fun k => by rw [tlv_at.l0]) (Ev.pos (by omega) (Ev.pos (by omega) (Ev.pos (by omega) ?_)))
    simp only [hr, ei]
    unfold atR
    by_cases hx : x.f0 = c
    · rw [if_pos hx]; exact Ev.pos hx (Ev.now _)
    · rw [if_neg hx]; exact Ev.neg hx (ih (i + 1) (drop_next h))
theorem at_is (l : List S70) (hl : l.length ≤ 100000) (c : Int) : Ev (fun k => tlv_at.f k l c) (atR c l 0) := by
  unfold tlv_at.f
  exact at_loop l hl c l 0 rfl
theorem find_is (l : List S70) (hl : Fit l) (c : Int) : Ev (fun k => tlv_Find.f k l c) (find c l) := by
  unfold tlv_Find.f
  refine Ev.bind (at_is l hl.1 c) ?_
  rcases atR_spec c l 0 with ⟨h1, h2⟩ | ⟨j, x, h1, h2, h3, _⟩
  · rw [h1, h2]; exact Ev.pos (by decide) (Ev.now _)
  · have hj : j < l.length := (List.getElem?_eq_some_iff.1 h1).1
    have hx : x ∈ l := List.mem_of_getElem? h1
    have hd := hl.2 x hx
    rw [h2, h3, Nat.zero_add]
    simp only [rd70_get h1]
    exact Ev.neg (by omega) (Ev.bind (Ev.now _) (Ev.pos (by omega) (Ev.pos (by omega) (Ev.pos (by simp; omega) (Ev.const (by rw [List.nil_append]))))))
/-! ### what is too much to be looked at -/
theorem great_loop (l : List S70) (hl : l.length ≤ 9223372036854775807) : ∀ (r : List S70) (i : Nat), l.drop i = r → (∀ x ∈ l.take i, x.f1.length ≤ 1000) →
    ∃ g, Ev (fun k => boarderlaw03_Great.l0 k l i) g ∧ (g = false → l.length ≤ 100 ∧ ∀ x ∈ l, x.f1.length ≤ 1000) := by
  intro r
  induction r with
  | nil =>
    intro i h ht
    have := drop_none h
    rw [List.take_of_length_le this] at ht
    exact ⟨_, Ev.step (fun k => by rw [boarderlaw03_Great.l0]) (Ev.neg (by omega) (Ev.now _)), fun hg => ⟨by simp at hg; omega, ht⟩⟩
  | cons x r ih =>
    intro i h ht
    have hlen := drop_len h
    have hr := rd70_at h
    have ei := wi i l.length (by omega) (by omega)
    by_cases hx : (x.f1.length : Int) > 1000
    · refine ⟨true, Ev.step (fun k => by rw [boarderlaw03_Great.l0]) (Ev.pos (by omega) (Ev.pos (by omega) ?_)), fun hg => by cases hg⟩
      simp only [hr]
      exact Ev.pos hx (Ev.now _)
    · have hil : i < l.length := by omega
      have hxi : l[i] = x := by
        have e : l[i]? = (l.drop i)[0]? := by rw [List.getElem?_drop]; simp
        rw [h, List.getElem?_eq_getElem hil] at e
        simpa using e
      obtain ⟨g, hg, hg2⟩ := ih (i + 1) (drop_next h) (by
        intro y hy
        rw [List.take_succ_eq_append_getElem hil] at hy
        rcases List.mem_append.1 hy with hy | hy
        · exact ht y hy
        · rw [List.mem_singleton.1 hy, hxi]; omega)
      refine ⟨g, Ev.step (fun k => by rw [boarderlaw03_Great.l0]) (Ev.pos (by omega) (Ev.pos (by omega) ?_)), hg2⟩
      simp only [hr, ei]
      exact Ev.neg hx hg
theorem great_is (l : List S70) (hl : l.length ≤ 9223372036854775807) : ∃ g, Ev (fun k => boarderlaw03_Great.f k l) g ∧ (g = false → l.length ≤ 100 ∧ ∀ x ∈ l, x.f1.length ≤ 1000) := by
  obtain ⟨g, h1, h2⟩ := great_loop l hl l 0 rfl (by simp)
  exact ⟨g, h1, h2⟩
theorem Fit.of {l : List S70} (h : l.length ≤ 100 ∧ ∀ x ∈ l, x.f1.length ≤ 1000) : Fit l := ⟨by omega, fun x hx => by have := h.2 x hx; omega⟩
end Go.Proofs.Ytiklcnlehlpdaaa.Plain
