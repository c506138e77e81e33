/- What class.Of, class.About, class.Foreign come to. -/
import Derived.Test.YtiklcnlehlpdaaaOpsNum
import Derived.Test.YtiklcnlehlpdaaaPOpsx10
set_option linter.unusedVariables false
set_option linter.unusedSimpArgs false
namespace Go.Proofs.Ytiklcnlehlpdaaa.Plain
open Go.RowKit Go.Proofs.YtiklcnlehlpdaaaW.PrintWords Go.Proofs.YtiklcnlehlpdaaaW.PrintLast Go.Proofs.YtiklcnlehlpdaaaW.PrintMore Go.Proofs.Ytiklcnlehlpdaaa.POps
def ofB (s w : Bool) (ci : Int) : Int := if ci = 0 then (if w then (if s then 1 else 2) else 0) else (if w then 0 else if s then 0 else 3)
def ofL (ci : Int) (l : List S70) : Int := if kindL l = 3 then ofB (num 54 l).2 (num 50 l).2 ci else 0
def aboutL (ci : Int) (l : List S70) : Int := if ofL ci l = 1 ∨ ofL ci l = 2 then (num 50 l).1 else if ofL ci l = 3 then ci else 0
def foreignL (server : Int) (l : List S70) : Bool := (num 54 l).2 && ((num 54 l).1 != server)
theorem ofB_range (s w : Bool) (ci : Int) : ofB s w ci = 0 ∨ ofB s w ci = 1 ∨ ofB s w ci = 2 ∨ ofB s w ci = 3 := by
  unfold ofB
  cases s <;> cases w <;> by_cases h : ci = 0 <;> simp [h]
theorem ofL_range (ci : Int) (l : List S70) : ofL ci l = 0 ∨ ofL ci l = 1 ∨ ofL ci l = 2 ∨ ofL ci l = 3 := by
  unfold ofL
  by_cases h : kindL l = 3
  · rw [if_pos h]; exact ofB_range _ _ _
  · rw [if_neg h]; exact Or.inl rfl
section
variable (a0 a1 a2 a3 a4 a5 a6 a7 a8 a9 a10 : Int) (m : List Int) (l : List S70)
theorem of_j1 (x4 x6 x34 : Bool) : Ev (fun k => class_Of.j1 k x4 x6 x34 a0 a1 a2 a3 a4 a5 a6 a7 a8 a9 a10 m l) (if x34 then 2 else if x4 then 0 else if x6 then 0 else if a7 = 0 then 0 else 3) := by
  refine Ev.step (fun k => by rw [class_Of.j1]) (Ev.opt ?_)
  cases x34 <;> cases x4 <;> cases x6 <;> by_cases h : a7 = 0 <;> simp [h]
theorem of_j0 (x4 x6 x24 : Bool) : Ev (fun k => class_Of.j0 k x4 x6 x24 a0 a1 a2 a3 a4 a5 a6 a7 a8 a9 a10 m l) (if x24 then 1 else if !x4 && x6 && (a7 == 0) then 2 else if x4 then 0 else if x6 then 0 else if a7 = 0 then 0 else 3) := by
  refine Ev.step (fun k => by rw [class_Of.j0]) ?_
  cases x24 with
  | true => exact Ev.pos rfl (Ev.now _)
  | false =>
    refine Ev.neg (by decide) ?_
    cases x4 with
    | true => exact Ev.pos rfl (Ev.eq (of_j1 _ _ _ _ _ _ _ _ _ _ _ _ _ true x6 false) (by simp))
    | false =>
      refine Ev.neg (by decide) ?_
      cases x6 with
      | true => exact Ev.pos rfl (Ev.eq (of_j1 _ _ _ _ _ _ _ _ _ _ _ _ _ false true _) (by simp))
      | false => exact Ev.neg (by decide) (Ev.eq (of_j1 _ _ _ _ _ _ _ _ _ _ _ _ _ false false false) (by simp))
theorem of_is (hl : Fit l) (hb : AllBytes l) : Ev (fun k => class_Of.f k a0 a1 a2 a3 a4 a5 a6 a7 a8 a9 a10 m l) (ofL a7 l) := by
  unfold class_Of.f
  refine Ev.bind (number_is l hl hb 54) (Ev.bind (number_is l hl hb 50) (Ev.bind (kind_is l hl) ?_))
  unfold ofL
  by_cases hk : kindL l = 3
  · refine Ev.eq (Ev.pos hk ?_) (if_pos hk).symm
    generalize (num 54 l).2 = s
    generalize (num 50 l).2 = w
    cases s with
    | true =>
      refine Ev.pos rfl ?_
      cases w with
      | true => exact Ev.pos rfl (Ev.eq (of_j0 _ _ _ _ _ _ _ _ _ _ _ _ _ true true _) (by unfold ofB; by_cases h : a7 = 0 <;> simp [h]))
      | false => exact Ev.neg (by decide) (Ev.eq (of_j0 _ _ _ _ _ _ _ _ _ _ _ _ _ true false _) (by unfold ofB; by_cases h : a7 = 0 <;> simp [h]))
    | false => exact Ev.neg (by decide) (Ev.eq (of_j0 _ _ _ _ _ _ _ _ _ _ _ _ _ false w _) (by unfold ofB; cases w <;> by_cases h : a7 = 0 <;> simp [h]))
  · exact Ev.eq (Ev.neg hk (Ev.now _)) (if_neg hk).symm
theorem about_j0 (x6 : Int) (x7 : Bool) (hl : Fit l) (hb : AllBytes l) : Ev (fun k => class_About.j0 k x6 x7 a0 a1 a2 a3 a4 a5 a6 a7 a8 a9 a10 m l) (if x7 then (num 50 l).1 else if x6 = 3 then a7 else 0) := by
  refine Ev.step (fun k => by rw [class_About.j0]) ?_
  cases x7 with
  | true => exact Ev.pos rfl (Ev.bind (number_is l hl hb 50) (Ev.now _))
  | false => exact Ev.neg (by decide) (Ev.opt (by by_cases h : x6 = 3 <;> simp [h]))
theorem about_is (hl : Fit l) (hb : AllBytes l) : Ev (fun k => class_About.f k a0 a1 a2 a3 a4 a5 a6 a7 a8 a9 a10 m l) (aboutL a7 l) := by
  unfold class_About.f
  refine Ev.bind (of_is a0 a1 a2 a3 a4 a5 a6 a7 a8 a9 a10 m l hl hb) ?_
  unfold aboutL
  generalize ofL a7 l = t
  by_cases h : t = 1
  · exact Ev.pos h (Ev.eq (about_j0 _ _ _ _ _ _ _ _ _ _ _ _ _ _ _ hl hb) (by simp [h]))
  · exact Ev.neg h (Ev.eq (about_j0 _ _ _ _ _ _ _ _ _ _ _ _ _ _ _ hl hb) (by by_cases h2 : t = 2 <;> simp [h, h2]))
theorem foreign_is (hl : Fit l) (hb : AllBytes l) (server : Int) : Ev (fun k => class_Foreign.f k a0 a1 a2 a3 a4 a5 a6 a7 a8 a9 a10 m l server) (foreignL server l) := by
  unfold class_Foreign.f
  refine Ev.bind (number_is l hl hb 54) ?_
  unfold foreignL
  generalize num 54 l = n
  obtain ⟨v, b⟩ := n
  cases b with
  | true => exact Ev.pos rfl (Ev.const (by simp))
  | false => exact Ev.neg (by simp) (Ev.const (by simp))
/-! ### knows -/
def mX : List S70 := [⟨53, [3]⟩, ⟨54, [10, 0, 0, 1]⟩, ⟨50, [10, 0, 0, 7]⟩]
def nX : List S70 := [⟨53, [3]⟩]
theorem mX_fit : Fit mX ∧ AllBytes mX := by
  refine ⟨⟨by decide, ?_⟩, ?_⟩
  · intro x hx
    simp [mX] at hx
    rcases hx with rfl | rfl | rfl <;> decide
  · intro x hx
    simp [mX] at hx
    rcases hx with rfl | rfl | rfl <;> (intro y hy; simp at hy; omega)
theorem nX_fit : Fit nX ∧ AllBytes nX := by
  refine ⟨⟨by decide, ?_⟩, ?_⟩
  · intro x hx
    simp [nX] at hx
    rw [hx]; decide
  · intro x hx
    simp [nX] at hx
    rw [hx]; intro y hy; simp at hy; omega
theorem nil_fit : Fit ([] : List S70) ∧ AllBytes ([] : List S70) := ⟨⟨by decide, fun x hx => by cases hx⟩, fun x hx => by cases hx⟩
theorem knows16_is : Ev (fun k => boarderlaw16_knows.f k) true := by
  unfold boarderlaw16_knows.f
  refine Ev.bind (a := mX) (Ev.now _) (Ev.bind (a := nX) (Ev.now _) ?_)
  have e1 : ofL 0 mX = 1 := by decide +kernel
  have e2 : aboutL 0 mX = 167772167 := by decide +kernel
  have e3 : ofL 9 nX = 3 := by decide +kernel
  have e4 : aboutL 9 nX = 9 := by decide +kernel
  have e5 : foreignL 5 mX = true := by decide +kernel
  have e6 : foreignL 167772161 mX = false := by decide +kernel
  have e7 : ofL 0 [] = 0 := by decide +kernel
  refine Ev.bind (Ev.eq (of_is 0 0 0 0 0 0 0 0 0 0 0 [] mX mX_fit.1 mX_fit.2) e1) (Ev.pos rfl ?_)
  refine Ev.bind (Ev.eq (about_is 0 0 0 0 0 0 0 0 0 0 0 [] mX mX_fit.1 mX_fit.2) e2) (Ev.pos rfl ?_)
  refine Ev.bind (Ev.eq (of_is 0 0 0 0 0 0 0 9 0 0 0 [] nX nX_fit.1 nX_fit.2) e3) (Ev.pos rfl ?_)
  refine Ev.bind (Ev.eq (about_is 0 0 0 0 0 0 0 9 0 0 0 [] nX nX_fit.1 nX_fit.2) e4) (Ev.pos rfl ?_)
  refine Ev.bind (Ev.eq (foreign_is 0 0 0 0 0 0 0 0 0 0 0 [] mX mX_fit.1 mX_fit.2 5) e5) (Ev.pos rfl ?_)
  refine Ev.bind (Ev.eq (foreign_is 0 0 0 0 0 0 0 0 0 0 0 [] mX mX_fit.1 mX_fit.2 167772161) e6) (Ev.neg (by decide) ?_)
  exact Ev.bind (Ev.eq (of_is 0 0 0 0 0 0 0 0 0 0 0 [] [] nil_fit.1 nil_fit.2) e7) (Ev.now _)
theorem knows16_then : Ev (fun k => (boarderlaw16_knows.f k).bind fun t => some t) true := Ev.bind knows16_is (Ev.now _)
theorem great4_len (hl : l.length ≤ maxLen) : ∃ g, Ev (fun k => boarderlaw04_Great.f k a0 a1 a2 a3 a4 a5 a6 a7 a8 a9 a10 m l) g ∧ (g = false → Fit l ∧ l.length ≤ 100) := by
  unfold boarderlaw04_Great.f
  by_cases h : (m.length : Int) > 100
  · exact ⟨true, Ev.pos h (Ev.now _), fun h => by cases h⟩
  · obtain ⟨g, h1, h2⟩ := great_is l (by unfold maxLen at hl; omega)
    exact ⟨g, Ev.neg h (Ev.bind h1 (Ev.now _)), fun hg => ⟨Fit.of (h2 hg), (h2 hg).1⟩⟩
theorem great4_is (hl : l.length ≤ maxLen) : ∃ g, Ev (fun k => boarderlaw04_Great.f k a0 a1 a2 a3 a4 a5 a6 a7 a8 a9 a10 m l) g ∧ (g = false → Fit l) := by
  unfold boarderlaw04_Great.f
  by_cases h : (m.length : Int) > 100
  · exact ⟨true, Ev.pos h (Ev.now _), fun h => by cases h⟩
  · obtain ⟨g, h1, h2⟩ := great_is l (by unfold maxLen at hl; omega)
    exact ⟨g, Ev.neg h (Ev.bind h1 (Ev.now _)), fun hg => Fit.of (h2 hg)⟩
end
end Go.Proofs.Ytiklcnlehlpdaaa.Plain
