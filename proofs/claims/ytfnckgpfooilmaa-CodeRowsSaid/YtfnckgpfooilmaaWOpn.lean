/- An argument that can be read as data, as the printed texts' words tell it: whole numbers, bools, strings, slices and structs, to any depth. -/
import Derived.Test.YtfnckgpfooilmaaWWords
import Derived.Deep.Slices
import Derived.ChangeArms
import Derived.DataReads
import Derived.WideShapes
set_option linter.unusedVariables false
set_option linter.unusedSimpArgs false
namespace Go.Proofs.YtfnckgpfooilmaaW.PrintWords
open Go.RowKit Go.ChangeShapes Go.WideShapes
/-- Whatever reads as a value of type t is told by d, and wf holds of it. -/
def Opens {α : Type} (P : Program) (t : TypeId) (d : Kd α) (wf : α → Prop) : Prop :=
  P.cellsOf t = d.sz ∧ ∀ {H : Type} (enc : TypeId × Value → H) (W : World) (fuel : Nat) (cs : List Value) (x : DataW H × List MemPlace), DataW.trod enc P W 0 (fun _ => true) true fuel t cs = some x → ∃ a, d.K W a cs ∧ wf a
theorem opens_int {P : Program} {t : TypeId} {k : IntKind} (hu : P.underlying t = some (.int k)) (hc : P.cellsOf t = 1) : Opens P t (Kd.int k) (fun x => (Lit.int k x).wf = true) := by
  refine ⟨hc, fun enc W fuel cs x h => ?_⟩
  obtain ⟨n, rfl, _, hw⟩ := DataW.trod_int hu h
  exact ⟨n, rfl, hw⟩
theorem opens_bool {P : Program} {t : TypeId} (hu : P.underlying t = some .bool) (hc : P.cellsOf t = 1) : Opens P t Kd.bool (fun _ => True) := by
  refine ⟨hc, fun enc W fuel cs x h => ?_⟩
  obtain ⟨n, rfl, _⟩ := DataW.trod_bool hu h
  exact ⟨n, rfl, trivial⟩
theorem opens_string {P : Program} {t : TypeId} (hu : P.underlying t = some .string) (hc : P.cellsOf t = 1) : Opens P t Kd.string (fun s => s.size ≤ maxLen) := by
  refine ⟨hc, fun enc W fuel cs x h => ?_⟩
  obtain ⟨n, rfl, _, hw⟩ := DataW.trod_string hu h
  exact ⟨n, rfl, hw⟩
theorem opens_slice {α : Type} {P : Program} {t e : TypeId} {d : Kd α} {wf : α → Prop} (hu : P.underlying t = some (.slice e)) (hc : P.cellsOf t = 1) (ho : Opens P e d wf) :
    Opens P t (Kd.slice e d) (fun xs => xs.length ≤ maxLen ∧ ∀ x ∈ xs, wf x) := by
  refine ⟨hc, fun enc W fuel cs x h => ?_⟩
  rcases Go.Deep.open_slice hu h with ⟨rfl, _⟩ | ⟨a, len, cap, m, n, D, Pl, rfl, _, hl, hm, hmm, _, hel⟩
  · exact ⟨[], ⟨none, 0, rfl, Nat.le_refl _, Kd.C_nil _ _⟩, by simp, fun x hx => by cases hx⟩
  · have hmc : m = cap := by simpa using hmm
    have hx : ∀ i, i < len → ∃ x : α, ∃ c, W.cells? 0 (a.add (i * P.cellsOf e)) (P.cellsOf e) = some c ∧ d.K W x c ∧ wf x := by
      intro i hi
      obtain ⟨c, h1, h2⟩ := hel i (by omega)
      obtain ⟨x, h3, h4⟩ := ho.2 enc W n c _ h2
      exact ⟨x, c, h1, h3, h4⟩
    have aux : ∀ l, (∀ i, i < l → ∃ x : α, ∃ c, W.cells? 0 (a.add (i * P.cellsOf e)) (P.cellsOf e) = some c ∧ d.K W x c ∧ wf x) →
        ∃ xs : List α, xs.length = l ∧ ∀ i x, xs[i]? = some x → ∃ c, W.cells? 0 (a.add (i * P.cellsOf e)) (P.cellsOf e) = some c ∧ d.K W x c ∧ wf x := by
      intro l
      induction l with
      | zero => exact fun _ => ⟨[], rfl, fun i x hi => by simp at hi⟩
      | succ l ih =>
        intro hx
        obtain ⟨xs, h1, h2⟩ := ih (fun i hi => hx i (by omega))
        obtain ⟨x, c, h3, h4, h5⟩ := hx l (by omega)
        refine ⟨xs ++ [x], by simp [h1], fun i y hy => ?_⟩
        rcases Nat.lt_or_ge i xs.length with hi | hi
        · rw [List.getElem?_append_left hi] at hy
          exact h2 i y hy
        · have hil : i = l := by
            have := (List.getElem?_eq_some_iff.1 hy).1
            simp at this
            omega
          subst hil
          rw [List.getElem?_append_right hi] at hy
          have : x = y := by simpa [h1] using hy
          subst this
          exact ⟨c, h3, h4, h5⟩
    obtain ⟨xs, h1, h2⟩ := aux len hx
    have hle : len ≤ 9223372036854775807 := by unfold maxLen at hm; omega
    refine ⟨xs, ⟨some a, cap, by rw [h1], by omega, h1.symm ▸ ⟨h1, hle, fun _ => ⟨a, rfl, fun j p hj => ?_⟩⟩⟩, by omega, fun x hx => ?_⟩
    · obtain ⟨c, hcell, hK, _⟩ := h2 j p hj
      refine ⟨c, d.K_len hK, hK, fun i u hu => ?_⟩
      obtain ⟨_, hlen, hget⟩ := World.cells?_some hcell
      have hil : i < P.cellsOf e := by
        have := (List.getElem?_eq_some_iff.1 hu).1
        omega
      have := hget i hil
      rw [hu, ho.1] at this
      rw [Go.Deep.add_add] at this
      exact this
    · obtain ⟨i, hi⟩ := List.mem_iff_getElem?.1 hx
      obtain ⟨_, _, _, hw⟩ := h2 i x hi
      exact hw
/-- What is told of the cells from o on, where the fields read as data. -/
def Tail {α : Type} (P : Program) (fs : List Field) (o : Nat) (d : Kd α) (wf : α → Prop) : Prop :=
  ∀ {H : Type} (enc : TypeId × Value → H) (W : World) (cs : List Value), (∀ f ∈ fs, ∃ (fuel : Nat) (x : DataW H × List MemPlace), DataW.trod enc P W 0 (fun _ => true) true fuel f.type ((cs.drop f.offset).take (P.cellsOf f.type)) = some x) →
    cs.length = o + d.sz → ∃ a, d.K W a (cs.drop o) ∧ wf a
theorem tail_one {α : Type} {P : Program} {f : Field} {o : Nat} {d : Kd α} {wf : α → Prop} (hf : f.offset = o) (ho : Opens P f.type d wf) : Tail P [f] o d wf := by
  intro H enc W cs h hl
  obtain ⟨fuel, x, hx⟩ := h f (by simp)
  obtain ⟨a, ha, hw⟩ := ho.2 enc W fuel _ x hx
  refine ⟨a, ?_, hw⟩
  rw [hf, ho.1, List.take_of_length_le (by rw [List.length_drop]; omega)] at ha
  exact ha
theorem tail_cons {α β : Type} {P : Program} {f : Field} {fs : List Field} {o : Nat} {d : Kd α} {d2 : Kd β} {wf : α → Prop} {wf2 : β → Prop} (hf : f.offset = o) (ho : Opens P f.type d wf) (ht : Tail P fs (o + d.sz) d2 wf2) :
    Tail P (f :: fs) o (Kd.pair d d2) (fun p => wf p.1 ∧ wf2 p.2) := by
  intro H enc W cs h hl
  have hsz : (Kd.pair d d2).sz = d.sz + d2.sz := rfl
  obtain ⟨fuel, x, hx⟩ := h f (by simp)
  obtain ⟨a, ha, hw⟩ := ho.2 enc W fuel _ x hx
  rw [hf, ho.1] at ha
  obtain ⟨b, hb, hw2⟩ := ht enc W cs (fun g hg => h g (by simp [hg])) (by omega)
  refine ⟨(a, b), ⟨(cs.drop o).take d.sz, cs.drop (o + d.sz), ?_, ha, hb⟩, hw, hw2⟩
  rw [← List.drop_drop, List.take_append_drop]
theorem opens_struct {α β : Type} {P : Program} {t : TypeId} {fs : Array Field} {d : Kd α} {wf : α → Prop} {f : β → α} {g : α → β} (hu : P.underlying t = some (.struct fs)) (hc : P.cellsOf t = d.sz) (ht : Tail P fs.toList 0 d wf) (hg : ∀ a, f (g a) = a) :
    Opens P t (Kd.iso d f) (fun x => wf (f x)) := by
  refine ⟨hc, fun enc W fuel cs x h => ?_⟩
  obtain ⟨xs, n, _, _, hl, hxl, hall⟩ := DataW.trod_struct hu h
  have hfs : ∀ fl ∈ fs.toList, ∃ (fuel : Nat) (y : DataW _ × List MemPlace), DataW.trod enc P W 0 (fun _ => true) true fuel fl.type ((cs.drop fl.offset).take (P.cellsOf fl.type)) = some y := by
    intro fl hfl
    obtain ⟨i, hi⟩ := List.mem_iff_getElem?.1 hfl
    have hi' : fs[i]? = some fl := by simpa using hi
    have hlt : i < xs.length := by
      have := (List.getElem?_eq_some_iff.1 hi).1
      simp at this
      omega
    exact ⟨n, xs[i], by rw [hall i fl hi', List.getElem?_eq_getElem hlt]⟩
  obtain ⟨a, ha, hw⟩ := ht enc W cs hfs (by omega)
  refine ⟨g a, ?_, ?_⟩
  · show d.K W (f (g a)) cs
    rw [hg]
    exact ha
  · show wf (f (g a))
    rw [hg]
    exact hw
end Go.Proofs.YtfnckgpfooilmaaW.PrintWords
