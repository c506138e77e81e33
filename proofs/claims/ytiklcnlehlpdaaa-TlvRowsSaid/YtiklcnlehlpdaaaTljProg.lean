/- Options: what tlv.Right, tlv.join, tlv.Read, tlv.Write and the reference's Has and Right come to. -/
import Derived.Test.YtiklcnlehlpdaaaTljBase
import Derived.Test.YtiklcnlehlpdaaaPTljx5
import Derived.Test.YtiklcnlehlpdaaaPTljx6
set_option linter.unusedVariables false
set_option linter.unusedSimpArgs false
namespace Go.Proofs.Ytiklcnlehlpdaaa.Plain
open Go.RowKit Go.Proofs.YtiklcnlehlpdaaaW.PrintWords Go.Proofs.YtiklcnlehlpdaaaW.PrintLast Go.Proofs.YtiklcnlehlpdaaaW.PrintMore Go.Proofs.Ytiklcnlehlpdaaa.PTlj
/-! ### which are right -/
theorem drop_get {l : List S70} {i : Nat} {x : S70} {r : List S70} (h : l.drop i = x :: r) : l[i]? = some x := by
  have e : l[i]? = (l.drop i)[0]? := by rw [List.getElem?_drop]; simp
  rw [e, h]; rfl
theorem atR_first {c : Int} : ∀ (r : List S70) (i j : Nat) (x : S70), r[j]? = some x → x.f0 = c → (∀ (k : Nat) (y : S70), k < j → r[k]? = some y → y.f0 ≠ c) → atR c r i = ((i + j : Nat) : Int)
  | [], i, j, x, h, _, _ => by simp at h
  | z :: r, i, 0, x, h, hx, _ => by
    have hz : z = x := by simpa using h
    subst hz
    simp [atR, hx]
  | z :: r, i, j + 1, x, h, hx, hn => by
    have hz : z.f0 ≠ c := hn 0 z (by omega) rfl
    rw [atR, if_neg hz, atR_first r (i + 1) j x (by simpa using h) hx (fun k y hk hy => hn (k + 1) y (by omega) (by simpa using hy))]
    congr 1; omega
theorem atR_get {c : Int} : ∀ (r : List S70) (i : Nat), (atR c r i = -1 ∧ has c r = 0) ∨ ∃ (j : Nat) (x : S70), r[j]? = some x ∧ x.f0 = c ∧ atR c r i = ((i + j : Nat) : Int) ∧ ∀ (k : Nat) (y : S70), k < j → r[k]? = some y → y.f0 ≠ c
  | [], i => Or.inl ⟨rfl, rfl⟩
  | z :: r, i => by
    by_cases hz : z.f0 = c
    · exact Or.inr ⟨0, z, rfl, hz, by simp [atR, hz], fun k y hk => by omega⟩
    · rw [atR, if_neg hz, has_more hz]
      rcases atR_get r (i + 1) with h | ⟨j, x, h1, h2, h3, h4⟩
      · exact Or.inl h
      · refine Or.inr ⟨j + 1, x, by simpa using h1, h2, by rw [h3]; congr 1; omega, fun k y hk hy => ?_⟩
        cases k with
        | zero =>
          have : z = y := by simpa using hy
          rw [← this]; exact hz
        | succ k => exact h4 k y (by omega) (by simpa using hy)
theorem has_two {c : Int} : ∀ (l : List S70) (i j : Nat) (x y : S70), i < j → l[i]? = some x → l[j]? = some y → x.f0 = c → y.f0 = c → 2 ≤ has c l
  | [], i, j, x, y, _, h, _, _, _ => by simp at h
  | z :: r, 0, 0, x, y, hij, _, _, _, _ => by omega
  | z :: r, 0, j + 1, x, y, _, h1, h2, hx, hy => by
    have hz : z = x := by simpa using h1
    subst hz
    have := has_mem (c := c) (List.mem_of_getElem? (by simpa using h2 : r[j]? = some y)) hy
    rw [has_same hx]; omega
  | z :: r, i + 1, 0, x, y, hij, _, _, _, _ => by omega
  | z :: r, i + 1, j + 1, x, y, hij, h1, h2, hx, hy => by
    have := has_two r i j x y (by omega) (by simpa using h1) (by simpa using h2) hx hy
    by_cases hz : z.f0 = c
    · rw [has_same hz]; omega
    · rw [has_more hz]; exact this
theorem two_has {c : Int} : ∀ (l : List S70), 2 ≤ has c l → ∃ (i j : Nat) (x y : S70), i < j ∧ l[i]? = some x ∧ l[j]? = some y ∧ x.f0 = c ∧ y.f0 = c
  | [], h => by simp [has] at h
  | z :: r, h => by
    by_cases hz : z.f0 = c
    · rw [has_same hz] at h
      have : ∃ (j : Nat) (y : S70), r[j]? = some y ∧ y.f0 = c := by
        rcases atR_get (c := c) r 0 with ⟨_, h0⟩ | ⟨j, y, h1, h2, _⟩
        · omega
        · exact ⟨j, y, h1, h2⟩
      obtain ⟨j, y, h1, h2⟩ := this
      exact ⟨0, j + 1, z, y, by omega, rfl, by simpa using h1, hz, h2⟩
    · rw [has_more hz] at h
      obtain ⟨i, j, x, y, h1, h2, h3, h4⟩ := two_has r h
      exact ⟨i + 1, j + 1, x, y, by omega, by simpa using h2, by simpa using h3, h4⟩
/-- The first of its code is the one, just if there is no other one. -/
theorem first_iff (l : List S70) : (∀ x ∈ l, has x.f0 l ≤ 1) ↔ (∀ (j : Nat) (x : S70), l[j]? = some x → atR x.f0 l 0 = (j : Int)) := by
  constructor
  · intro h j x hj
    rcases atR_get (c := x.f0) l 0 with ⟨_, h0⟩ | ⟨i, y, h1, h2, h3, h4⟩
    · have := has_mem (c := x.f0) (List.mem_of_getElem? hj) rfl
      omega
    · rw [h3, Nat.zero_add]
      rcases Nat.lt_trichotomy i j with hij | hij | hij
      · have := has_two l i j y x hij h1 hj h2 rfl
        have := h x (List.mem_of_getElem? hj)
        omega
      · rw [hij]
      · have := has_two l j i x y hij hj h1 rfl h2
        have := h x (List.mem_of_getElem? hj)
        omega
  · intro h x hx
    rcases Nat.lt_or_ge (has x.f0 l) 2 with h2 | h2
    · omega
    · obtain ⟨i, j, y, z, hij, hy, hz, hyc, hzc⟩ := two_has l h2
      have e1 := h i y hy
      have e2 := h j z hz
      rw [hyc] at e1
      rw [hzc] at e2
      omega
def GoodAt (l : List S70) (i : Nat) : Prop := ∀ (j : Nat) (x : S70), i ≤ j → l[j]? = some x → OkX x ∧ atR x.f0 l 0 = (j : Int)
theorem right_iff (l : List S70) : (GoodAt l 0 ∧ l.length ≤ 60) ↔ Right3 l := by
  constructor
  · rintro ⟨h, h2⟩
    have hf := (first_iff l).2 (fun j x hj => (h j x (by omega) hj).2)
    refine ⟨h2, fun x hx => ⟨?_, hf x hx⟩⟩
    obtain ⟨j, hj⟩ := List.mem_iff_getElem?.1 hx
    exact (h j x (by omega) hj).1
  · rintro ⟨h2, h⟩
    refine ⟨fun j x _ hj => ⟨(h x (List.mem_of_getElem? hj)).1, (first_iff l).1 (fun x hx => (h x hx).2) j x hj⟩, h2⟩
theorem tright_loop (l : List S70) (hl : l.length ≤ 100000) : ∀ (r : List S70) (i : Nat), l.drop i = r → ∃ b, Ev (fun k => tlv_Right.l0 k l l (l.length : Int) i) b ∧ (b = true ↔ GoodAt l i ∧ l.length ≤ 60) := by
  intro r
  induction r with
  | nil =>
    intro i h
    have hn := drop_none h
    refine ⟨_, Ev.step (fun k => by rw [tlv_Right.l0]) (Ev.neg (by omega) (Ev.now _)), ?_⟩
    rw [decide_eq_true_iff]
    constructor
    · intro h2
      exact ⟨fun j x hj hx => by have := (List.getElem?_eq_some_iff.1 hx).1; omega, by omega⟩
    · intro h2; have := h2.2; omega
  | cons x r ih =>
    intro i h
    have hlen := drop_len h
    have hr := rd70_at h
    have hg := drop_get h
    have ei := wi i l.length (by omega) (by omega)
    have no : ¬ (OkX x ∧ atR x.f0 l 0 = (i : Int)) → ∃ b, (Ev (fun k => some false) b) ∧ (b = true ↔ GoodAt l i ∧ l.length ≤ 60) := fun hn =>
      ⟨false, Ev.now _, ⟨fun hh => (by cases hh), fun hh => absurd (hh.1 i x (Nat.le_refl _) hg) hn⟩⟩
    by_cases h1 : x.f0 ≤ 0
    · obtain ⟨b, e, hb⟩ := no (fun hh => by have := hh.1.1; omega)
      refine ⟨b, Ev.step (fun k => by rw [tlv_Right.l0]) (Ev.pos (by omega) (Ev.pos (by omega) (Ev.pos (by omega) ?_))), hb⟩
      simp only [hr]
      exact Ev.pos h1 e
    by_cases h2 : x.f0 ≥ 255
    · obtain ⟨b, e, hb⟩ := no (fun hh => by have := hh.1.2.1; omega)
      refine ⟨b, Ev.step (fun k => by rw [tlv_Right.l0]) (Ev.pos (by omega) (Ev.pos (by omega) (Ev.pos (by omega) ?_))), hb⟩
      simp only [hr]
      exact Ev.neg h1 (Ev.pos h2 e)
    by_cases h3 : (x.f1.length : Int) > 600
    · obtain ⟨b, e, hb⟩ := no (fun hh => by have := hh.1.2.2; omega)
      refine ⟨b, Ev.step (fun k => by rw [tlv_Right.l0]) (Ev.pos (by omega) (Ev.pos (by omega) (Ev.pos (by omega) ?_))), hb⟩
      simp only [hr]
      exact Ev.neg h1 (Ev.neg h2 (Ev.pos h3 e))
    by_cases h4 : atR x.f0 l 0 = (i : Int)
    · obtain ⟨b, e, hb⟩ := ih (i + 1) (drop_next h)
      refine ⟨b, Ev.step (fun k => by rw [tlv_Right.l0]) (Ev.pos (by omega) (Ev.pos (by omega) (Ev.pos (by omega) ?_))), ?_⟩
      · simp only [hr, ei]
        exact Ev.neg h1 (Ev.neg h2 (Ev.neg h3 (Ev.bind (at_is l hl x.f0) (Ev.pos h4 e))))
      · rw [hb]
        constructor
        · rintro ⟨g, g2⟩
          refine ⟨fun j y hj hy => ?_, g2⟩
          rcases Nat.eq_or_lt_of_le hj with e | e
          · subst e
            have : x = y := by rw [hg] at hy; exact Option.some.inj hy
            rw [← this]
            exact ⟨⟨by omega, by omega, by omega⟩, h4⟩
          · exact g j y (by omega) hy
        · rintro ⟨g, g2⟩
          exact ⟨fun j y hj hy => g j y (by omega) hy, g2⟩
    · obtain ⟨b, e, hb⟩ := no (fun hh => h4 hh.2)
      refine ⟨b, Ev.step (fun k => by rw [tlv_Right.l0]) (Ev.pos (by omega) (Ev.pos (by omega) (Ev.pos (by omega) ?_))), hb⟩
      simp only [hr]
      exact Ev.neg h1 (Ev.neg h2 (Ev.neg h3 (Ev.bind (at_is l hl x.f0) (Ev.neg h4 e))))
theorem tright_is (l : List S70) (hl : l.length ≤ 100000) : Ev (fun k => tlv_Right.f k l) (decide (Right3 l)) := by
  unfold tlv_Right.f
  obtain ⟨b, e, hb⟩ := tright_loop l hl l 0 rfl
  refine Ev.eq e ?_
  rw [right_iff] at hb
  cases b with
  | true => rw [decide_eq_true (hb.1 rfl)]
  | false => rw [decide_eq_false (fun h => by have := hb.2 h; cases this)]
theorem has_loop (l : List S70) (hl : l.length ≤ 1000000) (c : Int) : ∀ (r : List S70) (i n : Nat), l.drop i = r → n ≤ i → Ev (fun k => boarderref03_Has.l0 k l c n i) ((n + has c r : Nat) : Int) := by
  intro r
  induction r with
  | nil =>
    intro i n h hn
    have := drop_none h
    exact Ev.step (fun k => by rw [boarderref03_Has.l0]) (Ev.neg (by omega) (Ev.const (by simp [has])))
  | cons x r ih =>
    intro i n h hn
    have hlen := drop_len h
    have hr := rd70_at h
    have ei := wi i l.length (by omega) (by omega)
    have en := wi n (l.length + 1) (by omega) (by omega)
    refine Ev.step (fun k => by rw [boarderref03_Has.l0]) (Ev.pos (by omega) (Ev.pos (by omega) ?_))
    simp only [hr, ei, en]
    by_cases hx : x.f0 = c
    · rw [has_same hx]
      exact Ev.pos hx (Ev.eq (ih (i + 1) (n + 1) (drop_next h) (by omega)) (by omega))
    · rw [has_more hx]
      exact Ev.neg hx (ih (i + 1) n (drop_next h) (by omega))
theorem has_is (l : List S70) (hl : l.length ≤ 1000000) (c : Int) : Ev (fun k => boarderref03_Has.f k l c) ((has c l : Nat) : Int) := by
  unfold boarderref03_Has.f
  have := has_loop l hl c l 0 0 rfl (Nat.le_refl _)
  rw [Nat.zero_add] at this
  exact this
theorem rright_loop (l : List S70) (hl : l.length ≤ 1000000) : ∀ (r : List S70) (i : Nat), l.drop i = r → Ev (fun k => boarderref03_Right.l0 k l i) (decide (∀ x ∈ r, OkX x ∧ has x.f0 l ≤ 1)) := by
  intro r
  induction r with
  | nil =>
    intro i h
    have := drop_none h
    exact Ev.step (fun k => by rw [boarderref03_Right.l0]) (Ev.neg (by omega) (Ev.const (by rw [decide_eq_true (fun x hx => by cases hx)])))
  | cons x r ih =>
    intro i h
    have hlen := drop_len h
    have hr := rd70_at h
    have ei := wi i l.length (by omega) (by omega)
    have no : ¬ (OkX x ∧ has x.f0 l ≤ 1) → false = decide (∀ y ∈ x :: r, OkX y ∧ has y.f0 l ≤ 1) := fun hn => by
      rw [decide_eq_false (fun hh => hn (hh x (by simp)))]
    refine Ev.step (fun k => by rw [boarderref03_Right.l0]) (Ev.pos (by omega) (Ev.pos (by omega) ?_))
    simp only [hr, ei]
    by_cases h1 : x.f0 < 1
    · exact Ev.pos h1 (Ev.const (no (fun hh => by have := hh.1.1; omega)))
    by_cases h2 : x.f0 > 254
    · exact Ev.neg h1 (Ev.pos h2 (Ev.const (no (fun hh => by have := hh.1.2.1; omega))))
    by_cases h3 : (x.f1.length : Int) > 600
    · exact Ev.neg h1 (Ev.neg h2 (Ev.pos h3 (Ev.const (no (fun hh => by have := hh.1.2.2; omega)))))
    refine Ev.neg h1 (Ev.neg h2 (Ev.neg h3 (Ev.bind (has_is l hl x.f0) ?_)))
    by_cases h4 : ((has x.f0 l : Nat) : Int) > 1
    · exact Ev.pos h4 (Ev.const (no (fun hh => by have := hh.2; omega)))
    · refine Ev.neg h4 (Ev.eq (ih (i + 1) (drop_next h)) ?_)
      rw [decide_eq_decide]
      constructor
      · intro hh y hy
        rcases List.mem_cons.1 hy with rfl | hy
        · exact ⟨⟨by omega, by omega, by omega⟩, by omega⟩
        · exact hh y hy
      · intro hh y hy; exact hh y (by simp [hy])
theorem rright_is (l : List S70) (hl : l.length ≤ 1000000) : Ev (fun k => boarderref03_Right.f k l) (decide (Right3 l)) := by
  unfold boarderref03_Right.f
  by_cases h : (l.length : Int) > 60
  · exact Ev.pos h (Ev.const (by rw [decide_eq_false (fun hh => by have := hh.1; omega)]))
  · refine Ev.neg h (Ev.eq (rright_loop l hl l 0 rfl) ?_)
    rw [decide_eq_decide]
    exact ⟨fun hh => ⟨by omega, hh⟩, fun hh => hh.2⟩

/-! ### joined -/
theorem join_is (l : List S70) (hl : Fit l) (c : Int) (d : List Int) (hd : d.length ≤ 1000000) : Ev (fun k => tlv_join.f k l c d) (joinL c d l) := by
  unfold tlv_join.f
  refine Ev.bind (at_is l hl.1 c) ?_
  have hlen := hl.1
  rcases atR_get (c := c) l 0 with ⟨h1, h2⟩ | ⟨j, x, h1, h2, h3, h4⟩
  · rw [h1, join_new h2]
    refine Ev.pos (by decide) ?_
    refine Ev.bind (Ev.now _) (Ev.pos (by simp; omega) (Ev.pos (by omega) (Ev.const (by rw [List.nil_append]))))
  · have hj : j < l.length := (List.getElem?_eq_some_iff.1 h1).1
    have hx := hl.2 x (List.mem_of_getElem? h1)
    rw [h3, Nat.zero_add, join_set j x h1 h2 h4]
    simp only [rd70_get h1]
    refine Ev.neg (by omega) ?_
    refine Ev.bind (Ev.now _) (Ev.pos (by omega) (Ev.pos (by omega) (Ev.pos (by simp; omega) ?_)))
    refine Ev.bind (Ev.now _) (Ev.pos (by simp; omega) (Ev.const ?_))
    rw [List.nil_append, Int.toNat_natCast]
theorem joinL_fit {l : List S70} (h : Right3 l) (c : Int) {d : List Int} (hd : d.length ≤ 100000) : Fit (joinL c d l) ∧ (joinL c d l).length ≤ 61 := by
  have hl := (joinL_length c d l).2
  have h60 := h.1
  refine ⟨⟨by omega, fun x hx => ?_⟩, by omega⟩
  rcases joinL_mem c d l x hx with hx | ⟨_, hx | ⟨y, hy, hx⟩⟩
  · have := (h.2 x hx).1.2.2; omega
  · rw [hx]; omega
  · have := (h.2 y hy).1.2.2
    rw [hx]; simp; omega

/-! ### read -/
theorem read_loop : ∀ (n : Nat) (l : List Int) (out : List S70), l.length ≤ n → l.length ≤ 100000 → Bytes l → Right3 out → Ev (fun k => tlv_Read.l0 k l out) (readA l out) := by
  intro n
  induction n with
  | zero =>
    intro l out hn hl hb ho
    rw [List.eq_nil_of_length_eq_zero (by omega : l.length = 0)]
    refine Ev.step (fun k => by rw [tlv_Read.l0]) (Ev.neg (by decide) ?_)
    refine Ev.step (fun k => by rw [tlv_Read.j1]) ?_
    exact Ev.neg (by decide) (Ev.now _)
  | succ n ih =>
    intro l out hn hl hb ho
    cases l with
    | nil =>
      refine Ev.step (fun k => by rw [tlv_Read.l0]) (Ev.neg (by decide) ?_)
      refine Ev.step (fun k => by rw [tlv_Read.j1]) ?_
      exact Ev.neg (by decide) (Ev.now _)
    | cons b r =>
      have hbr : Bytes r := fun x hx => hb x (by simp [hx])
      have hbb := hb b (by simp)
      have e0 : rd (b :: r) 0 = b := rfl
      have hlen : ((b :: r).length : Int) = r.length + 1 := by simp
      simp only [List.length_cons] at hn hl
      refine Ev.step (fun k => by rw [tlv_Read.l0]) (Ev.pos (by rw [hlen]; omega) (Ev.pos (by rw [hlen]; omega) ?_))
      rw [e0]
      by_cases h255 : b = 255
      · subst h255
        rw [readA_end]
        refine Ev.step (fun k => by rw [tlv_Read.j1]) ?_
        exact Ev.neg (by decide) (Ev.now _)
      rw [show (b != 255) = true from bne_iff_ne.mpr h255]
      refine Ev.step (fun k => by rw [tlv_Read.j1]) (Ev.pos rfl (Ev.pos (by rw [hlen]; omega) ?_))
      simp only [e0]
      by_cases h0 : b = 0
      · subst h0
        rw [readA_pad]
        refine Ev.pos (by trivial) ?_
        refine Ev.step (fun k => by rw [tlv_Read.j2]) ?_
        refine Ev.neg (by decide) (Ev.pos (by rw [hlen]; omega) ?_)
        simp only [e0]
        refine Ev.pos (by trivial) (Ev.pos (by decide) (Ev.pos (by rw [hlen]; omega) ?_))
        refine Ev.bind (tright_is out (by have := ho.1; omega)) (Ev.pos (decide_eq_true ho) ?_)
        exact ih r out (by omega) (by omega) hbr ho
      refine Ev.neg h0 ?_
      cases r with
      | nil =>
        rw [readA_one h0 h255]
        refine Ev.step (fun k => by rw [tlv_Read.j2]) ?_
        exact Ev.pos (by simp) (Ev.now _)
      | cons m r2 =>
        have hm := hbr m (by simp)
        have hbr2 : Bytes r2 := fun x hx => hbr x (by simp [hx])
        have hlen2 : ((b :: m :: r2).length : Int) = r2.length + 2 := by simp; omega
        have e1 : rd (b :: m :: r2) 1 = m := rfl
        have ew : wrap64 m = m := w64 (by omega) (by omega)
        have ew2 : wrap64 (2 + m) = 2 + m := w64 (by omega) (by omega)
        have eb : wrap64 b = b := w64 (by omega) (by omega)
        simp only [List.length_cons] at hn hl
        rw [readA_opt h0 h255, decide_eq_false (by rw [hlen2]; omega : ¬ ((b :: m :: r2).length : Int) < 2)]
        refine Ev.step (fun k => by rw [tlv_Read.j2]) (Ev.neg (by decide) (Ev.pos (by rw [hlen2]; omega) ?_))
        simp only [e0, e1, ew, ew2, eb]
        refine Ev.neg h0 (Ev.pos (by rw [hlen2]; omega) ?_)
        by_cases hs : r2.length < m.toNat
        · rw [if_pos hs]
          exact Ev.pos (by rw [hlen2]; omega) (Ev.now _)
        rw [if_neg hs]
        have et : ((b :: m :: r2).take (2 + m).toNat).drop 2 = r2.take m.toNat := by
          rw [show (2 + m).toNat = m.toNat + 1 + 1 by omega]; rfl
        have ed : (b :: m :: r2).drop (2 + m).toNat = r2.drop m.toNat := by
          rw [show (2 + m).toNat = m.toNat + 1 + 1 by omega]; rfl
        rw [et, ed]
        have hdl : (r2.take m.toNat).length ≤ 100000 := by simp; omega
        refine Ev.neg (by rw [hlen2]; omega) (Ev.pos (by omega) (Ev.pos (by rw [hlen2]; omega) ?_))
        refine Ev.bind (join_is out ho.fit b _ (by omega)) (Ev.pos (by omega) (Ev.bind (tright_is _ (by have := (joinL_fit ho b hdl).2; omega)) ?_))
        by_cases hr : Right3 (joinL b (r2.take m.toNat) out)
        · rw [if_pos hr]
          exact Ev.pos (decide_eq_true hr) (ih _ _ (by simp; omega) (by simp; omega) (hbr2.drop _) hr)
        · rw [if_neg hr]
          exact Ev.neg (by simp [hr]) (Ev.now _)
theorem read_is (l : List Int) (hl : l.length ≤ 100000) (hb : Bytes l) : Ev (fun k => tlv_Read.f k l) (readA l []) := by
  unfold tlv_Read.f
  exact read_loop l.length l [] (Nat.le_refl _) hl hb Right3.nil

/-! ### written -/
theorem mn_le {a : Nat} (h : a ≤ 255) : mn (a : Int) 255 = (a : Int) := by unfold mn; rw [if_neg (by omega)]
theorem mn_gt {a : Nat} (h : 255 < a) : mn (a : Int) 255 = 255 := by unfold mn; rw [if_pos (by omega)]
theorem write_one (l : List S70) (i c : Int) (d0 : List Int) (R : List Int × Int) : ∀ (n : Nat) (d acc : List Int) (f : Bool), d.length ≤ 255 * (n + 1) → (f = true ∨ 0 < d.length) → acc.length + d.length + 2 * (n + 1) ≤ 10000000 →
    Ev (fun k => tlv_Write.l0 k (acc ++ oneF n (c % 256) d) l (l.length : Int) (wrap64 (i + 1))) R → Ev (fun k => tlv_Write.l1 k acc d f l (l.length : Int) i c d0) R := by
  have short : ∀ (n : Nat) (d acc : List Int) (f : Bool), d.length ≤ 255 → (f = true ∨ 0 < d.length) → acc.length + d.length + 2 ≤ 10000000 →
      Ev (fun k => tlv_Write.l0 k (acc ++ oneF n (c % 256) d) l (l.length : Int) (wrap64 (i + 1))) R → Ev (fun k => tlv_Write.l1 k acc d f l (l.length : Int) i c d0) R := by
    intro n d acc f hd hf ha e
    have last : Ev (fun k => tlv_Write.l1 k (acc ++ [c % 256, (d.length : Int)] ++ d) [] false l (l.length : Int) i c d0) R := by
      refine Ev.step (fun k => by rw [tlv_Write.l1]) (Ev.neg (by decide) (Ev.neg (by decide) ?_))
      rw [oneF_short hd] at e
      rw [List.append_assoc]
      exact e
    have et : d.take (d.length : Int).toNat = d := by rw [Int.toNat_natCast, List.take_length]
    have ed : d.drop (d.length : Int).toNat = [] := by rw [Int.toNat_natCast, List.drop_length]
    have body : Ev (fun k => (some (([c % 256, mn (d.length : Int) 255] : List Int) : List Int)).bind fun y123 => (if acc.length + y123.length < 140737488355328 then ((some (acc ++ y123 : List Int)).bind fun y126 => (if 0 ≤ (mn (d.length : Int) 255) then (if (mn (d.length : Int) 255) ≤ (d.length : Int) then ((some (d.take ((mn (d.length : Int) 255) : Int).toNat : List Int)).bind fun y129 => (if y126.length + y129.length < 140737488355328 then (tlv_Write.l1 k (y126 ++ y129) (d.drop ((mn (d.length : Int) 255) : Int).toNat) false l (l.length : Int) i c d0) else (none))) else (none)) else (none))) else (none))) R := by
      rw [mn_le hd, et, ed]
      refine Ev.bind (Ev.now _) (Ev.pos (by simp; omega) ?_)
      refine Ev.bind (Ev.now _) (Ev.pos (by omega) (Ev.pos (Int.le_refl _) ?_))
      exact Ev.bind (Ev.now _) (Ev.pos (by simp; omega) last)
    cases f with
    | true => exact Ev.step (fun k => by rw [tlv_Write.l1]) (Ev.pos rfl body)
    | false =>
      rcases hf with hf | hf
      · cases hf
      · exact Ev.step (fun k => by rw [tlv_Write.l1]) (Ev.neg (by decide) (Ev.pos (by omega) body))
  intro n
  induction n with
  | zero => intro d acc f hd hf ha e; exact short 0 d acc f (by omega) hf (by omega) e
  | succ n ih =>
    intro d acc f hd hf ha e
    by_cases hl : d.length ≤ 255
    · exact short (n + 1) d acc f hl hf (by omega) e
    · have next : Ev (fun k => tlv_Write.l1 k (acc ++ [c % 256, 255] ++ d.take 255) (d.drop 255) false l (l.length : Int) i c d0) R := by
        refine ih (d.drop 255) _ false (by simp; omega) (Or.inr (by simp; omega)) (by simp; omega) ?_
        rw [oneF, if_pos (by omega)] at e
        rw [List.append_assoc, List.append_assoc]
        exact e
      have body : Ev (fun k => (some (([c % 256, mn (d.length : Int) 255] : List Int) : List Int)).bind fun y123 => (if acc.length + y123.length < 140737488355328 then ((some (acc ++ y123 : List Int)).bind fun y126 => (if 0 ≤ (mn (d.length : Int) 255) then (if (mn (d.length : Int) 255) ≤ (d.length : Int) then ((some (d.take ((mn (d.length : Int) 255) : Int).toNat : List Int)).bind fun y129 => (if y126.length + y129.length < 140737488355328 then (tlv_Write.l1 k (y126 ++ y129) (d.drop ((mn (d.length : Int) 255) : Int).toNat) false l (l.length : Int) i c d0) else (none))) else (none)) else (none))) else (none))) R := by
        rw [mn_gt (by omega)]
        refine Ev.bind (Ev.now _) (Ev.pos (by simp; omega) ?_)
        refine Ev.bind (Ev.now _) (Ev.pos (by omega) (Ev.pos (by omega) ?_))
        exact Ev.bind (Ev.now _) (Ev.pos (by simp; omega) next)
      cases f with
      | true => exact Ev.step (fun k => by rw [tlv_Write.l1]) (Ev.pos rfl body)
      | false => exact Ev.step (fun k => by rw [tlv_Write.l1]) (Ev.neg (by decide) (Ev.pos (by omega) body))
theorem write_loop (l : List S70) (hl : Right3 l) : ∀ (r : List S70) (i : Nat) (acc : List Int), l.drop i = r → acc.length ≤ 608 * i → i ≤ l.length → Ev (fun k => tlv_Write.l0 k acc l (l.length : Int) i) (acc ++ flatL r ++ [255], 0) := by
  intro r
  have h60 := hl.1
  induction r with
  | nil =>
    intro i acc h ha hi
    have := drop_none h
    exact Ev.step (fun k => by rw [tlv_Write.l0]) (Ev.neg (by omega) (Ev.pos (by omega) (Ev.const (by simp [flatL]))))
  | cons x r ih =>
    intro i acc h ha hi
    have hlen := drop_len h
    have hr := rd70_at h
    have hx := (hl.2 x (mem_at h)).1.2.2
    have ei := wi i l.length (by omega) (by omega)
    have h1 := oneF_length 3 (x.f0 % 256) x.f1
    refine Ev.step (fun k => by rw [tlv_Write.l0]) (Ev.pos (by omega) (Ev.pos (by omega) (Ev.pos (by omega) ?_)))
    simp only [hr]
    refine write_one l i x.f0 x.f1 _ 3 x.f1 acc true (by omega) (Or.inl rfl) (by omega) ?_
    rw [ei]
    refine Ev.eq (ih (i + 1) (acc ++ oneF 3 (x.f0 % 256) x.f1) (drop_next h) (by simp; omega) (by omega)) ?_
    simp [flatL]
theorem write_is (l : List S70) (hl : l.length ≤ 100000) : Ev (fun k => tlv_Write.f k l) (if Right3 l then (writeL l, 0) else ([], 1)) := by
  unfold tlv_Write.f
  refine Ev.bind (tright_is l hl) ?_
  by_cases h : Right3 l
  · rw [if_pos h, decide_eq_true h]
    exact Ev.pos rfl (write_loop l h l 0 [] rfl (by simp) (by omega))
  · rw [if_neg h, decide_eq_false h]
    exact Ev.neg (by decide) (Ev.now _)
theorem writeL_fit {l : List S70} (h : Right3 l) : (writeL l).length ≤ 40000 := by
  have := flatL_length l (fun x hx => (h.2 x hx).1.2.2)
  have := h.1
  simp [writeL]
  omega
theorem writeL_bytes {l : List S70} (h : Right3 l) (hb : AllBytes l) : Bytes (writeL l) := (flatL_bytes l (fun x hx => (h.2 x hx).1.2.2) hb).append (Bytes.cons (by decide) Bytes.nil)

/-! ### knows -/
def kL : List S70 := [⟨53, [1]⟩, ⟨12, []⟩]
def kG : List S70 := [⟨9, List.replicate 300 0⟩]
theorem knows_is : Ev (fun k => boarderlaw03_knows.f k) true := by
  have r1 : Right3 kL := by decide +kernel
  have r2 : Right3 kG := by decide +kernel
  have w1 : writeL kL = [53, 1, 1, 12, 0, 255] := by decide +kernel
  have w2 : (writeL kG).length = 305 := by decide +kernel
  have rd0 : readA [0, 53, 1, 1, 12, 0, 255, 7] [] = (kL, 0) := by
    have := read_write r1 [7]
    rw [w1] at this
    rw [readA_pad]
    exact this
  have fb : Bytes [0, 53, 1, 1, 12, 0, 255, 7] := by intro x hx; simp at hx; omega
  unfold boarderlaw03_knows.f
  refine Ev.bind (Ev.eq (write_is kL (by decide)) (if_pos r1)) (Ev.bind (Ev.eq (read_is [0, 53, 1, 1, 12, 0, 255, 7] (by decide) fb) rd0) (Ev.bind (Ev.eq (find_is kL r1.fit 53) (show find 53 kL = ([1], true) by decide +kernel)) (Ev.pos (by decide) ?_)))
  refine Ev.bind (Ev.eq (write_is kG (by decide)) (if_pos r2)) ?_
  refine Ev.pos (by show (strOfNums (writeL kL)).toList = _; rw [w1, str_toList]; decide +kernel) (Ev.pos rfl (Ev.pos rfl (Ev.pos (by decide) (Ev.pos rfl (Ev.pos rfl (Ev.pos (by rw [str_toList]; decide +kernel) (Ev.pos rfl ?_)))))))
  refine Ev.pos (by show ((writeL kG).length : Int) = 305; rw [w2]; rfl) (Ev.pos rfl ?_)
  exact Ev.bind (tright_is kL (by decide)) (Ev.const (decide_eq_true r1))
theorem knows_then : Ev (fun k => (boarderlaw03_knows.f k).bind fun t => some t) true := Ev.bind knows_is (Ev.now _)
theorem great_then (l : List S70) (hl : l.length ≤ maxLen) : ∃ g, Ev (fun k => boarderlaw03_Great.f k l) g ∧ (g = false → Fit l ∧ l.length ≤ 100) := by
  obtain ⟨g, h1, h2⟩ := great_is l (by unfold maxLen at hl; omega)
  exact ⟨g, h1, fun hg => ⟨Fit.of (h2 hg), (h2 hg).1⟩⟩
end Go.Proofs.Ytiklcnlehlpdaaa.Plain
