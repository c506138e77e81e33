/- What relay.Parts, relay.Bytes, relay.LinkOf and the references come to. -/
import Derived.Test.YtplkgegmbkfncaaNumsGet
set_option linter.unusedVariables false
set_option linter.unusedSimpArgs false
namespace Go.Proofs.Ytplkgegmbkfncaa.Plain
open Go.RowKit Go.Proofs.YtplkgegmbkfncaaW.PrintWords Go.Proofs.YtplkgegmbkfncaaW.PrintLast Go.Proofs.YtplkgegmbkfncaaW.PrintMore Go.Proofs.Ytplkgegmbkfncaa.PRel

theorem rd51_at {l : List S51} {i : Nat} {x : S51} {r : List S51} (h : l.drop i = x :: r) : rd_T51 l (i : Int) = x := by
  unfold rd_T51
  have e : l[i]? = (l.drop i)[0]? := by rw [List.getElem?_drop]; simp
  rw [Int.toNat_natCast, List.getD_eq_getElem?_getD, e, h]
  rfl
theorem rd_at {l : List Int} {i : Nat} {x : Int} {r : List Int} (h : l.drop i = x :: r) : rd l (i : Int) = x := by
  unfold rd
  have e : l[i]? = (l.drop i)[0]? := by rw [List.getElem?_drop]; simp
  rw [Int.toNat_natCast, List.getD_eq_getElem?_getD, e, h]
  rfl
theorem drop_more {α : Type} (l : List α) (i j : Nat) : l.drop (i + j) = (l.drop i).drop j := by
  rw [List.drop_drop]
theorem drop_next {α : Type} {l : List α} {i : Nat} {x : α} {r : List α} (h : l.drop i = x :: r) : l.drop (i + 1) = r := by
  rw [drop_more, h]; rfl
theorem drop_len {α : Type} {l : List α} {i : Nat} {x : α} {r : List α} (h : l.drop i = x :: r) : l.length = i + 1 + r.length := by
  have := congrArg List.length h
  simp at this
  omega
theorem drop_none {α : Type} {l : List α} {i : Nat} (h : l.drop i = []) : l.length ≤ i := by
  have := congrArg List.length h
  simp at this
  omega
theorem mem_at {α : Type} {l : List α} {i : Nat} {x : α} {r : List α} (h : l.drop i = x :: r) : x ∈ l := List.mem_of_mem_drop (h ▸ List.mem_cons_self : x ∈ l.drop i)

theorem w64_1 (i : Nat) (h : i ≤ 100000) : wrap64 ((i : Int) + 1) = (i : Int) + 1 := w64 (by omega) (by omega)
theorem w64_2 (i : Nat) (h : i ≤ 100000) : wrap64 ((i : Int) + 2) = ((i + 2 : Nat) : Int) := by rw [w64 (by omega) (by omega)]; rfl
theorem w64_add (a b : Nat) (ha : a ≤ 100000) (hb : b ≤ 100000) : wrap64 ((a : Int) + wrap64 (b : Int)) = ((a + b : Nat) : Int) := by
  rw [w64 (x := (b : Int)) (by omega) (by omega), w64 (by omega) (by omega)]; rfl

/-! ### the parts of bytes -/
def parts : List Int → Option (List S51)
  | [] => some []
  | [_] => none
  | c :: m :: t => if (t.length : Int) < m then none else (parts (t.drop m.toNat)).map (fun ps => (⟨c, t.take m.toNat⟩ : S51) :: ps)
termination_by l => l.length
decreasing_by simp; omega
def partsR (acc : List S51) : Option (List S51) → List S51 × Int
  | none => ([], 2)
  | some ps => (acc ++ ps, 0)
theorem partsR_cons (acc : List S51) (x : S51) (o : Option (List S51)) : partsR acc (o.map (fun ps => x :: ps)) = partsR (acc ++ [x]) o := by
  cases o <;> simp [partsR]
theorem parts_loop : ∀ (n : Nat) (l : List Int) (acc : List S51), l.length ≤ n → Bytes l → acc.length + l.length ≤ 1000000 → Ev (fun k => relay_Parts.l0 k acc l) (partsR acc (parts l)) := by
  intro n
  induction n with
  | zero =>
    intro l acc hn _ _
    obtain rfl := List.eq_nil_of_length_eq_zero (Nat.le_zero.1 hn)
    refine Ev.step (fun k => by rw [relay_Parts.l0]) (Ev.neg (by simp) (Ev.const ?_))
    simp [parts, partsR]
  | succ n ih =>
    intro l acc hn hb ha
    rcases l with _ | ⟨c, _ | ⟨m, t⟩⟩
    · refine Ev.step (fun k => by rw [relay_Parts.l0]) (Ev.neg (by simp) (Ev.const ?_))
      simp [parts, partsR]
    · refine Ev.step (fun k => by rw [relay_Parts.l0]) (Ev.pos (by simp) (Ev.pos (by simp) (Ev.const ?_)))
      simp [parts, partsR]
    · have hc := hb c (by simp)
      have hm := hb m (by simp)
      have e1 : rd (c :: m :: t) 1 = m := rfl
      have e0 : rd (c :: m :: t) 0 = c := rfl
      obtain ⟨j, rfl⟩ := Int.eq_ofNat_of_zero_le hm.1
      have ew : wrap64 (2 + wrap64 (j : Int)) = ((j + 2 : Nat) : Int) := by rw [w64 (x := (j : Int)) (by omega) (by omega), w64 (by omega) (by omega)]; omega
      have ec : wrap64 c = c := w64 (by omega) (by omega)
      have el : (c :: (j : Int) :: t).length = t.length + 2 := rfl
      have et : ((c :: (j : Int) :: t).take ((j + 2 : Nat) : Int).toNat).drop 2 = t.take j := by rw [Int.toNat_natCast]; rfl
      have ed : (c :: (j : Int) :: t).drop ((j + 2 : Nat) : Int).toNat = t.drop j := by rw [Int.toNat_natCast]; rfl
      refine Ev.step (fun k => by rw [relay_Parts.l0]) (Ev.pos (by rw [el]; omega) (Ev.neg (by rw [el]; omega) (Ev.pos (by rw [el]; omega) ?_)))
      simp only [e1, e0, ew, ec, et, ed]
      rw [el] at ha hn ⊢
      rw [parts, Int.toNat_natCast]
      clear ew
      by_cases h : (t.length : Int) < j
      · rw [if_pos h]; exact Ev.pos (by omega) (Ev.const rfl)
      rw [if_neg h, partsR_cons]
      refine Ev.neg (by omega) (Ev.pos (by omega) (Ev.pos (by omega) (Ev.pos (by omega) (Ev.pos (by omega) (Ev.pos (by omega) ?_)))))
      exact ih _ _ (by simp; omega) (fun x hx => hb x (by simp; exact Or.inr (Or.inr (List.mem_of_mem_drop hx)))) (by simp; omega)
def partsA (l : List Int) : List S51 × Int := if l.length > 600 then ([], 3) else partsR [] (parts l)
theorem parts_is (l : List Int) (hb : Bytes l) (hl : l.length ≤ 10000) : Ev (fun k => relay_Parts.f k l) (partsA l) := by
  unfold relay_Parts.f partsA
  by_cases h : l.length > 600
  · rw [if_pos h]; exact Ev.pos (by omega) (Ev.now _)
  rw [if_neg h]
  refine Ev.neg (by omega) (Ev.bind (Ev.now _) (Ev.pos (by simp; omega) ?_))
  rw [List.nil_append]
  exact parts_loop l.length l [] (Nat.le_refl _) hb (by simp; omega)
theorem rparts_loop (l : List Int) (hb : Bytes l) (hl : l.length ≤ 600) : ∀ (n i : Nat) (acc : List S51), l.length ≤ i + n → acc.length ≤ i → i ≤ l.length →
    Ev (fun k => boarderref06_Parts.l0 k l acc i) (partsR acc (parts (l.drop i))) := by
  intro n
  induction n with
  | zero =>
    intro i acc hn _ hi
    rw [List.drop_of_length_le (by omega)]
    refine Ev.step (fun k => by rw [boarderref06_Parts.l0]) (Ev.neg (by omega) (Ev.const ?_))
    simp [parts, partsR]
  | succ n ih =>
    intro i acc hn ha hi
    rcases h : l.drop i with _ | ⟨c, _ | ⟨m, t⟩⟩
    · have := drop_none h
      refine Ev.step (fun k => by rw [boarderref06_Parts.l0]) (Ev.neg (by omega) (Ev.const ?_))
      simp [parts, partsR]
    · have hlen := drop_len h
      simp at hlen
      have ei : wrap64 ((i : Int) + 1) = i + 1 := w64 (by omega) (by omega)
      refine Ev.step (fun k => by rw [boarderref06_Parts.l0]) (Ev.pos (by omega) (Ev.pos (by rw [ei]; omega) (Ev.const ?_)))
      simp [parts, partsR]
    · have hlen := drop_len h
      rw [List.length_cons] at hlen
      have h1 := drop_next h
      have h2 := drop_next h1
      have r0 := rd_at h
      have r1 := rd_at h1
      rw [show ((i + 1 : Nat) : Int) = (i : Int) + 1 from rfl] at r1
      have hc := hb c (mem_at h)
      have hm := hb m (mem_at h1)
      obtain ⟨j, rfl⟩ := Int.eq_ofNat_of_zero_le hm.1
      have b1 : i + 2 ≤ 100000 := by omega
      have b2 : j ≤ 100000 := by omega
      have b3 : i ≤ 100000 := by omega
      have et : (l.take (i + 2 + j)).drop (i + 2) = t.take j := by rw [List.drop_take, h2]; congr 1; omega
      have ed : l.drop (i + 2 + j) = t.drop j := by rw [drop_more, h2]
      have ec : wrap64 c = c := w64 (by omega) (by omega)
      refine Ev.step (fun k => by rw [boarderref06_Parts.l0]) (Ev.pos (by clear et ed ec; omega) ?_)
      simp only [w64_1 i b3, w64_2 i b3, r0, r1, ec, w64_add (i + 2) j b1 b2, Int.toNat_natCast, et]
      clear ec et
      rw [parts, Int.toNat_natCast, ← ed]
      clear ed
      refine Ev.neg (by omega) (Ev.pos (by omega) (Ev.pos (by omega) ?_))
      by_cases hj : (t.length : Int) < j
      · rw [if_pos hj]; exact Ev.pos (by omega) (Ev.const rfl)
      rw [if_neg hj, partsR_cons]
      refine Ev.neg (by omega) (Ev.pos (by omega) (Ev.pos (by omega) (Ev.pos (by omega) (Ev.pos (by omega) (Ev.pos (by omega) ?_)))))
      exact ih _ _ (by omega) (by simp; omega) (by omega)
theorem rparts_is (l : List Int) (hb : Bytes l) : Ev (fun k => boarderref06_Parts.f k l) (partsA l) := by
  unfold boarderref06_Parts.f partsA
  by_cases h : l.length > 600
  · rw [if_pos h]; exact Ev.pos (by omega) (Ev.now _)
  rw [if_neg h]
  refine Ev.neg (by omega) ?_
  have := rparts_loop l hb (by omega) l.length 0 [] (by omega) (by simp) (by omega)
  simpa using this
/-- The elements of bytes are bytes. -/
theorem parts_bytes : ∀ (n : Nat) (l : List Int) (ps : List S51), l.length ≤ n → Bytes l → parts l = some ps → ∀ x ∈ ps, Bytes x.f1 ∧ x.f1.length ≤ l.length := by
  intro n
  induction n with
  | zero =>
    intro l ps hn hb h
    obtain rfl := List.eq_nil_of_length_eq_zero (Nat.le_zero.1 hn)
    simp [parts] at h
    subst h
    intro x hx
    cases hx
  | succ n ih =>
    intro l ps hn hb h
    rcases l with _ | ⟨c, _ | ⟨m, t⟩⟩
    · simp [parts] at h
      subst h
      intro x hx
      cases hx
    · simp [parts] at h
    · rw [parts] at h
      split at h
      · cases h
      · obtain ⟨qs, hq, rfl⟩ := Option.map_eq_some_iff.1 h
        have hbt : Bytes t := fun x hx => hb x (by simp; exact Or.inr (Or.inr hx))
        intro x hx
        rcases List.mem_cons.1 hx with rfl | hx
        · exact ⟨hbt.take _, by simp; omega⟩
        · have := ih (t.drop m.toNat) qs (by simp at hn ⊢; omega) (hbt.drop _) hq x hx
          exact ⟨this.1, by have := this.2; simp at this ⊢; omega⟩

/-! ### the bytes of parts -/
def okB (l : List S51) : Bool := l.all fun x => decide (0 ≤ x.f0) && (decide (x.f0 ≤ 255) && decide (x.f1.length ≤ 255))
theorem okB_cons (x : S51) (l : List S51) : okB (x :: l) = (decide (0 ≤ x.f0) && (decide (x.f0 ≤ 255) && decide (x.f1.length ≤ 255)) && okB l) := by simp [okB]
def bytesL : List S51 → List Int
  | [] => []
  | x :: l => x.f0 :: (x.f1.length : Int) :: x.f1 ++ bytesL l
theorem bytesL_length (x : S51) (l : List S51) : (bytesL (x :: l)).length = x.f1.length + 2 + (bytesL l).length := by simp [bytesL]; omega
def bytesA (l : List S51) : List Int × Int := if okB l = true then (if (bytesL l).length > 600 then ([], 3) else (bytesL l, 0)) else ([], 1)
theorem bytes_build (l : List S51) (hl : l.length ≤ 1000) : ∀ (r : List S51) (i : Nat) (acc : List Int), l.drop i = r → okB r = true → acc.length + (bytesL r).length ≤ 100000 →
    Ev (fun k => relay_Bytes.l1 k acc l (l.length : Int) i) (acc ++ bytesL r, 0) := by
  intro r
  induction r with
  | nil =>
    intro i acc h _ _
    have := drop_none h
    exact Ev.step (fun k => by rw [relay_Bytes.l1]) (Ev.neg (by omega) (Ev.const (by simp [bytesL])))
  | cons x r ih =>
    intro i acc h hok ha
    have hlen := drop_len h
    have hr := rd51_at h
    have ei : wrap64 ((i : Int) + 1) = ((i + 1 : Nat) : Int) := by rw [w64 (by omega) (by omega)]; rfl
    rw [okB_cons] at hok
    simp only [Bool.and_eq_true, decide_eq_true_eq] at hok
    rw [bytesL_length] at ha
    have e0 : x.f0 % 256 = x.f0 := by omega
    have e1 : (x.f1.length : Int) % 256 = x.f1.length := by omega
    refine Ev.step (fun k => by rw [relay_Bytes.l1]) (Ev.pos (by omega) (Ev.pos (by omega) (Ev.pos (by omega) ?_)))
    simp only [hr, ei, e0, e1]
    clear ei
    refine Ev.bind (Ev.now _) (Ev.pos (by simp; omega) (Ev.bind (Ev.now _) (Ev.pos (by simp; omega) ?_)))
    refine Ev.eq (ih (i + 1) _ (drop_next h) hok.2 (by simp; omega)) ?_
    simp [bytesL]
theorem bytes_check (l : List S51) (hl : l.length ≤ 1000) (hd : ∀ x ∈ l, x.f1.length ≤ 1000) (hT : (bytesL l).length ≤ 600 → okB l = true → Ev (fun k => relay_Bytes.l1 k [] l (l.length : Int) 0) (bytesL l, 0)) : ∀ (r : List S51) (i n : Nat), l.drop i = r → n ≤ 601 → okB l = okB r →
    ((bytesL l).length > 600 ↔ n + (bytesL r).length > 600) → Ev (fun k => relay_Bytes.l0 k l (n : Int) l (l.length : Int) i) (bytesA l) := by
  intro r
  induction r with
  | nil =>
    intro i n h hn hok ht
    have := drop_none h
    have hokl : okB l = true := hok
    have hz : (bytesL ([] : List S51)).length = 0 := rfl
    rw [hz] at ht
    unfold bytesA
    rw [if_pos hokl]
    refine Ev.step (fun k => by rw [relay_Bytes.l0]) (Ev.neg (by omega) ?_)
    by_cases h6 : (bytesL l).length > 600
    · rw [if_pos h6]; exact Ev.pos (by omega) (Ev.now _)
    · rw [if_neg h6]; exact Ev.neg (by omega) (hT (by omega) hokl)
  | cons x r ih =>
    intro i n h hn hok ht
    have hlen := drop_len h
    have hr := rd51_at h
    have hx := hd x (mem_at h)
    have ei : wrap64 ((i : Int) + 1) = ((i + 1 : Nat) : Int) := by rw [w64 (by omega) (by omega)]; rfl
    have en : wrap64 (wrap64 ((n : Int) + 2) + (x.f1.length : Int)) = ((n + 2 + x.f1.length : Nat) : Int) := by rw [w64 (x := (n : Int) + 2) (by omega) (by omega), w64 (by omega) (by omega)]; omega
    have em : mn ((n + 2 + x.f1.length : Nat) : Int) 601 = ((if n + 2 + x.f1.length ≤ 601 then n + 2 + x.f1.length else 601 : Nat) : Int) := by unfold mn; split <;> split <;> omega
    rw [okB_cons] at hok
    have hbad : okB l = false → bytesA l = ([], 1) := fun h => by unfold bytesA; rw [h]; rfl
    refine Ev.step (fun k => by rw [relay_Bytes.l0]) (Ev.pos (by omega) (Ev.pos (by omega) (Ev.pos (by omega) ?_)))
    simp only [hr, ei, en, em]
    clear ei en em
    by_cases h0 : x.f0 < 0
    · rw [hbad (by rw [hok]; simp; omega)]; exact Ev.pos h0 (Ev.now _)
    refine Ev.neg h0 ?_
    by_cases h1 : x.f0 > 255
    · rw [hbad (by rw [hok]; simp; omega)]; exact Ev.pos h1 (Ev.now _)
    refine Ev.neg h1 ?_
    by_cases h2 : (x.f1.length : Int) > 255
    · rw [hbad (by rw [hok]; simp; omega)]; exact Ev.pos h2 (Ev.now _)
    refine Ev.neg h2 ?_
    rw [decide_eq_true (show 0 ≤ x.f0 by omega), decide_eq_true (show x.f0 ≤ 255 by omega), decide_eq_true (show x.f1.length ≤ 255 by omega)] at hok
    simp only [Bool.true_and] at hok
    rw [bytesL_length] at ht
    exact ih (i + 1) _ (drop_next h) (by split <;> omega) hok (by rw [ht]; split <;> omega)
theorem bytes_is (l : List S51) (hl : l.length ≤ 1000) (hd : ∀ x ∈ l, x.f1.length ≤ 1000) : Ev (fun k => relay_Bytes.f k l) (bytesA l) := by
  unfold relay_Bytes.f
  refine bytes_check l hl hd (fun h1 h2 => ?_) l 0 0 rfl (by omega) rfl (by simp)
  have := bytes_build l hl l 0 [] rfl h2 (by simp; omega)
  simpa using this
theorem rbytes_build (l : List S51) (hl : l.length ≤ 1000) : ∀ (r : List S51) (i : Nat) (acc : List Int), l.drop i = r → okB r = true → acc.length ≤ 600 →
    Ev (fun k => boarderref06_Bytes.l1 k l acc i) (if acc.length + (bytesL r).length > 600 then ([], 3) else (acc ++ bytesL r, 0)) := by
  intro r
  induction r with
  | nil =>
    intro i acc h _ ha
    have := drop_none h
    rw [if_neg (by simp [bytesL]; omega)]
    exact Ev.step (fun k => by rw [boarderref06_Bytes.l1]) (Ev.neg (by omega) (Ev.const (by simp [bytesL])))
  | cons x r ih =>
    intro i acc h hok ha
    have hlen := drop_len h
    have hr := rd51_at h
    have ei : wrap64 ((i : Int) + 1) = ((i + 1 : Nat) : Int) := by rw [w64 (by omega) (by omega)]; rfl
    rw [okB_cons] at hok
    simp only [Bool.and_eq_true, decide_eq_true_eq] at hok
    rw [bytesL_length]
    have e0 : x.f0 % 256 = x.f0 := by omega
    have e1 : (x.f1.length : Int) % 256 = x.f1.length := by omega
    refine Ev.step (fun k => by rw [boarderref06_Bytes.l1]) (Ev.pos (by omega) (Ev.pos (by omega) ?_))
    simp only [hr, ei, e0, e1]
    clear ei
    refine Ev.bind (Ev.now _) (Ev.pos (by simp; omega) (Ev.bind (Ev.now _) (Ev.pos (by simp; omega) (Ev.bind (Ev.now _) ?_))))
    have el : (acc ++ [x.f0, (x.f1.length : Int)] ++ x.f1).length = acc.length + (x.f1.length + 2) := by simp [List.length_append]; try omega
    by_cases h6 : acc.length + (x.f1.length + 2) > 600
    · rw [if_pos (by omega)]
      exact Ev.pos (by rw [el]; omega) (Ev.now _)
    refine Ev.neg (by rw [el]; omega) (Ev.eq (ih (i + 1) _ (drop_next h) hok.2 (by rw [el]; omega)) ?_)
    rw [el, show acc.length + (x.f1.length + 2) + (bytesL r).length = acc.length + (x.f1.length + 2 + (bytesL r).length) by omega]
    simp [bytesL]
theorem rbytes_check (l : List S51) (hl : l.length ≤ 1000) : ∀ (r : List S51) (i : Nat), l.drop i = r → okB l = okB r → Ev (fun k => boarderref06_Bytes.l0 k l i) (bytesA l) := by
  intro r
  induction r with
  | nil =>
    intro i h hok
    have := drop_none h
    have hokl : okB l = true := hok
    unfold bytesA
    rw [if_pos hokl]
    refine Ev.step (fun k => by rw [boarderref06_Bytes.l0]) (Ev.neg (by omega) ?_)
    have := rbytes_build l hl l 0 [] rfl hokl (by simp)
    simpa using this
  | cons x r ih =>
    intro i h hok
    have hlen := drop_len h
    have hr := rd51_at h
    have ei : wrap64 ((i : Int) + 1) = ((i + 1 : Nat) : Int) := by rw [w64 (by omega) (by omega)]; rfl
    rw [okB_cons] at hok
    have hbad : okB l = false → bytesA l = ([], 1) := fun h => by unfold bytesA; rw [h]; rfl
    refine Ev.step (fun k => by rw [boarderref06_Bytes.l0]) (Ev.pos (by omega) (Ev.pos (by omega) ?_))
    simp only [hr, ei]
    clear ei
    by_cases h0 : x.f0 < 0
    · rw [hbad (by rw [hok]; simp; omega)]; exact Ev.pos h0 (Ev.now _)
    refine Ev.neg h0 ?_
    by_cases h1 : x.f0 > 255
    · rw [hbad (by rw [hok]; simp; omega)]; exact Ev.pos h1 (Ev.now _)
    refine Ev.neg h1 ?_
    by_cases h2 : (x.f1.length : Int) > 255
    · rw [hbad (by rw [hok]; simp; omega)]; exact Ev.pos h2 (Ev.now _)
    refine Ev.neg h2 ?_
    rw [decide_eq_true (show 0 ≤ x.f0 by omega), decide_eq_true (show x.f0 ≤ 255 by omega), decide_eq_true (show x.f1.length ≤ 255 by omega)] at hok
    simp only [Bool.true_and] at hok
    exact ih (i + 1) (drop_next h) hok
theorem rbytes_is (l : List S51) (hl : l.length ≤ 1000) : Ev (fun k => boarderref06_Bytes.f k l) (bytesA l) := by
  unfold boarderref06_Bytes.f
  exact rbytes_check l hl l 0 rfl rfl

/-! ### there and back -/
theorem parts_bytesL : ∀ (l : List S51), okB l = true → parts (bytesL l) = some l
  | [], _ => by simp [bytesL, parts]
  | x :: l, h => by
    rw [okB_cons] at h
    simp only [Bool.and_eq_true, decide_eq_true_eq] at h
    have ih := parts_bytesL l h.2
    have e : bytesL (x :: l) = x.f0 :: (x.f1.length : Int) :: (x.f1 ++ bytesL l) := by simp [bytesL]
    rw [e, parts, if_neg (by simp; omega), Int.toNat_natCast, List.drop_left' rfl, List.take_left' rfl, ih]
    rfl
theorem bytesL_bytes : ∀ (l : List S51), okB l = true → (∀ x ∈ l, Bytes x.f1) → Bytes (bytesL l)
  | [], _, _ => Bytes.nil
  | x :: l, h, hb => by
    rw [okB_cons] at h
    simp only [Bool.and_eq_true, decide_eq_true_eq] at h
    have e : bytesL (x :: l) = x.f0 :: (x.f1.length : Int) :: (x.f1 ++ bytesL l) := by simp [bytesL]
    rw [e]
    exact Bytes.cons (by omega) (Bytes.cons (by omega) ((hb x (by simp)).append (bytesL_bytes l h.2 (fun y hy => hb y (by simp [hy])))))
theorem bytesL_parts : ∀ (n : Nat) (l : List Int) (ps : List S51), l.length ≤ n → Bytes l → parts l = some ps → okB ps = true ∧ bytesL ps = l ∧ ps.length ≤ l.length := by
  intro n
  induction n with
  | zero =>
    intro l ps hn hb h
    obtain rfl := List.eq_nil_of_length_eq_zero (Nat.le_zero.1 hn)
    simp [parts] at h
    subst h
    exact ⟨rfl, rfl, Nat.le_refl _⟩
  | succ n ih =>
    intro l ps hn hb h
    rcases l with _ | ⟨c, _ | ⟨m, t⟩⟩
    · simp [parts] at h
      subst h
      exact ⟨rfl, rfl, Nat.le_refl _⟩
    · simp [parts] at h
    · rw [parts] at h
      split at h
      · cases h
      · obtain ⟨qs, hq, rfl⟩ := Option.map_eq_some_iff.1 h
        have hc := hb c (by simp)
        have hm := hb m (by simp)
        have hbt : Bytes t := fun x hx => hb x (by simp; exact Or.inr (Or.inr hx))
        obtain ⟨g1, g2, g3⟩ := ih (t.drop m.toNat) qs (by simp at hn ⊢; omega) (hbt.drop _) hq
        have hl : (t.take m.toNat).length = m.toNat := by rw [List.length_take]; omega
        refine ⟨?_, ?_, ?_⟩
        · rw [okB_cons, g1]
          simp only [hl]
          simp
          omega
        · simp only [bytesL, hl, g2]
          simp
          omega
        · simp at g3 ⊢
          omega

/-! ### the link -/
def link : List S51 → Int × Bool
  | [] => (0, false)
  | x :: r => if x.f0 = 5 then (if x.f1.length = 4 then (valL x.f1, true) else (0, false)) else link r
theorem link_loop (l : List S51) (hl : l.length ≤ 100000) (hb : ∀ x ∈ l, Bytes x.f1 ∧ x.f1.length ≤ 100000) : ∀ (r : List S51) (i : Nat), l.drop i = r → Ev (fun k => relay_LinkOf.l0 k l (l.length : Int) i) (link r) := by
  intro r
  induction r with
  | nil =>
    intro i h
    have := drop_none h
    rw [show link [] = (0, false) from rfl]
    exact Ev.step (fun k => by rw [relay_LinkOf.l0]) (Ev.neg (by omega) (Ev.now _))
  | cons x r ih =>
    intro i h
    have hlen := drop_len h
    have hr := rd51_at h
    have hx := hb x (mem_at h)
    have ei : wrap64 ((i : Int) + 1) = ((i + 1 : Nat) : Int) := by rw [w64 (by omega) (by omega)]; rfl
    refine Ev.step (fun k => by rw [relay_LinkOf.l0]) (Ev.pos (by omega) (Ev.pos (by omega) (Ev.pos (by omega) ?_)))
    simp only [hr, ei]
    clear ei
    unfold link
    by_cases h5 : x.f0 = 5
    · rw [if_pos h5]
      refine Ev.pos h5 (Ev.bind (get_is x.f1 hx.1 (by omega) 0 4 (by omega)) ?_)
      by_cases h4 : x.f1.length = 4
      · rw [if_pos h4]
        refine Ev.pos (by omega) (Ev.const ?_)
        unfold getL
        rw [if_neg (by omega), if_neg (by omega)]
        simp only [show (0 : Int).toNat = 0 from rfl, show (4 : Int).toNat = 4 from rfl, List.drop_zero]
        rw [List.take_of_length_le (by omega)]
      · rw [if_neg h4]; exact Ev.neg (by omega) (Ev.now _)
    · rw [if_neg h5]; exact Ev.neg h5 (ih (i + 1) (drop_next h))
theorem rlink_loop (l : List S51) (hl : l.length ≤ 100000) (hb : ∀ x ∈ l, Bytes x.f1 ∧ x.f1.length ≤ 100000) : ∀ (r : List S51) (i : Nat), l.drop i = r → Ev (fun k => boarderref06_Link.l0 k l i) (link r) := by
  intro r
  induction r with
  | nil =>
    intro i h
    have := drop_none h
    rw [show link [] = (0, false) from rfl]
    exact Ev.step (fun k => by rw [boarderref06_Link.l0]) (Ev.neg (by omega) (Ev.now _))
  | cons x r ih =>
    intro i h
    have hlen := drop_len h
    have hr := rd51_at h
    have hx := hb x (mem_at h)
    have ei : wrap64 ((i : Int) + 1) = ((i + 1 : Nat) : Int) := by rw [w64 (by omega) (by omega)]; rfl
    refine Ev.step (fun k => by rw [boarderref06_Link.l0]) (Ev.pos (by omega) (Ev.pos (by omega) ?_))
    simp only [hr, ei]
    clear ei
    unfold link
    by_cases h5 : x.f0 = 5
    · rw [if_pos h5]
      refine Ev.pos h5 ?_
      by_cases h4 : x.f1.length = 4
      · rw [if_pos h4]; exact Ev.pos (by omega) (Ev.bind (rvalue_is x.f1 hx.1 (by omega)) (Ev.now _))
      · rw [if_neg h4]; exact Ev.neg (by omega) (Ev.now _)
    · rw [if_neg h5]; exact Ev.neg h5 (ih (i + 1) (drop_next h))
theorem partsA_fst (l : List Int) (hb : Bytes l) : ∀ x ∈ (partsA l).1, Bytes x.f1 ∧ x.f1.length ≤ l.length := by
  unfold partsA
  split
  · intro x hx; cases hx
  · cases hp : parts l with
    | none => intro x hx; cases hx
    | some ps => intro x hx; exact parts_bytes l.length l ps (Nat.le_refl _) hb hp x (by simpa [partsR] using hx)
theorem partsA_len (l : List Int) (hb : Bytes l) : (partsA l).1.length ≤ l.length := by
  unfold partsA
  split
  · simp
  · cases hp : parts l with
    | none => simp [partsR]
    | some ps => have := (bytesL_parts l.length l ps (Nat.le_refl _) hb hp).2.2; simpa [partsR] using this
theorem linkof_is (l : List Int) (hb : Bytes l) (hl : l.length ≤ 10000) : Ev (fun k => relay_LinkOf.f k l) (link (partsA l).1) := by
  unfold relay_LinkOf.f
  refine Ev.bind (parts_is l hb hl) ?_
  have h1 := partsA_fst l hb
  have h2 := partsA_len l hb
  by_cases h : (partsA l).2 = 0
  · exact Ev.pos h (link_loop _ (by omega) (fun x hx => ⟨(h1 x hx).1, by have := (h1 x hx).2; omega⟩) _ 0 rfl)
  · refine Ev.neg h (Ev.const ?_)
    have : (partsA l).1 = [] := by
      unfold partsA at h ⊢
      split
      · rfl
      · rename_i h6
        rw [if_neg h6] at h
        cases hp : parts l with
        | none => rfl
        | some ps => rw [hp] at h; exact absurd rfl h
    rw [this]
    rfl
theorem rlink_is (l : List Int) (hb : Bytes l) (hl : l.length ≤ 10000) : Ev (fun k => boarderref06_Link.f k l) (link (partsA l).1) := by
  unfold boarderref06_Link.f
  refine Ev.bind (rparts_is l hb) ?_
  have h1 := partsA_fst l hb
  have h2 := partsA_len l hb
  exact rlink_loop _ (by omega) (fun x hx => ⟨(h1 x hx).1, by have := (h1 x hx).2; omega⟩) _ 0 rfl

/-! ### the same, great, knows -/
theorem same_loop (l : List S51) (hl : l.length ≤ 100000) : ∀ (r : List S51) (i : Nat), l.drop i = r → Ev (fun k => boarderref03_Same.l0 k l l i) true := by
  intro r
  induction r with
  | nil =>
    intro i h
    have := drop_none h
    exact Ev.step (fun k => by rw [boarderref03_Same.l0]) (Ev.neg (by omega) (Ev.now _))
  | cons x r ih =>
    intro i h
    have hlen := drop_len h
    have ei : wrap64 ((i : Int) + 1) = ((i + 1 : Nat) : Int) := by rw [w64 (by omega) (by omega)]; rfl
    refine Ev.step (fun k => by rw [boarderref03_Same.l0]) (Ev.pos (by omega) (Ev.pos (by omega) (Ev.pos (by omega) (Ev.pos rfl (Ev.pos rfl ?_)))))
    simp only [ei]
    exact ih (i + 1) (drop_next h)
theorem same_is (l : List S51) (hl : l.length ≤ 100000) : Ev (fun k => boarderref03_Same.f k l l) true := by
  unfold boarderref03_Same.f
  exact Ev.pos rfl (same_loop l hl l 0 rfl)
theorem great_loop (l : List S51) (hl : l.length ≤ 9223372036854775807) : ∀ (r : List S51) (i : Nat), l.drop i = r → (∀ x ∈ l.take i, x.f1.length ≤ 1000) →
    ∃ g, Ev (fun k => boarderlaw03_Great.l0 k l i) g ∧ (g = false → l.length ≤ 100 ∧ ∀ x ∈ l, x.f1.length ≤ 1000) := by
  intro r
  induction r with
  | nil =>
    intro i h ht
    have := drop_none h
    rw [List.take_of_length_le this] at ht
    exact ⟨_, Ev.step (fun k => by rw [boarderlaw03_Great.l0]) (Ev.neg (by omega) (Ev.now _)), fun hg => ⟨by simp at hg; omega, ht⟩⟩
  | cons x r ih =>
    intro i h ht
    have hlen := drop_len h
    have hr := rd51_at h
    have ei : wrap64 ((i : Int) + 1) = ((i + 1 : Nat) : Int) := by rw [w64 (by omega) (by omega)]; rfl
    by_cases hx : (x.f1.length : Int) > 1000
    · refine ⟨true, Ev.step (fun k => by rw [boarderlaw03_Great.l0]) (Ev.pos (by omega) (Ev.pos (by omega) ?_)), fun hg => by cases hg⟩
      simp only [hr]
      exact Ev.pos hx (Ev.now _)
    · have hil : i < l.length := by omega
      have hxi : l[i] = x := by
        have e : l[i]? = (l.drop i)[0]? := by rw [List.getElem?_drop]; simp
        rw [h, List.getElem?_eq_getElem hil] at e
        simpa using e
      obtain ⟨g, hg, hg2⟩ := ih (i + 1) (drop_next h) (by
        intro y hy
        rw [List.take_succ_eq_append_getElem hil] at hy
        rcases List.mem_append.1 hy with hy | hy
        · exact ht y hy
        · rw [List.mem_singleton.1 hy, hxi]; omega)
      refine ⟨g, Ev.step (fun k => by rw [boarderlaw03_Great.l0]) (Ev.pos (by omega) (Ev.pos (by omega) ?_)), hg2⟩
      simp only [hr, ei]
      exact Ev.neg hx hg
theorem great_is (l : List S51) (hl : l.length ≤ 9223372036854775807) : ∃ g, Ev (fun k => boarderlaw03_Great.f k l) g ∧ (g = false → l.length ≤ 100 ∧ ∀ x ∈ l, x.f1.length ≤ 1000) := by
  obtain ⟨g, h1, h2⟩ := great_loop l hl l 0 rfl (by simp)
  exact ⟨g, h1, h2⟩
def knowsB : List Int := [1, 1, 7, 5, 4, 10, 0, 0, 1]
def knowsP : List S51 := [⟨1, [7]⟩, ⟨5, [10, 0, 0, 1]⟩]
theorem knows_parts : parts knowsB = some knowsP := parts_bytesL knowsP (by decide +kernel)
theorem knows_is : Ev (fun k => boarderlaw06_knows.f k) true := by
  have hb : Bytes knowsB := by intro x hx; simp [knowsB] at hx; omega
  have hp : partsA knowsB = (knowsP, 0) := by
    unfold partsA
    rw [if_neg (by decide), knows_parts]
    rfl
  have e1 : Ev (fun k => relay_Parts.f k knowsB) (knowsP, 0) := Ev.eq (parts_is knowsB hb (by decide)) hp
  have e2 : Ev (fun k => relay_Bytes.f k knowsP) (knowsB, 0) := Ev.eq (bytes_is knowsP (by decide) (by intro x hx; simp [knowsP] at hx; rcases hx with rfl | rfl <;> decide)) (by decide +kernel)
  have e3 : Ev (fun k => relay_LinkOf.f k knowsB) (167772161, true) := Ev.eq (linkof_is knowsB hb (by decide)) (by rw [hp]; decide +kernel)
  unfold boarderlaw06_knows.f
  refine Ev.bind (Ev.now _) (Ev.bind e1 (Ev.bind e2 (Ev.bind e3 ?_)))
  exact Ev.pos rfl (Ev.pos rfl (Ev.pos (by decide) (Ev.pos rfl (Ev.pos rfl (Ev.pos rfl (Ev.pos rfl (Ev.now _)))))))
theorem knows_then : Ev (fun k => (boarderlaw06_knows.f k).bind fun t => some t) true := Ev.bind knows_is (Ev.now _)
theorem bytes_of_wf51 {l : List S51} (h : ∀ y ∈ l, wf51 y) : ∀ x ∈ l, Bytes x.f1 := fun x hx => bytes_of_wf (h x hx).2.2
end Go.Proofs.Ytplkgegmbkfncaa.Plain
