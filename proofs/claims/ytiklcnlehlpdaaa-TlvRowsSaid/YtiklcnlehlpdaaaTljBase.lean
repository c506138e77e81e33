/- Options: which are right, how they are joined, written and read: plain lists, no program. -/
import Derived.Test.YtiklcnlehlpdaaaTljFind
set_option linter.unusedVariables false
set_option linter.unusedSimpArgs false
namespace Go.Proofs.Ytiklcnlehlpdaaa.Plain
open Go.RowKit Go.Proofs.YtiklcnlehlpdaaaW.PrintWords Go.Proofs.YtiklcnlehlpdaaaW.PrintLast Go.Proofs.YtiklcnlehlpdaaaW.PrintMore Go.Proofs.Ytiklcnlehlpdaaa.PTlj
def has (c : Int) : List S70 → Nat
  | [] => 0
  | x :: r => if x.f0 = c then has c r + 1 else has c r
theorem has_same {c : Int} {x : S70} {r : List S70} (h : x.f0 = c) : has c (x :: r) = has c r + 1 := by simp [has, h]
theorem has_more {c : Int} {x : S70} {r : List S70} (h : x.f0 ≠ c) : has c (x :: r) = has c r := by simp [has, h]
theorem has_append (c : Int) : ∀ l m : List S70, has c (l ++ m) = has c l + has c m
  | [], m => by simp [has]
  | x :: r, m => by
    have := has_append c r m
    by_cases h : x.f0 = c
    · simp [has, h]; omega
    · simp [has, h]; omega
theorem has_mem {c : Int} {x : S70} : ∀ {l : List S70}, x ∈ l → x.f0 = c → 0 < has c l
  | [], h, _ => by cases h
  | y :: r, h, hx => by
    by_cases hy : y.f0 = c
    · rw [has_same hy]; omega
    · rw [has_more hy]
      rcases List.mem_cons.1 h with rfl | h
      · exact absurd hx hy
      · exact has_mem h hx
theorem has_le (c : Int) : ∀ l : List S70, has c l ≤ l.length
  | [] => Nat.le_refl _
  | x :: r => by
    have := has_le c r
    by_cases h : x.f0 = c
    · rw [has_same h]; simp; omega
    · rw [has_more h]; simp; omega
def OkX (x : S70) : Prop := 1 ≤ x.f0 ∧ x.f0 ≤ 254 ∧ x.f1.length ≤ 600
instance (x : S70) : Decidable (OkX x) := by unfold OkX; exact inferInstance
def Right3 (l : List S70) : Prop := l.length ≤ 60 ∧ ∀ x ∈ l, OkX x ∧ has x.f0 l ≤ 1
instance (l : List S70) : Decidable (Right3 l) := by unfold Right3; exact inferInstance
theorem Right3.fit {l : List S70} (h : Right3 l) : Fit l := ⟨by have := h.1; omega, fun x hx => by have := (h.2 x hx).1.2.2; omega⟩
theorem Right3.nil : Right3 [] := ⟨by decide, fun x hx => by cases hx⟩

/-! ### joined -/
def joinL (c : Int) (d : List Int) : List S70 → List S70
  | [] => [⟨c, d⟩]
  | x :: r => if x.f0 = c then ⟨x.f0, x.f1 ++ d⟩ :: r else x :: joinL c d r
theorem joinL_same {c : Int} {d : List Int} {x : S70} {r : List S70} (h : x.f0 = c) : joinL c d (x :: r) = ⟨x.f0, x.f1 ++ d⟩ :: r := by simp [joinL, h]
theorem joinL_more {c : Int} {d : List Int} {x : S70} {r : List S70} (h : x.f0 ≠ c) : joinL c d (x :: r) = x :: joinL c d r := by simp [joinL, h]
theorem joinL_length (c : Int) (d : List Int) : ∀ l : List S70, l.length ≤ (joinL c d l).length ∧ (joinL c d l).length ≤ l.length + 1
  | [] => by simp [joinL]
  | x :: r => by
    have := joinL_length c d r
    by_cases h : x.f0 = c
    · rw [joinL_same h]; simp
    · rw [joinL_more h]; simp; omega
theorem joinL_mem (c : Int) (d : List Int) : ∀ (l : List S70) (y : S70), y ∈ joinL c d l → y ∈ l ∨ (y.f0 = c ∧ (y.f1 = d ∨ ∃ x ∈ l, y.f1 = x.f1 ++ d))
  | [], y, h => by
    simp [joinL] at h
    rw [h]; exact Or.inr ⟨rfl, Or.inl rfl⟩
  | x :: r, y, h => by
    by_cases hx : x.f0 = c
    · rw [joinL_same hx] at h
      rcases List.mem_cons.1 h with rfl | h
      · exact Or.inr ⟨hx, Or.inr ⟨x, by simp, rfl⟩⟩
      · exact Or.inl (by simp [h])
    · rw [joinL_more hx] at h
      rcases List.mem_cons.1 h with rfl | h
      · exact Or.inl (by simp)
      · rcases joinL_mem c d r y h with h | ⟨h1, h2⟩
        · exact Or.inl (by simp [h])
        · refine Or.inr ⟨h1, ?_⟩
          rcases h2 with h2 | ⟨z, hz, h2⟩
          · exact Or.inl h2
          · exact Or.inr ⟨z, by simp [hz], h2⟩
/-- Each elder option is still there, its bytes at least as many. -/
theorem joinL_keeps (c : Int) (d : List Int) : ∀ (l : List S70) (x : S70), x ∈ l → ∃ y ∈ joinL c d l, y.f0 = x.f0 ∧ x.f1.length ≤ y.f1.length
  | [], x, h => by cases h
  | z :: r, x, h => by
    by_cases hz : z.f0 = c
    · rw [joinL_same hz]
      rcases List.mem_cons.1 h with rfl | h
      · exact ⟨⟨x.f0, x.f1 ++ d⟩, List.mem_cons_self, rfl, by simp⟩
      · exact ⟨x, by simp [h], rfl, Nat.le_refl _⟩
    · rw [joinL_more hz]
      rcases List.mem_cons.1 h with rfl | h
      · exact ⟨x, by simp, rfl, Nat.le_refl _⟩
      · obtain ⟨y, h1, h2⟩ := joinL_keeps c d r x h
        exact ⟨y, by simp [h1], h2⟩
theorem has_joinL (c : Int) (d : List Int) (e : Int) : ∀ l : List S70, has e (joinL c d l) = if e = c then max 1 (has c l) else has e l
  | [] => by
    by_cases h : e = c
    · subst h; simp [joinL, has]
    · simp [joinL, has, h, Ne.symm h]
  | x :: r => by
    have ih := has_joinL c d e r
    by_cases hx : x.f0 = c
    · rw [joinL_same hx]
      by_cases h : e = c
      · subst h
        rw [if_pos rfl, has_same hx, has_same (x := ⟨x.f0, x.f1 ++ d⟩) hx]; omega
      · rw [if_neg h]
        by_cases hxe : x.f0 = e
        · exact absurd (hxe.symm.trans hx) h
        · rw [has_more hxe, has_more (x := ⟨x.f0, x.f1 ++ d⟩) hxe]
    · rw [joinL_more hx]
      by_cases h : e = c
      · subst h
        rw [if_pos rfl] at ih ⊢
        rw [has_more hx, has_more hx, ih]
      · rw [if_neg h] at ih ⊢
        by_cases hxe : x.f0 = e
        · rw [has_same hxe, has_same hxe, ih]
        · rw [has_more hxe, has_more hxe, ih]
def Once (l : List S70) : Prop := ∀ e, has e l ≤ 1
theorem once_of {l : List S70} (h : ∀ x ∈ l, has x.f0 l ≤ 1) : Once l := by
  intro e
  rcases Nat.eq_zero_or_pos (has e l) with h0 | hp
  · omega
  · have : ∃ x ∈ l, x.f0 = e := by
      clear h
      induction l with
      | nil => simp [has] at hp
      | cons x r ih =>
        by_cases hx : x.f0 = e
        · exact ⟨x, by simp, hx⟩
        · rw [has_more hx] at hp
          obtain ⟨y, h1, h2⟩ := ih hp
          exact ⟨y, by simp [h1], h2⟩
    obtain ⟨x, h1, rfl⟩ := this
    exact h x h1
theorem Right3.once {l : List S70} (h : Right3 l) : Once l := once_of fun x hx => (h.2 x hx).2
theorem Once.join {l : List S70} (h : Once l) (c : Int) (d : List Int) : Once (joinL c d l) := by
  intro e
  rw [has_joinL]
  have := h e
  have := h c
  split <;> omega
/-- What is not right does not become right by more. -/
theorem right_less {l : List S70} {c : Int} {d : List Int} (h : Right3 (joinL c d l)) : Right3 l := by
  have hl := joinL_length c d l
  refine ⟨by have := h.1; omega, fun x hx => ?_⟩
  obtain ⟨y, hy, e1, e2⟩ := joinL_keeps c d l x hx
  obtain ⟨⟨h1, h2, h3⟩, h4⟩ := h.2 y hy
  refine ⟨⟨by omega, by omega, by omega⟩, ?_⟩
  rw [e1, has_joinL] at h4
  split at h4
  · rename_i hc; rw [hc]; omega
  · exact h4
theorem join_join (c : Int) (d e : List Int) : ∀ l : List S70, joinL c e (joinL c d l) = joinL c (d ++ e) l
  | [] => by simp [joinL]
  | x :: r => by
    by_cases h : x.f0 = c
    · rw [joinL_same h, joinL_same h, joinL_same (x := ⟨x.f0, x.f1 ++ d⟩) h, List.append_assoc]
    · rw [joinL_more h, joinL_more h, joinL_more h, join_join c d e r]
theorem join_new {c : Int} {d : List Int} : ∀ {l : List S70}, has c l = 0 → joinL c d l = l ++ [⟨c, d⟩]
  | [], _ => rfl
  | x :: r, h => by
    by_cases hx : x.f0 = c
    · rw [has_same hx] at h; omega
    · rw [has_more hx] at h
      rw [joinL_more hx, join_new h]; rfl
theorem join_set {c : Int} {d : List Int} : ∀ {l : List S70} (i : Nat) (x : S70), l[i]? = some x → x.f0 = c → (∀ j y, j < i → l[j]? = some y → y.f0 ≠ c) → joinL c d l = l.set i ⟨x.f0, x.f1 ++ d⟩
  | [], i, x, h, _, _ => by simp at h
  | z :: r, 0, x, h, hx, _ => by
    have hz : z = x := by simpa using h
    subst hz
    rw [joinL_same hx]; rfl
  | z :: r, i + 1, x, h, hx, hn => by
    have hz : z.f0 ≠ c := hn 0 z (by omega) rfl
    rw [joinL_more hz, join_set i x (by simpa using h) hx (fun j y hj hy => hn (j + 1) y (by omega) (by simpa using hy))]
    rfl
def joins (out : List S70) (l : List S70) : List S70 := l.foldl (fun o x => joinL x.f0 x.f1 o) out
theorem joins_cons (out : List S70) (x : S70) (l : List S70) : joins out (x :: l) = joins (joinL x.f0 x.f1 out) l := rfl
theorem Once.joins : ∀ (l : List S70) {out : List S70}, Once out → Once (joins out l)
  | [], _, h => h
  | x :: r, _, h => Once.joins r (h.join x.f0 x.f1)
theorem right_joins : ∀ (l : List S70) {out : List S70}, Right3 (joins out l) → Right3 out
  | [], _, h => h
  | x :: r, _, h => right_less (right_joins r h)
theorem joins_new : ∀ (l : List S70) (out : List S70), Once (out ++ l) → joins out l = out ++ l
  | [], out, _ => by simp [joins]
  | x :: r, out, h => by
    have h0 : has x.f0 out = 0 := by
      have := h x.f0
      rw [has_append, has_same rfl] at this
      omega
    rw [joins_cons, join_new h0]
    have e : out ++ [⟨x.f0, x.f1⟩] ++ r = out ++ x :: r := by simp
    rw [joins_new r _ (by rw [e]; exact h), e]
theorem joins_self {l : List S70} (h : Once l) : joins [] l = l := joins_new l [] h

/-! ### read -/
def readF : Nat → List Int → List S70 → List S70 × Int
  | 0, _, out => (out, 0)
  | n + 1, [], out => (out, 0)
  | n + 1, b :: r, out => if b = 255 then (out, 0) else if b = 0 then readF n r out else
      match r with
      | [] => ([], 2)
      | m :: r2 => if r2.length < m.toNat then ([], 2) else if Right3 (joinL b (r2.take m.toNat) out) then readF n (r2.drop m.toNat) (joinL b (r2.take m.toNat) out) else ([], 3)
theorem readF_more : ∀ (n m : Nat) (l : List Int) (out : List S70), l.length ≤ n → l.length ≤ m → readF n l out = readF m l out
  | 0, 0, l, out, _, _ => rfl
  | 0, m + 1, l, out, h, _ => by
    rw [List.eq_nil_of_length_eq_zero (by omega : l.length = 0)]; rfl
  | n + 1, 0, l, out, _, h => by
    rw [List.eq_nil_of_length_eq_zero (by omega : l.length = 0)]; rfl
  | n + 1, m + 1, [], out, _, _ => rfl
  | n + 1, m + 1, b :: r, out, h1, h2 => by
    simp at h1 h2
    unfold readF
    split
    · rfl
    · split
      · exact readF_more n m r out h1 h2
      · cases r with
        | nil => rfl
        | cons q r2 =>
          simp at h1 h2
          simp only []
          split
          · rfl
          · split
            · exact readF_more n m _ _ (by simp; omega) (by simp; omega)
            · rfl
def readA (l : List Int) (out : List S70) : List S70 × Int := readF l.length l out
theorem readA_nil (out : List S70) : readA [] out = (out, 0) := rfl
theorem readA_end (r : List Int) (out : List S70) : readA (255 :: r) out = (out, 0) := by
  show readF (r.length + 1) (255 :: r) out = _
  unfold readF
  rw [if_pos rfl]
theorem readA_pad (r : List Int) (out : List S70) : readA (0 :: r) out = readA r out := by
  show readF (r.length + 1) (0 :: r) out = _
  unfold readF
  rw [if_neg (by decide), if_pos rfl]
  rfl
theorem readA_one {b : Int} (h0 : b ≠ 0) (h1 : b ≠ 255) (out : List S70) : readA [b] out = ([], 2) := by
  show readF 1 [b] out = _
  unfold readF
  rw [if_neg h1, if_neg h0]
theorem readA_opt {b : Int} (h0 : b ≠ 0) (h1 : b ≠ 255) (m : Int) (r : List Int) (out : List S70) : readA (b :: m :: r) out =
    if r.length < m.toNat then ([], 2) else if Right3 (joinL b (r.take m.toNat) out) then readA (r.drop m.toNat) (joinL b (r.take m.toNat) out) else ([], 3) := by
  show readF (r.length + 1 + 1) (b :: m :: r) out = _
  rw [readF]
  rw [if_neg h1, if_neg h0]
  split
  · rfl
  · split
    · exact readF_more _ _ _ _ (by simp; omega) (Nat.le_refl _)
    · rfl
theorem readA_pads : ∀ (n : Nat) (r : List Int) (out : List S70), readA (List.replicate n 0 ++ r) out = readA r out
  | 0, r, out => rfl
  | n + 1, r, out => by
    rw [List.replicate_succ, List.cons_append, readA_pad, readA_pads n r out]

/-! ### written -/
def oneF : Nat → Int → List Int → List Int
  | 0, c, d => c :: (d.length : Int) :: d
  | n + 1, c, d => if d.length > 255 then c :: 255 :: (d.take 255 ++ oneF n c (d.drop 255)) else c :: (d.length : Int) :: d
theorem oneF_short {n : Nat} {c : Int} {d : List Int} (h : d.length ≤ 255) : oneF n c d = c :: (d.length : Int) :: d := by
  cases n with
  | zero => rfl
  | succ n => rw [oneF, if_neg (by omega)]
theorem oneF_length : ∀ (n : Nat) (c : Int) (d : List Int), (oneF n c d).length ≤ d.length + 2 * (n + 1)
  | 0, c, d => by simp [oneF]
  | n + 1, c, d => by
    rw [oneF]
    split
    · have := oneF_length n c (d.drop 255)
      simp at this ⊢
      omega
    · simp
      omega
theorem oneF_bytes : ∀ (n : Nat) (c : Int) (d : List Int), d.length ≤ 255 * (n + 1) → 0 ≤ c ∧ c < 256 → Bytes d → Bytes (oneF n c d)
  | 0, c, d, hl, hc, hd => by
    rw [oneF]
    exact Bytes.cons hc (Bytes.cons ⟨by omega, by omega⟩ hd)
  | n + 1, c, d, hl, hc, hd => by
    rw [oneF]
    split
    · exact Bytes.cons hc (Bytes.cons (by decide) ((hd.take 255).append (oneF_bytes n c _ (by simp; omega) hc (hd.drop 255))))
    · exact Bytes.cons hc (Bytes.cons ⟨by omega, by omega⟩ hd)
def flatL : List S70 → List Int
  | [] => []
  | x :: r => oneF 3 (x.f0 % 256) x.f1 ++ flatL r
theorem flatL_length : ∀ l : List S70, (∀ x ∈ l, x.f1.length ≤ 600) → (flatL l).length ≤ 608 * l.length
  | [], _ => Nat.le_refl _
  | x :: r, h => by
    have h1 := flatL_length r (fun y hy => h y (by simp [hy]))
    have h2 := oneF_length 3 (x.f0 % 256) x.f1
    have h3 := h x (by simp)
    simp [flatL]
    omega
theorem flatL_bytes : ∀ l : List S70, (∀ x ∈ l, x.f1.length ≤ 600) → AllBytes l → Bytes (flatL l)
  | [], _, _ => Bytes.nil
  | x :: r, h, hb => (oneF_bytes 3 _ _ (by have := h x (by simp); omega) (by omega) (hb x (by simp))).append (flatL_bytes r (fun y hy => h y (by simp [hy])) (fun y hy => hb y (by simp [hy])))
/-- One option, in as many parts as it takes. -/
theorem read_one {c : Int} (h0 : c ≠ 0) (h1 : c ≠ 255) (rest : List Int) : ∀ (n : Nat) (d : List Int) (out : List S70), d.length ≤ 255 * (n + 1) →
    readA (oneF n c d ++ rest) out = if Right3 (joinL c d out) then readA rest (joinL c d out) else ([], 3) := by
  have short : ∀ (n : Nat) (d : List Int) (out : List S70), d.length ≤ 255 → readA (oneF n c d ++ rest) out = if Right3 (joinL c d out) then readA rest (joinL c d out) else ([], 3) := by
    intro n d out hd
    rw [oneF_short hd, List.cons_append, List.cons_append, readA_opt h0 h1]
    rw [if_neg (by simp)]
    rw [Int.toNat_natCast, List.take_left' rfl, List.drop_left' rfl]
  intro n
  induction n with
  | zero => intro d out hd; exact short 0 d out (by omega)
  | succ n ih =>
    intro d out hd
    by_cases hl : d.length ≤ 255
    · exact short (n + 1) d out hl
    · have ht : (d.take 255).length = 255 := by simp; omega
      rw [oneF, if_pos (by omega), List.cons_append, List.cons_append, List.append_assoc, readA_opt h0 h1]
      rw [if_neg (by simp; omega)]
      have e1 : (d.take 255 ++ (oneF n c (d.drop 255) ++ rest)).take (255 : Int).toNat = d.take 255 := List.take_left' ht
      have e2 : (d.take 255 ++ (oneF n c (d.drop 255) ++ rest)).drop (255 : Int).toNat = oneF n c (d.drop 255) ++ rest := List.drop_left' ht
      rw [e1, e2]
      have e3 : joinL c (d.drop 255) (joinL c (d.take 255) out) = joinL c d out := by rw [join_join, List.take_append_drop]
      by_cases hr : Right3 (joinL c (d.take 255) out)
      · rw [if_pos hr, ih (d.drop 255) _ (by simp; omega), e3]
      · rw [if_neg hr, if_neg (fun h => hr (by rw [← e3] at h; exact right_less h))]
theorem read_flat (rest : List Int) : ∀ (l : List S70) (out : List S70), (∀ x ∈ l, OkX x) → Right3 out →
    readA (flatL l ++ rest) out = if Right3 (joins out l) then readA rest (joins out l) else ([], 3)
  | [], out, _, h => by
    show readA ([] ++ rest) out = if Right3 out then readA rest out else ([], 3)
    rw [if_pos h]; rfl
  | x :: r, out, hx, h => by
    obtain ⟨h1, h2, h3⟩ := hx x (by simp)
    have hc : x.f0 % 256 = x.f0 := by omega
    rw [flatL, List.append_assoc, hc, read_one (by omega) (by omega) _ 3 _ _ (by omega), joins_cons]
    by_cases hr : Right3 (joinL x.f0 x.f1 out)
    · rw [if_pos hr]
      exact read_flat rest r _ (fun y hy => hx y (by simp [hy])) hr
    · rw [if_neg hr, if_neg (fun hh => hr (right_joins r hh))]
def writeL (l : List S70) : List Int := flatL l ++ [255]
theorem read_write {l : List S70} (h : Right3 l) (rest : List Int) : readA (writeL l ++ rest) [] = (l, 0) := by
  unfold writeL
  rw [List.append_assoc, read_flat _ l [] (fun x hx => (h.2 x hx).1) Right3.nil, joins_self h.once, if_pos h]
  exact readA_end _ _
/-- What is read is right, if it is told; it is nothing, if the error is. -/
theorem readF_right : ∀ (n : Nat) (l : List Int) (out : List S70), Right3 out → AllBytes out → Bytes l → (((readF n l out).2 = 0 ∧ Right3 (readF n l out).1 ∧ AllBytes (readF n l out).1) ∨ ((readF n l out).2 ≠ 0 ∧ (readF n l out).1 = []))
  | 0, l, out, h, ho, hb => Or.inl ⟨rfl, h, ho⟩
  | n + 1, [], out, h, ho, hb => Or.inl ⟨rfl, h, ho⟩
  | n + 1, b :: r, out, h, ho, hb => by
    have hbr : Bytes r := fun x hx => hb x (by simp [hx])
    unfold readF
    split
    · exact Or.inl ⟨rfl, h, ho⟩
    · split
      · exact readF_right n r out h ho hbr
      · cases r with
        | nil => exact Or.inr ⟨by simp, rfl⟩
        | cons q r2 =>
          simp only []
          have hr2 : Bytes r2 := fun x hx => hbr x (by simp [hx])
          split
          · exact Or.inr ⟨by simp, rfl⟩
          · split
            · rename_i hr
              refine readF_right n _ _ hr (fun y hy => ?_) (hr2.drop _)
              rcases joinL_mem _ _ _ _ hy with hy | ⟨_, hy | ⟨z, hz, hy⟩⟩
              · exact ho y hy
              · rw [hy]; exact hr2.take _
              · rw [hy]; exact (ho z hz).append (hr2.take _)
            · exact Or.inr ⟨by simp, rfl⟩
theorem readA_right (l : List Int) (hb : Bytes l) : (((readA l []).2 = 0 ∧ Right3 (readA l []).1 ∧ AllBytes (readA l []).1) ∨ ((readA l []).2 ≠ 0 ∧ (readA l []).1 = [])) :=
  readF_right _ l [] Right3.nil (fun x hx => by cases hx) hb
end Go.Proofs.Ytiklcnlehlpdaaa.Plain
