/- Options: what opts.Keep and opts.Set come to. -/
import Derived.Test.YtiklcnlehlpdaaaOpsNum
import Derived.Test.YtiklcnlehlpdaaaOpsPut
import Derived.Test.YtiklcnlehlpdaaaPOpsx4
set_option linter.unusedVariables false
set_option linter.unusedSimpArgs false
namespace Go.Proofs.Ytiklcnlehlpdaaa.Plain
open Go.RowKit Go.Proofs.YtiklcnlehlpdaaaW.PrintWords Go.Proofs.YtiklcnlehlpdaaaW.PrintLast Go.Proofs.YtiklcnlehlpdaaaW.PrintMore Go.Proofs.Ytiklcnlehlpdaaa.POps
def others (c : Int) (l : List S70) : List S70 := l.filter fun x => decide (x.f0 ≠ c)
def keepL (l : List S70) (c : Int) (b : List Int) : List S70 := others c l ++ [⟨c, b⟩]
def FairC (c : Int) (b : List Int) : Prop := 1 ≤ c ∧ c ≤ 254 ∧ b.length ≤ 600
instance (c : Int) (b : List Int) : Decidable (FairC c b) := by unfold FairC; exact inferInstance
theorem others_same {c : Int} {x : S70} {r : List S70} (h : x.f0 = c) : others c (x :: r) = others c r := by simp [others, h]
theorem others_more {c : Int} {x : S70} {r : List S70} (h : x.f0 ≠ c) : others c (x :: r) = x :: others c r := by simp [others, h]
theorem keep_loop (l : List S70) (hl : Fit l) (c : Int) (b : List Int) (hb : b.length ≤ 1000000) : ∀ (r : List S70) (i : Nat) (acc : List S70), l.drop i = r → acc.length ≤ i → i ≤ l.length →
    Ev (fun k => opts_Keep.l0 k b acc l (l.length : Int) i c) (acc ++ others c r ++ [⟨c, b⟩], 0) := by
  intro r
  have hlen0 := hl.1
  induction r with
  | nil =>
    intro i acc h ha hi
    have := drop_none h
    refine Ev.step (fun k => by rw [opts_Keep.l0]) (Ev.neg (by omega) ?_)
    exact Ev.bind (Ev.now _) (Ev.pos (by simp; omega) (Ev.pos (by omega) (Ev.const (by simp [others]))))
  | cons x r ih =>
    intro i acc h ha hi
    have hlen := drop_len h
    have hr := rd70_at h
    have hx : x.f1.length ≤ 1000000 := hl.2 x (mem_at h)
    have ei := wi i l.length (by omega) (by omega)
    refine Ev.step (fun k => by rw [opts_Keep.l0]) (Ev.pos (by omega) (Ev.pos (by omega) (Ev.pos (by omega) ?_)))
    simp only [hr, ei]
    by_cases hc : x.f0 = c
    · rw [others_same hc]
      exact Ev.pos hc (ih (i + 1) acc (drop_next h) (by omega) (by omega))
    · rw [others_more hc]
      refine Ev.neg hc (Ev.bind (Ev.now _) (Ev.pos (by simp; omega) (Ev.bind (Ev.now _) (Ev.pos (by simp; omega) ?_))))
      have := ih (i + 1) (acc ++ [x]) (drop_next h) (by simp; omega) (by omega)
      rw [List.append_assoc acc [x]] at this
      exact this
theorem keep_is (l : List S70) (hl : Fit l) (c : Int) (b : List Int) (hb : b.length ≤ 1000000) : Ev (fun k => opts_Keep.f k l c b) (if FairC c b then (keepL l c b, 0) else ([], 1)) := by
  have bad : Ev (fun k => opts_Keep.j0 k l b true c) ([], 1) := Ev.step (fun k => by rw [opts_Keep.j0]) (Ev.pos rfl (Ev.now _))
  unfold opts_Keep.f
  by_cases h1 : c < 1
  · exact Ev.eq (Ev.pos h1 bad) (if_neg (fun h => by have := h.1; omega)).symm
  by_cases h2 : c > 254
  · exact Ev.eq (Ev.neg h1 (Ev.pos h2 bad)) (if_neg (fun h => by have := h.2.1; omega)).symm
  refine Ev.neg h1 (Ev.neg h2 ?_)
  by_cases h3 : (b.length : Int) > 600
  · rw [decide_eq_true h3]
    exact Ev.eq bad (if_neg (fun h => by have := h.2.2; omega)).symm
  · rw [decide_eq_false h3]
    refine Ev.eq ?_ (if_pos ⟨by omega, by omega, by omega⟩).symm
    refine Ev.step (fun k => by rw [opts_Keep.j0]) (Ev.neg (by decide) ?_)
    have := keep_loop l hl c b hb l 0 [] rfl (by simp) (by omega)
    rw [List.nil_append] at this
    exact this
def setR (l : List S70) (c v n : Int) : List S70 × Int := if May v n ∧ 1 ≤ c ∧ c ≤ 254 then (keepL l c (beL n.toNat v), 0) else ([], 1)
theorem set_is (l : List S70) (hl : Fit l) (c v n : Int) (hv : -9223372036854775808 ≤ v ∧ v < 9223372036854775808) : Ev (fun k => opts_Set.f k l c v n) (setR l c v n) := by
  unfold opts_Set.f setR
  by_cases h : May v n
  · obtain ⟨h1, h2, h3, h4⟩ := h
    obtain ⟨m, rfl⟩ := Int.eq_ofNat_of_zero_le (show 0 ≤ n by omega)
    have h4' : v < 256 ^ m := by simpa using h4
    refine Ev.bind (put_ok v m (by omega) (by omega) h3 h4') (Ev.pos rfl (Ev.bind (keep_is l hl c (beL m v) (by rw [beL_length]; omega)) ?_))
    by_cases hc : 1 ≤ c ∧ c ≤ 254
    · rw [if_pos (show FairC c (beL m v) from ⟨hc.1, hc.2, by rw [beL_length]; omega⟩), if_pos ⟨⟨h1, h2, h3, h4⟩, hc⟩]
      exact Ev.now _
    · rw [if_neg (show ¬ FairC c (beL m v) from fun h => hc ⟨h.1, h.2.1⟩), if_neg (fun h => hc h.2)]
      exact Ev.now _
  · rw [if_neg (fun hh => h hh.1)]
    exact Ev.bind (put_no v n hv h) (Ev.neg (by decide) (Ev.now _))
theorem keepL_fit {l : List S70} (hl : Fit l) (h1 : l.length ≤ 1000) (c : Int) {b : List Int} (hb : b.length ≤ 1000000) : Fit (keepL l c b) ∧ (keepL l c b).length ≤ l.length + 1 := by
  have hlen : (others c l).length ≤ l.length := List.length_filter_le _ _
  refine ⟨⟨by simp [keepL]; omega, fun x hx => ?_⟩, by simp [keepL]; omega⟩
  rcases List.mem_append.1 hx with hx | hx
  · exact hl.2 x (List.mem_filter.1 hx).1
  · rw [List.mem_singleton.1 hx]; exact hb
theorem keepL_bytes {l : List S70} (hl : AllBytes l) (c : Int) {b : List Int} (hb : Bytes b) : AllBytes (keepL l c b) := by
  intro x hx
  rcases List.mem_append.1 hx with hx | hx
  · exact hl x (List.mem_filter.1 hx).1
  · rw [List.mem_singleton.1 hx]; exact hb
theorem find_append (c : Int) : ∀ (l m : List S70), find c (l ++ m) = if (find c l).2 then find c l else find c m
  | [], m => by simp [find]
  | x :: r, m => by
    by_cases h : x.f0 = c
    · simp [find, h]
    · simp [find, h, find_append c r m]
theorem find_others (c : Int) : ∀ (l : List S70), find c (others c l) = ([], false)
  | [] => rfl
  | x :: r => by
    by_cases h : x.f0 = c
    · rw [others_same h]; exact find_others c r
    · rw [others_more h]; simp [find, h, find_others c r]
theorem find_others_ne {c d : Int} (hd : d ≠ c) : ∀ (l : List S70), find d (others c l) = find d l
  | [] => rfl
  | x :: r => by
    by_cases h : x.f0 = c
    · rw [others_same h, find_others_ne hd r]
      have : x.f0 ≠ d := fun e => hd (e.symm.trans h)
      simp [find, this]
    · rw [others_more h]
      by_cases h2 : x.f0 = d
      · simp [find, h2]
      · simp [find, h2, find_others_ne hd r]
theorem find_keep (l : List S70) (c : Int) (b : List Int) : find c (keepL l c b) = (b, true) := by
  unfold keepL
  rw [find_append, find_others]
  simp [find]
theorem find_keep_ne {c d : Int} (hd : d ≠ c) (l : List S70) (b : List Int) : find d (keepL l c b) = find d l := by
  unfold keepL
  rw [find_append, find_others_ne hd]
  rcases find_cases d l with e | ⟨x, _, e, _⟩
  · rw [e]; simp [find, Ne.symm hd]
  · rw [e]; simp
end Go.Proofs.Ytiklcnlehlpdaaa.Plain
