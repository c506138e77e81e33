/- Options: what the reference's Joined and Read come to. -/
import Derived.Test.YtiklcnlehlpdaaaTlvProg
import Derived.Test.YtiklcnlehlpdaaaPTlvx9
set_option linter.unusedVariables false
set_option linter.unusedSimpArgs false
namespace Go.Proofs.Ytiklcnlehlpdaaa.Plain
open Go.RowKit Go.Proofs.YtiklcnlehlpdaaaW.PrintWords Go.Proofs.YtiklcnlehlpdaaaW.PrintLast Go.Proofs.YtiklcnlehlpdaaaW.PrintMore Go.Proofs.Ytiklcnlehlpdaaa.PTlv
/-- Every option of the code is lengthened. -/
def longer (c : Int) (d : List Int) : List S70 → List S70
  | [] => []
  | x :: r => if x.f0 = c then ⟨x.f0, x.f1 ++ d⟩ :: longer c d r else x :: longer c d r
theorem longer_same {c : Int} {d : List Int} {x : S70} {r : List S70} (h : x.f0 = c) : longer c d (x :: r) = ⟨x.f0, x.f1 ++ d⟩ :: longer c d r := by simp [longer, h]
theorem longer_more {c : Int} {d : List Int} {x : S70} {r : List S70} (h : x.f0 ≠ c) : longer c d (x :: r) = x :: longer c d r := by simp [longer, h]
theorem longer_none {c : Int} {d : List Int} : ∀ {l : List S70}, has c l = 0 → longer c d l = l
  | [], _ => rfl
  | x :: r, h => by
    by_cases hx : x.f0 = c
    · rw [has_same hx] at h; omega
    · rw [has_more hx] at h
      rw [longer_more hx, longer_none h]
theorem longer_joinL {c : Int} {d : List Int} : ∀ {l : List S70}, has c l = 1 → longer c d l = joinL c d l
  | [], h => by simp [has] at h
  | x :: r, h => by
    by_cases hx : x.f0 = c
    · rw [has_same hx] at h
      rw [longer_same hx, joinL_same hx, longer_none (by omega)]
    · rw [has_more hx] at h
      rw [longer_more hx, joinL_more hx, longer_joinL h]
theorem joined_loop (l : List S70) (hl : Fit l) (c : Int) (d : List Int) (hd : d.length ≤ 1000000) : ∀ (r : List S70) (i : Nat) (acc : List S70), l.drop i = r → acc.length = i → i ≤ l.length →
    Ev (fun k => boarderref03_Joined.l0 k l c d acc i) (if has c l = 0 then acc ++ longer c d r ++ [⟨c, d⟩] else acc ++ longer c d r) := by
  intro r
  have hlm := hl.1
  induction r with
  | nil =>
    intro i acc h ha hi
    have := drop_none h
    refine Ev.step (fun k => by rw [boarderref03_Joined.l0]) (Ev.neg (by omega) (Ev.bind (has_is l (by omega) c) ?_))
    have e : acc ++ longer c d [] = acc := by simp [longer]
    rw [e]
    by_cases h0 : has c l = 0
    · refine Ev.eq ?_ (if_pos h0).symm
      exact Ev.pos (by omega) (Ev.pos (by omega) (Ev.now _))
    · refine Ev.eq ?_ (if_neg h0).symm
      exact Ev.neg (by omega) (Ev.now _)
  | cons x r ih =>
    intro i acc h ha hi
    have hlen := drop_len h
    have hr := rd70_at h
    have hx := hl.2 x (mem_at h)
    have ei := wi i l.length (by omega) (by omega)
    refine Ev.step (fun k => by rw [boarderref03_Joined.l0]) (Ev.pos (by omega) (Ev.pos (by omega) ?_))
    simp only [hr, ei]
    by_cases hc : x.f0 = c
    · rw [longer_same hc]
      refine Ev.pos hc (Ev.bind (Ev.now _) (Ev.pos (by simp; omega) ?_))
      rw [List.nil_append]
      refine Ev.bind (Ev.now _) (Ev.pos (by omega) (Ev.pos (by omega) ?_))
      refine Ev.eq (ih (i + 1) (acc ++ [⟨x.f0, x.f1 ++ d⟩]) (drop_next h) (by simp [ha]) (by omega)) ?_
      simp
    · rw [longer_more hc]
      refine Ev.neg hc (Ev.pos (by omega) ?_)
      refine Ev.eq (ih (i + 1) (acc ++ [x]) (drop_next h) (by simp [ha]) (by omega)) ?_
      simp
theorem joined_is (l : List S70) (hl : Fit l) (ho : Once l) (c : Int) (d : List Int) (hd : d.length ≤ 1000000) : Ev (fun k => boarderref03_Joined.f k l c d) (joinL c d l) := by
  unfold boarderref03_Joined.f
  refine Ev.eq (joined_loop l hl c d hd l 0 [] rfl rfl (by omega)) ?_
  rw [List.nil_append]
  by_cases h : has c l = 0
  · rw [if_pos h, longer_none h, join_new h]
  · have := ho c
    rw [if_neg h, longer_joinL (by omega)]
theorem wi2 (i : Nat) (h : i ≤ 100000) : wrap64 ((i : Int) + 2) = ((i + 2 : Nat) : Int) := by rw [w64 (by omega) (by omega)]; rfl
theorem wi3 (i : Nat) (m : Int) (h : i ≤ 100000) (h0 : 0 ≤ m) (h1 : m ≤ 1000) : wrap64 (((i + 2 : Nat) : Int) + m) = ((i + 2 + m.toNat : Nat) : Int) := by rw [w64 (by omega) (by omega)]; omega
/-- The second test of an option, and what follows it. -/
theorem rread_two (l : List Int) (hl : l.length ≤ 100000) (i : Nat) (b m : Int) (r2 : List Int) (out : List S70) (h : l.drop i = b :: m :: r2) (hbb : 0 ≤ b ∧ b ≤ 255) (hm : 0 ≤ m ∧ m ≤ 255) (hs : ¬ r2.length < m.toNat) (ho : Right3 out)
    (next : Right3 (joinL b (r2.take m.toNat) out) → Ev (fun k => boarderref03_Read.l0 k l (joinL b (r2.take m.toNat) out) ((i + 2 + m.toNat : Nat) : Int)) (readA (r2.drop m.toNat) (joinL b (r2.take m.toNat) out))) :
    Ev (fun k => boarderref03_Read.j2 k l out i false) (if Right3 (joinL b (r2.take m.toNat) out) then readA (r2.drop m.toNat) (joinL b (r2.take m.toNat) out) else ([], 3)) := by
  have h1 := drop_next h
  have hlen2 := drop_len h1
  have hr := rd_at h
  have hr1 := rd_at h1
  have h2 := drop_next h1
  have ei := wi i l.length (by omega) (by omega)
  have ei2 := wi2 i (by omega)
  have ew : wrap64 m = m := w64 (by omega) (by omega)
  have ew2 := wi3 i m (by omega) hm.1 (by omega)
  have eb : wrap64 b = b := w64 (by omega) (by omega)
  have et : (l.take (i + 2 + m.toNat)).drop (i + 2) = r2.take m.toNat := by
    rw [List.drop_take, h2, Nat.add_sub_cancel_left]
  have hdl : (r2.take m.toNat).length ≤ 100000 := by simp; omega
  refine Ev.step (fun k => by rw [boarderref03_Read.j2]) ?_
  simp only [ei, ei2, hr, hr1, ew, ew2, eb, Int.toNat_natCast, et]
  refine Ev.neg (by decide) (Ev.pos (by omega) (Ev.pos (by omega) (Ev.pos (by omega) (Ev.pos (by omega) (Ev.pos (by omega) (Ev.pos (by omega) (Ev.pos (by omega) ?_)))))))
  refine Ev.bind (joined_is out ho.fit ho.once b _ (by omega)) (Ev.bind (rright_is _ (by have := (joinL_fit ho b hdl).2; omega)) ?_)
  by_cases hj : Right3 (joinL b (r2.take m.toNat) out)
  · rw [if_pos hj]
    exact Ev.pos (decide_eq_true hj) (next hj)
  · rw [if_neg hj]
    exact Ev.neg (by simp [hj]) (Ev.now _)
theorem rread_opt (l : List Int) (hl : l.length ≤ 100000) (i : Nat) (b m : Int) (r2 : List Int) (out : List S70) (h : l.drop i = b :: m :: r2) (h0 : b ≠ 0) (h255 : b ≠ 255) (hbb : 0 ≤ b ∧ b ≤ 255) (hm : 0 ≤ m ∧ m ≤ 255) (ho : Right3 out)
    (next : ¬ r2.length < m.toNat → Right3 (joinL b (r2.take m.toNat) out) → Ev (fun k => boarderref03_Read.l0 k l (joinL b (r2.take m.toNat) out) ((i + 2 + m.toNat : Nat) : Int)) (readA (r2.drop m.toNat) (joinL b (r2.take m.toNat) out))) :
    Ev (fun k => boarderref03_Read.j1 k l out i true) (readA (b :: m :: r2) out) := by
  have h1 := drop_next h
  have hlen2 := drop_len h1
  have hr := rd_at h
  have hr1 := rd_at h1
  have ei := wi i l.length (by omega) (by omega)
  have ei2 := wi2 i (by omega)
  have ew : wrap64 m = m := w64 (by omega) (by omega)
  have ew2 := wi3 i m (by omega) hm.1 (by omega)
  refine Ev.step (fun k => by rw [boarderref03_Read.j1]) (Ev.pos rfl (Ev.pos (by omega) (Ev.pos (by omega) ?_)))
  simp only [hr, ei]
  refine Ev.neg h0 (Ev.neg (by omega) (Ev.pos (by omega) (Ev.pos (by omega) ?_)))
  simp only [ei2, hr1, ew, ew2]
  rw [readA_opt h0 h255]
  by_cases hs : r2.length < m.toNat
  · rw [if_pos hs, decide_eq_true (by omega : ((i + 2 + m.toNat : Nat) : Int) > (l.length : Int))]
    refine Ev.step (fun k => by rw [boarderref03_Read.j2]) ?_
    exact Ev.pos rfl (Ev.now _)
  · rw [if_neg hs, decide_eq_false (by omega : ¬ ((i + 2 + m.toNat : Nat) : Int) > (l.length : Int))]
    exact rread_two l hl i b m r2 out h hbb hm hs ho (next hs)
theorem rread_loop (l : List Int) (hl : l.length ≤ 100000) (hb : Bytes l) : ∀ (n i : Nat) (r : List Int) (out : List S70), l.drop i = r → i ≤ l.length → l.length ≤ i + n → Right3 out → Ev (fun k => boarderref03_Read.l0 k l out i) (readA r out) := by
  intro n
  have done : ∀ (i : Nat) (out : List S70), l.length ≤ i → Ev (fun k => boarderref03_Read.l0 k l out i) (out, 0) := by
    intro i out h
    refine Ev.step (fun k => by rw [boarderref03_Read.l0]) (Ev.neg (by omega) ?_)
    refine Ev.step (fun k => by rw [boarderref03_Read.j1]) ?_
    exact Ev.neg (by decide) (Ev.now _)
  induction n with
  | zero =>
    intro i r out h hi hn ho
    have : r = [] := by rw [← h]; exact List.drop_of_length_le (by omega)
    subst this
    exact done i out (by omega)
  | succ n ih =>
    intro i r out h hi hn ho
    cases r with
    | nil => exact done i out (drop_none h)
    | cons b r =>
      have hlen := drop_len h
      have hr := rd_at h
      have hbr : Bytes r := fun x hx => hb x (List.mem_of_mem_drop (h ▸ List.mem_cons_of_mem b hx : x ∈ l.drop i))
      have hbb := hb b (mem_at h)
      have ei := wi i l.length (by omega) (by omega)
      refine Ev.step (fun k => by rw [boarderref03_Read.l0]) (Ev.pos (by omega) (Ev.pos (by omega) ?_))
      rw [hr]
      by_cases h255 : b = 255
      · subst h255
        rw [readA_end]
        refine Ev.step (fun k => by rw [boarderref03_Read.j1]) ?_
        exact Ev.neg (by decide) (Ev.now _)
      rw [show (b != 255) = true from bne_iff_ne.mpr h255]
      have h1 := drop_next h
      by_cases h0 : b = 0
      · subst h0
        rw [readA_pad]
        refine Ev.step (fun k => by rw [boarderref03_Read.j1]) (Ev.pos rfl (Ev.pos (by omega) (Ev.pos (by omega) ?_)))
        simp only [hr, ei]
        exact Ev.pos (by trivial) (ih (i + 1) r out h1 (by omega) (by omega) ho)
      cases r with
      | nil =>
        simp at hlen
        rw [readA_one h0 h255]
        refine Ev.step (fun k => by rw [boarderref03_Read.j1]) (Ev.pos rfl (Ev.pos (by omega) (Ev.pos (by omega) ?_)))
        simp only [hr, ei]
        refine Ev.neg h0 (Ev.pos (by omega) ?_)
        refine Ev.step (fun k => by rw [boarderref03_Read.j2]) ?_
        exact Ev.pos rfl (Ev.now _)
      | cons m r2 =>
        have hm := hbr m (by simp)
        simp at hlen
        refine rread_opt l hl i b m r2 out h h0 h255 ⟨hbb.1, by omega⟩ ⟨hm.1, by omega⟩ ho (fun hs hj => ?_)
        have ed : l.drop (i + 2 + m.toNat) = r2.drop m.toNat := by rw [drop_more l (i + 2), drop_next h1]
        exact ih (i + 2 + m.toNat) _ _ ed (by omega) (by omega) hj
theorem rread_is (l : List Int) (hl : l.length ≤ 100000) (hb : Bytes l) : Ev (fun k => boarderref03_Read.f k l) (readA l []) := by
  unfold boarderref03_Read.f
  exact rread_loop l hl hb l.length 0 l [] rfl (by omega) (by omega) Right3.nil
end Go.Proofs.Ytiklcnlehlpdaaa.Plain
