/- Frames one behind the other are opened as what they are of, whatever stands behind them; a beginning of the last one is not. -/
import Derived.Test.YtfnckgpfooilmaaCroCrc
set_option linter.unusedVariables false
set_option linter.unusedSimpArgs false
namespace Go.Proofs.Ytfnckgpfooilmaa.Plain
open Go.RowKit Go.Proofs.YtfnckgpfooilmaaW.PrintWords Go.Proofs.YtfnckgpfooilmaaW.PrintLast Go.Proofs.YtfnckgpfooilmaaW.PrintMore Go.Proofs.Ytfnckgpfooilmaa.PCro
/-- A beginning of a frame is not enough. -/
theorem openL_part (b : List Int) (m : Nat) (hb : b.length ≤ 2000) (hm : m < b.length + 6) : openL ((frameL b).take m) = ([], 0, 4) := by
  have hlen : ((frameL b).take m).length = m := by rw [List.length_take, frameL_length]; omega
  unfold openL
  rw [hlen]
  by_cases h6 : m < 6
  · rw [if_pos h6]
  · have e2 : ((frameL b).take m).take 2 = beL 2 b.length := by
      have := frameL_take2 b []
      rw [List.append_nil] at this
      rw [List.take_take, show min 2 m = 2 by omega, this]
    have ev : valL (beL 2 (b.length : Int)) = b.length := valL_beL 2 _ (by omega) (by omega)
    rw [if_neg h6, e2, ev, if_neg (by omega), if_pos (by omega)]
/-- All frames, one behind the other. -/
def allL : List (List Int) → List Int
  | [] => []
  | x :: r => frameL x ++ allL r
theorem allL_append : ∀ a b : List (List Int), allL (a ++ b) = allL a ++ allL b
  | [], b => rfl
  | x :: a, b => by rw [List.cons_append, allL, allL, allL_append a b, List.append_assoc]
def Fits (l : List (List Int)) : Prop := ∀ x ∈ l, x.length ≤ 2000 ∧ Bytes x
theorem Fits.snoc {l : List (List Int)} (h : Fits l) {x : List Int} (hx : x.length ≤ 2000 ∧ Bytes x) : Fits (l ++ [x]) := by
  intro y hy
  rcases List.mem_append.1 hy with hy | hy
  · exact h y hy
  · rw [List.mem_singleton.1 hy]; exact hx
theorem Fits.tail {l : List (List Int)} {x : List Int} (h : Fits (x :: l)) : Fits l := fun y hy => h y (by simp [hy])
theorem allL_length : ∀ {l : List (List Int)}, Fits l → (allL l).length ≤ 2006 * l.length
  | [], _ => Nat.le_refl _
  | x :: r, h => by
    have := allL_length h.tail
    have := (h x (by simp)).1
    rw [allL, List.length_append, frameL_length, List.length_cons]
    omega
theorem allL_bytes : ∀ {l : List (List Int)}, Fits l → Bytes (allL l)
  | [], _ => Bytes.nil
  | x :: r, h => (frameL_bytes (h x (by simp)).2).append (allL_bytes h.tail)
/-- How long the last frame is. -/
def lastL : List (List Int) → Nat
  | [] => 0
  | [x] => x.length + 6
  | _ :: y :: r => lastL (y :: r)
theorem lastL_snoc : ∀ (l : List (List Int)) (x : List Int), lastL (l ++ [x]) = x.length + 6
  | [], x => rfl
  | [y], x => rfl
  | y :: z :: r, x => by
    have := lastL_snoc (z :: r) x
    exact this
theorem rdL1_at {l : List (List Int)} {i : Nat} {x : List Int} {r : List (List Int)} (h : l.drop i = x :: r) : rd_L1 l (i : Int) = x := by
  unfold rd_L1
  have e : l[i]? = (l.drop i)[0]? := by rw [List.getElem?_drop]; simp
  rw [Int.toNat_natCast, List.getD_eq_getElem?_getD, e, h]
  rfl
theorem dropL_next {l : List (List Int)} {i : Nat} {x : List Int} {r : List (List Int)} (h : l.drop i = x :: r) : l.drop (i + 1) = r := by
  rw [← List.drop_drop, h]; rfl
theorem dropL_len {l : List (List Int)} {i : Nat} {x : List Int} {r : List (List Int)} (h : l.drop i = x :: r) : l.length = i + 1 + r.length := by
  have := congrArg List.length h
  simp at this
  omega
theorem dropL_none {l : List (List Int)} {i : Nat} (h : l.drop i = []) : l.length ≤ i := by
  have := congrArg List.length h
  simp at this
  omega
theorem knows_then : Ev (fun k => (boarderlaw02_knows.f k).bind fun t => some t) true := Ev.bind knows_is (Ev.now _)
theorem wi (i n : Nat) (h : i < n) (hn : n ≤ 9223372036854775807) : wrap64 ((i : Int) + 1) = ((i + 1 : Nat) : Int) := by rw [w64 (by omega) (by omega)]; rfl
theorem u64_range (x : Int) : 0 ≤ IntKind.u64.wrap x ∧ IntKind.u64.wrap x < 18446744073709551616 := by
  show 0 ≤ x % 18446744073709551616 ∧ x % 18446744073709551616 < 18446744073709551616
  omega
theorem u64_of {x : Int} (h0 : 0 ≤ x) (h1 : x < 18446744073709551616) : IntKind.u64.wrap x = x := by
  show x % 18446744073709551616 = x
  omega
/-- Behind the frames: what stands there, and a beginning of the last frame. -/
theorem rows_end (rest : List Int) (cut : Int) (ks : List (List Int)) (hf : Fits ks) (hn : ks.length ≤ 10) (j : Nat) (hj : ks.length ≤ j) : Ev (fun k => boarderlaw02_CodeRows.l1 k rest cut (allL ks) ks (lastL ks : Nat) rest j) true := by
  refine Ev.step (fun k => by rw [boarderlaw02_CodeRows.l1]) (Ev.neg (by omega) ?_)
  by_cases h0 : (ks.length : Int) = 0
  · exact Ev.pos h0 (Ev.pos rfl knows_then)
  refine Ev.neg h0 ?_
  obtain ⟨qs, b, rfl⟩ : ∃ qs b, ks = qs ++ [b] := by
    rcases List.eq_nil_or_concat ks with h | ⟨qs, b, h⟩
    · rw [h] at h0; exact absurd rfl h0
    · exact ⟨qs, b, by rw [h, List.concat_eq_append]⟩
  have hb := hf b (by simp)
  have hfa : Fits qs := fun y hy => hf y (by simp [hy])
  have hla := allL_length hfa
  rw [List.length_append] at hn
  rw [lastL_snoc, allL_append]
  have eb : allL [b] = frameL b := by simp [allL]
  rw [eb]
  have hlb := frameL_length b
  have hlen : (allL qs ++ frameL b).length = (allL qs).length + (b.length + 6) := by rw [List.length_append, hlb]
  have ew : wrap64 (((allL qs ++ frameL b).length : Int) - ((b.length + 6 : Nat) : Int)) = ((allL qs).length : Int) := by
    rw [hlen, w64 (by omega) (by omega)]; omega
  have el : IntKind.u64.wrap ((b.length + 6 : Nat) : Int) = ((b.length + 6 : Nat) : Int) := u64_of (by omega) (by omega)
  have hc := u64_range cut
  have et : Int.tmod (IntKind.u64.wrap cut) ((b.length + 6 : Nat) : Int) = IntKind.u64.wrap cut % ((b.length + 6 : Nat) : Int) := Int.tmod_eq_emod_of_nonneg hc.1
  have hm0 := Int.emod_nonneg (IntKind.u64.wrap cut) (show ((b.length + 6 : Nat) : Int) ≠ 0 by omega)
  have hm1 := Int.emod_lt_of_pos (IntKind.u64.wrap cut) (show (0 : Int) < ((b.length + 6 : Nat) : Int) by omega)
  generalize hm : IntKind.u64.wrap cut % ((b.length + 6 : Nat) : Int) = m at et hm0 hm1
  have emw : wrap64 m = m := w64 (by omega) (by omega)
  simp only [ew, el, et, emw, Int.toNat_natCast]
  have ed : (allL qs ++ frameL b).drop (allL qs).length = frameL b := List.drop_left' rfl
  rw [ed]
  refine Ev.pos (by omega) (Ev.pos (by omega) (Ev.bind (Ev.now _) (Ev.neg (by omega) (Ev.pos hm0 (Ev.pos (by omega) ?_)))))
  refine Ev.bind (Ev.eq (open_is _ ((frameL_bytes hb.2).take _) (by rw [List.length_take]; omega)) (openL_part b m.toNat hb.1 (by omega))) ?_
  exact Ev.pos (by trivial) (Ev.pos (by trivial) knows_then)
theorem rows_open (rest : List Int) (hr : Bytes rest) (hrl : rest.length ≤ 5000) (cut : Int) (ks : List (List Int)) (hf : Fits ks) (hn : ks.length ≤ 10) : ∀ (r : List (List Int)) (j : Nat), ks.drop j = r → Ev (fun k => boarderlaw02_CodeRows.l1 k rest cut (allL ks) ks (lastL ks : Nat) (allL r ++ rest) j) true := by
  intro r
  induction r with
  | nil =>
    intro j h
    exact rows_end rest cut ks hf hn j (dropL_none h)
  | cons x r ih =>
    intro j h
    have hlen := dropL_len h
    have hx := rdL1_at h
    have hfr : Fits (x :: r) := fun y hy => hf y (List.mem_of_mem_drop (h ▸ hy : y ∈ ks.drop j))
    have hfx := hfr x (by simp)
    have hal := allL_length hfr.tail
    have ei := wi j ks.length (by omega) (by omega)
    have hlb := frameL_length x
    have e1 : allL (x :: r) ++ rest = frameL x ++ (allL r ++ rest) := by rw [allL, List.append_assoc]
    rw [e1]
    have hb : Bytes (frameL x ++ (allL r ++ rest)) := (frameL_bytes hfx.2).append ((allL_bytes hfr.tail).append hr)
    have hl : (frameL x ++ (allL r ++ rest)).length = x.length + 6 + ((allL r).length + rest.length) := by rw [List.length_append, List.length_append, hlb]
    refine Ev.step (fun k => by rw [boarderlaw02_CodeRows.l1]) (Ev.pos (by omega) ?_)
    refine Ev.bind (Ev.eq (open_is _ hb (by omega)) (openL_frame x _ hfx.1)) ?_
    simp only [hx, ei]
    have ew : wrap64 ((x.length : Int) + 6) = 6 + (x.length : Int) := by rw [w64 (by omega) (by omega)]; omega
    have ed : (frameL x ++ (allL r ++ rest)).drop (6 + (x.length : Int)).toNat = allL r ++ rest := List.drop_left' (by omega)
    rw [ew, ed]
    refine Ev.pos (by trivial) (Ev.pos (by omega) (Ev.pos (by trivial) (Ev.pos (by trivial) (Ev.neg (by omega) (Ev.pos (by omega) (Ev.pos (by omega) ?_))))))
    exact ih (j + 1) (dropL_next h)
theorem rows_loop (l : List (List Int)) (hl : l.length ≤ 9223372036854775807) (hlb : ∀ x ∈ l, Bytes x) (rest : List Int) (hr : Bytes rest) (hrl : rest.length ≤ 5000) (cut : Int) : ∀ (n i : Nat) (ks : List (List Int)), 10 ≤ n + i → i ≤ 10 → ks.length ≤ i → Fits ks →
    Ev (fun k => boarderlaw02_CodeRows.l0 k l rest cut (allL ks) ks (lastL ks : Nat) i) true := by
  intro n
  have done : ∀ (i : Nat) (ks : List (List Int)), i ≤ 10 → ks.length ≤ i → Fits ks → Ev (fun k => boarderlaw02_CodeRows.j1 k l rest cut (allL ks) ks (lastL ks : Nat) i false) true := by
    intro i ks hi hk hf
    have hal := allL_length hf
    refine Ev.step (fun k => by rw [boarderlaw02_CodeRows.j1]) ?_
    refine Ev.neg (by decide) (Ev.bind (Ev.now _) (Ev.pos (by rw [List.length_nil]; omega) ?_))
    rw [List.nil_append]
    refine Ev.bind (Ev.now _) (Ev.pos (by omega) ?_)
    exact rows_open rest hr hrl cut ks hf (by omega) ks 0 rfl
  induction n with
  | zero =>
    intro i ks hn hi hk hf
    by_cases hil : (i : Int) < (l.length : Int)
    · refine Ev.step (fun k => by rw [boarderlaw02_CodeRows.l0]) (Ev.pos hil ?_)
      rw [decide_eq_false (by omega : ¬ (i : Int) < 10)]
      exact done i ks hi hk hf
    · refine Ev.step (fun k => by rw [boarderlaw02_CodeRows.l0]) (Ev.neg hil ?_)
      exact done i ks hi hk hf
  | succ n ih =>
    intro i ks hn hi hk hf
    by_cases hil : (i : Int) < (l.length : Int)
    · refine Ev.step (fun k => by rw [boarderlaw02_CodeRows.l0]) (Ev.pos hil ?_)
      by_cases h10 : (i : Int) < 10
      · rw [decide_eq_true h10]
        have hlt : i < l.length := by omega
        have hdr : l.drop i = l[i] :: l.drop (i + 1) := List.drop_eq_getElem_cons hlt
        have hx := rdL1_at hdr
        have hm := hlb l[i] (List.getElem_mem hlt)
        generalize l[i] = x at hx hm
        have ei := wi i l.length hlt (by omega)
        have hal := allL_length hf
        refine Ev.step (fun k => by rw [boarderlaw02_CodeRows.j1]) (Ev.pos rfl (Ev.pos (by omega) (Ev.pos hil ?_)))
        simp only [hx, ei]
        by_cases hg : (x.length : Int) > 2000
        · exact Ev.pos hg (ih (i + 1) ks (by omega) (by omega) (by omega) hf)
        · have hlf := frameL_length x
          refine Ev.neg hg (Ev.bind (Ev.eq (frame_is x hm (by omega)) (if_neg hg)) ?_)
          refine Ev.pos rfl (Ev.neg (by show ¬ ((frameL x).length : Int) < 6; omega) (Ev.pos (by show (allL ks).length + (frameL x).length < _; omega) (Ev.pos (by omega) ?_)))
          have e := ih (i + 1) (ks ++ [x]) (by omega) (by omega) (by simp; omega) (hf.snoc ⟨by omega, hm⟩)
          have ea : allL (ks ++ [x]) = allL ks ++ frameL x := by rw [allL_append]; simp [allL]
          rw [ea, lastL_snoc, ← hlf] at e
          exact e
      · rw [decide_eq_false h10]
        exact done i ks hi hk hf
    · refine Ev.step (fun k => by rw [boarderlaw02_CodeRows.l0]) (Ev.neg hil ?_)
      exact done i ks hi hk hf
end Go.Proofs.Ytfnckgpfooilmaa.Plain
namespace Go.Proofs.Ytfnckgpfooilmaa.Pure
open Go.RowKit Go.Proofs.Ytfnckgpfooilmaa.PCro Go.Proofs.YtfnckgpfooilmaaW.PrintWords Go.Proofs.YtfnckgpfooilmaaW.PrintLast Go.Proofs.Ytfnckgpfooilmaa.Plain
theorem CodeRows : boarderlaw02_CodeRows.Pure := by
  intro l rest cut hl hw _ hrl hwr _
  have hr := bytes_of_wf hwr
  have hlb : ∀ x ∈ l, Bytes x := fun x hx => bytes_of_wf (hw x hx).2
  refine Ev.rounds (g := fun k => boarderlaw02_CodeRows.f k l rest cut) ?_
  unfold boarderlaw02_CodeRows.f
  refine Ev.bind (Ev.now _) ?_
  by_cases h : (rest.length : Int) > 5000
  · rw [decide_eq_true h]
    exact Ev.pos rfl knows_then
  · rw [decide_eq_false h]
    refine Ev.neg (by decide) ?_
    exact rows_loop l (by unfold maxLen at hl; omega) hlb rest hr (by omega) cut 10 0 [] (by omega) (by omega) (by simp) (fun x hx => by cases hx)
end Go.Proofs.Ytfnckgpfooilmaa.Pure
