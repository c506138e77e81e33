-- printed by a program of this session, made after the kit's own printer
import Derived.Test.YtiklcnlehlpdaaaPOpsx0
import Derived.Test.YtiklcnlehlpdaaaPOpsx4
import Derived.Test.YtiklcnlehlpdaaaPOpsx9
import Derived.Test.YtiklcnlehlpdaaaPOpsx10
namespace Go.Proofs.Ytiklcnlehlpdaaa.POps
open Go.RowKit Go.Proofs.YtiklcnlehlpdaaaW.PrintWords Go.Proofs.YtiklcnlehlpdaaaW.PrintLast Go.Proofs.YtiklcnlehlpdaaaW.PrintMore
attribute [local go_sem] max2_int min2_int max_two min_two max_three min_three max_four min_four   -- for this text's walks alone
set_option linter.unusedVariables false
set_option linter.unusedSimpArgs false

/-! ### boarderlaw16_ClassOthers: function 18 -/
def boarderlaw16_ClassOthers.j0 : Nat → Int → Bool → Int → Int → Int → Int → Int → Int → Int → Int → Int → Int → Int → List Int → List (S70) → Option (Bool)
  | 0, _, _, _, _, _, _, _, _, _, _, _, _, _, _, _ => none
  | k + 1, x1, x12, x420000, x420001, x420002, x420003, x420004, x420005, x420006, x420007, x420008, x420009, x420010, x420011, x420012 => if x12 = true then ((boarderlaw16_knows.f k).bind fun t421 => (some t421)) else ((opts_Set.f k x420012 53 x1 1).bind fun bt422 => (if bt422.2 = 0 then ((class_Of.f k x420000 x420001 x420002 x420003 x420004 x420005 x420006 x420007 x420008 x420009 x420010 x420011 bt422.1).bind fun t426 => (if t426 = 0 then ((class_About.f k x420000 x420001 x420002 x420003 x420004 x420005 x420006 x420007 x420008 x420009 x420010 x420011 bt422.1).bind fun t427 => (if t427 = 0 then ((boarderlaw16_knows.f k).bind fun t428 => (some t428)) else (some false))) else (some false))) else (if x1 < 0 then ((boarderlaw16_knows.f k).bind fun t429 => (some t429)) else (if x1 > 255 then ((boarderlaw16_knows.f k).bind fun t430 => (some t430)) else (some false)))))
def boarderlaw16_ClassOthers.f (k : Nat) (a0_0 : Int) (a0_1 : Int) (a0_2 : Int) (a0_3 : Int) (a0_4 : Int) (a0_5 : Int) (a0_6 : Int) (a0_7 : Int) (a0_8 : Int) (a0_9 : Int) (a0_10 : Int) (l0_11 : List Int) (l0_12 : List (S70)) (a1 : Int) : Option (Bool) := (boarderlaw04_Great.f k a0_0 a0_1 a0_2 a0_3 a0_4 a0_5 a0_6 a0_7 a0_8 a0_9 a0_10 l0_11 l0_12).bind fun t420 => (if t420 = true then (boarderlaw16_ClassOthers.j0 k a1 true a0_0 a0_1 a0_2 a0_3 a0_4 a0_5 a0_6 a0_7 a0_8 a0_9 a0_10 l0_11 l0_12) else (boarderlaw16_ClassOthers.j0 k a1 (a1 == 3) a0_0 a0_1 a0_2 a0_3 a0_4 a0_5 a0_6 a0_7 a0_8 a0_9 a0_10 l0_11 l0_12))
theorem boarderlaw16_ClassOthers.mono_l : ∀ k, (∀ y0 y1 y2 y3 y4 y5 y6 y7 y8 y9 y10 y11 y12 y13 y14, LeO (boarderlaw16_ClassOthers.j0 k y0 y1 y2 y3 y4 y5 y6 y7 y8 y9 y10 y11 y12 y13 y14) (boarderlaw16_ClassOthers.j0 (k + 1) y0 y1 y2 y3 y4 y5 y6 y7 y8 y9 y10 y11 y12 y13 y14))
  | 0 => fun _ _ _ _ _ _ _ _ _ _ _ _ _ _ _ r h => by simp [boarderlaw16_ClassOthers.j0] at h
  | k + 1 => by
    have ih0 := boarderlaw16_ClassOthers.mono_l k
    · intro y0 y1 y2 y3 y4 y5 y6 y7 y8 y9 y10 y11 y12 y13 y14
      unfold boarderlaw16_ClassOthers.j0
      repeat' first
      | (with_reducible exact ih0 _ _ _ _ _ _ _ _ _ _ _ _ _ _ _)
      | (with_reducible exact boarderlaw04_Great.mono _ _ _ _ _ _ _ _ _ _ _ _ _ _)
      | (with_reducible exact boarderlaw16_knows.mono _)
      | (with_reducible exact class_About.mono _ _ _ _ _ _ _ _ _ _ _ _ _ _)
      | (with_reducible exact class_Of.mono _ _ _ _ _ _ _ _ _ _ _ _ _ _)
      | (with_reducible exact opts_Set.mono _ _ _ _ _)
      | (with_reducible exact LeO.refl _)
      | (with_reducible exact LeO.none _)
      | (with_reducible refine LeO.ite ?_ ?_)
      | (with_reducible refine LeO.bind ?_ (fun _ => ?_))
      | exact ih0 _ _ _ _ _ _ _ _ _ _ _ _ _ _ _
      | exact boarderlaw04_Great.mono _ _ _ _ _ _ _ _ _ _ _ _ _ _
      | exact boarderlaw16_knows.mono _
      | exact class_About.mono _ _ _ _ _ _ _ _ _ _ _ _ _ _
      | exact class_Of.mono _ _ _ _ _ _ _ _ _ _ _ _ _ _
      | exact opts_Set.mono _ _ _ _ _
      | exact LeO.none _
      | refine LeO.ite ?_ ?_
      | refine LeO.bind ?_ (fun _ => ?_)
theorem boarderlaw16_ClassOthers.mono : ∀ a0 a1 a2 a3 a4 a5 a6 a7 a8 a9 a10 a11 a12 a13 k, LeO (boarderlaw16_ClassOthers.f k a0 a1 a2 a3 a4 a5 a6 a7 a8 a9 a10 a11 a12 a13) (boarderlaw16_ClassOthers.f (k + 1) a0 a1 a2 a3 a4 a5 a6 a7 a8 a9 a10 a11 a12 a13) := by
  intro a0 a1 a2 a3 a4 a5 a6 a7 a8 a9 a10 a11 a12 a13 k
  have ih0 := boarderlaw16_ClassOthers.mono_l k
  unfold boarderlaw16_ClassOthers.f
  repeat' first
      | (with_reducible exact ih0 _ _ _ _ _ _ _ _ _ _ _ _ _ _ _)
      | (with_reducible exact boarderlaw04_Great.mono _ _ _ _ _ _ _ _ _ _ _ _ _ _)
      | (with_reducible exact boarderlaw16_knows.mono _)
      | (with_reducible exact class_About.mono _ _ _ _ _ _ _ _ _ _ _ _ _ _)
      | (with_reducible exact class_Of.mono _ _ _ _ _ _ _ _ _ _ _ _ _ _)
      | (with_reducible exact opts_Set.mono _ _ _ _ _)
      | (with_reducible exact LeO.refl _)
      | (with_reducible exact LeO.none _)
      | (with_reducible refine LeO.ite ?_ ?_)
      | (with_reducible refine LeO.bind ?_ (fun _ => ?_))
      | exact ih0 _ _ _ _ _ _ _ _ _ _ _ _ _ _ _
      | exact boarderlaw04_Great.mono _ _ _ _ _ _ _ _ _ _ _ _ _ _
      | exact boarderlaw16_knows.mono _
      | exact class_About.mono _ _ _ _ _ _ _ _ _ _ _ _ _ _
      | exact class_Of.mono _ _ _ _ _ _ _ _ _ _ _ _ _ _
      | exact opts_Set.mono _ _ _ _ _
      | exact LeO.none _
      | refine LeO.ite ?_ ?_
      | refine LeO.bind ?_ (fun _ => ?_)
set_option maxHeartbeats 8000000 in
set_option maxRecDepth 100000 in
theorem boarderlaw16_ClassOthers.calls (k : Nat) (a0_0 : Int) (a0_1 : Int) (a0_2 : Int) (a0_3 : Int) (a0_4 : Int) (a0_5 : Int) (a0_6 : Int) (a0_7 : Int) (a0_8 : Int) (a0_9 : Int) (a0_10 : Int) (A0_11 : Option Addr) (c0_11 : Nat) (l0_11 : List Int) (A0_12 : Option Addr) (c0_12 : Nat) (l0_12 : List (S70)) (a1 : Int) (r : Bool) (w : World) (hr0_11 : Kd.C (Kd.int .u8) w A0_11 l0_11.length l0_11) (hc0_11 : l0_11.length ≤ c0_11) (hr0_12 : Kd.C k70 w A0_12 l0_12.length l0_12) (hc0_12 : l0_12.length ≤ c0_12) (h : boarderlaw16_ClassOthers.f k a0_0 a0_1 a0_2 a0_3 a0_4 a0_5 a0_6 a0_7 a0_8 a0_9 a0_10 l0_11 l0_12 a1 = some r) :
    Calls Try.prog 18 #[.agg #[.int .i64 a0_0, .int .i64 a0_1, .int .i64 a0_2, .int .i64 a0_3, .int .i64 a0_4, .int .i64 a0_5, .int .i64 a0_6, .int .i64 a0_7, .int .i64 a0_8, .int .i64 a0_9, .int .i64 a0_10, .slice A0_11 l0_11.length c0_11, .slice A0_12 l0_12.length c0_12], .int .i64 a1] w fun e w' => e = .returned (.bool r) ∧ Below w.heap.size w w' := by
  have hu42 := Try.underlying42
  have HR0_11 := Aside0.mk hr0_11
  have HC0_11 := Aside0.mk hc0_11
  clear hr0_11 hc0_11
  have HR0_12 := Aside0.mk hr0_12
  have HC0_12 := Aside0.mk hc0_12
  clear hr0_12 hc0_12
  have HB := Aside0.mk (Below.refl w.heap.size w)
  have H : ((boarderlaw04_Great.f k a0_0 a0_1 a0_2 a0_3 a0_4 a0_5 a0_6 a0_7 a0_8 a0_9 a0_10 l0_11 l0_12).bind fun t420 => (if t420 = true then (boarderlaw16_ClassOthers.j0 k a1 true a0_0 a0_1 a0_2 a0_3 a0_4 a0_5 a0_6 a0_7 a0_8 a0_9 a0_10 l0_11 l0_12) else (boarderlaw16_ClassOthers.j0 k a1 (a1 == 3) a0_0 a0_1 a0_2 a0_3 a0_4 a0_5 a0_6 a0_7 a0_8 a0_9 a0_10 l0_11 l0_12))) = some r := h
  clear h
  have HC3 := Aside0.mk H
  clear H
  go_enter Try.func18, Try.ntmps18
  go_upto_region 1 with (first | ((with_reducible refine gate_dst (N := 2) rfl ?_); refine box_event ?hg (N := 2) ?hd (cs := #[.int .i64 a0_0, .int .i64 a0_1, .int .i64 a0_2, .int .i64 a0_3, .int .i64 a0_4, .int .i64 a0_5, .int .i64 a0_6, .int .i64 a0_7, .int .i64 a0_8, .int .i64 a0_9, .int .i64 a0_10, .slice A0_11 l0_11.length c0_11, .slice A0_12 l0_12.length c0_12]) (t := 42) ?hr ?_; (case hd => rfl); (case hg => rfl); (case hr => first | (go_simp; done) | (go_simp; rfl)); intro gb419 hg w4 hbox hb; have n0_ := Aside0.mk (below_step (by repeat (first | (with_reducible first | exact HB.out | apply below_alloc | apply pw_below_drewN | apply below_drew1) | exact HB.out)) hb); have n1_ := Aside0.mk (hbox); have n2_ := Aside0.mk ((by rw [hg]; exact (below_size (by repeat (first | (with_reducible first | exact HB.out | apply below_alloc | apply pw_below_drewN | apply below_drew1) | exact HB.out))) : w.heap.size ≤ gb419)); have n3_ := Aside0.mk ((by rw [hg]; exact (below_size (by repeat (first | (with_reducible first | exact HB.out | apply below_alloc | apply pw_below_drewN | apply below_drew1) | exact HB.out))) : w.heap.size ≤ gb419)); clear HB; have HB := n0_; have BK419 := n1_; have GW419 := n2_; have GE419 := n3_; clear n0_ n1_ n2_ n3_; clear hb hbox hg))
  (try simp only [Act.put, List.setIfInBounds_toArray, List.set_cons_zero, List.set_cons_succ])
  go_cut [12] (fun v12 wc => ∃ (kq : Nat) (x12_2 : Bool), v12 = .bool x12_2 ∧ Aside0 (boarderlaw16_ClassOthers.j0 kq a1 x12_2 a0_0 a0_1 a0_2 a0_3 a0_4 a0_5 a0_6 a0_7 a0_8 a0_9 a0_10 l0_11 l0_12 = some r) ∧ Aside0 (kq ≤ k) ∧ Aside0 (wc.heap[gb419]? = some (.cells #[.int .i64 a0_0, .int .i64 a0_1, .int .i64 a0_2, .int .i64 a0_3, .int .i64 a0_4, .int .i64 a0_5, .int .i64 a0_6, .int .i64 a0_7, .int .i64 a0_8, .int .i64 a0_9, .int .i64 a0_10, (.slice A0_11 l0_11.length c0_11), (.slice A0_12 l0_12.length c0_12)] 42 (0, 0))) ∧ Aside0 (Below w.heap.size w wc))
  case first =>
    have H := HC3.out
    clear HC3
    replace H := Option.bind_eq_some_iff.mp H
    obtain ⟨t420, A50, H⟩ := H
    replace H : (if t420 = true then (boarderlaw16_ClassOthers.j0 k a1 true a0_0 a0_1 a0_2 a0_3 a0_4 a0_5 a0_6 a0_7 a0_8 a0_9 a0_10 l0_11 l0_12) else (boarderlaw16_ClassOthers.j0 k a1 (a1 == 3) a0_0 a0_1 a0_2 a0_3 a0_4 a0_5 a0_6 a0_7 a0_8 a0_9 a0_10 l0_11 l0_12)) = some r := H
    have A5 := Aside0.mk A50
    clear A50
    by_cases c6 : t420 = true
    · subst c6
      have H1 : (boarderlaw16_ClassOthers.j0 k a1 true a0_0 a0_1 a0_2 a0_3 a0_4 a0_5 a0_6 a0_7 a0_8 a0_9 a0_10 l0_11 l0_12) = some r := by rw [if_pos rfl] at H; exact H
      clear H
      have H := H1
      clear H1
      have H' := Aside0.mk H
      clear H
      have hcz7_0 : w4.cell? ⟨gb419, 0, none⟩ = some (.int .i64 a0_0) := (blk_cell BK419.out 0).trans rfl
      have hcz7_1 : w4.cell? ⟨gb419, 1, none⟩ = some (.int .i64 a0_1) := (blk_cell BK419.out 1).trans rfl
      have hcz7_2 : w4.cell? ⟨gb419, 2, none⟩ = some (.int .i64 a0_2) := (blk_cell BK419.out 2).trans rfl
      have hcz7_3 : w4.cell? ⟨gb419, 3, none⟩ = some (.int .i64 a0_3) := (blk_cell BK419.out 3).trans rfl
      have hcz7_4 : w4.cell? ⟨gb419, 4, none⟩ = some (.int .i64 a0_4) := (blk_cell BK419.out 4).trans rfl
      have hcz7_5 : w4.cell? ⟨gb419, 5, none⟩ = some (.int .i64 a0_5) := (blk_cell BK419.out 5).trans rfl
      have hcz7_6 : w4.cell? ⟨gb419, 6, none⟩ = some (.int .i64 a0_6) := (blk_cell BK419.out 6).trans rfl
      have hcz7_7 : w4.cell? ⟨gb419, 7, none⟩ = some (.int .i64 a0_7) := (blk_cell BK419.out 7).trans rfl
      have hcz7_8 : w4.cell? ⟨gb419, 8, none⟩ = some (.int .i64 a0_8) := (blk_cell BK419.out 8).trans rfl
      have hcz7_9 : w4.cell? ⟨gb419, 9, none⟩ = some (.int .i64 a0_9) := (blk_cell BK419.out 9).trans rfl
      have hcz7_10 : w4.cell? ⟨gb419, 10, none⟩ = some (.int .i64 a0_10) := (blk_cell BK419.out 10).trans rfl
      have hcz7_11 : w4.cell? ⟨gb419, 11, none⟩ = some (.slice A0_11 l0_11.length c0_11) := (blk_cell BK419.out 11).trans rfl
      have hcz7_12 : w4.cell? ⟨gb419, 12, none⟩ = some (.slice A0_12 l0_12.length c0_12) := (blk_cell BK419.out 12).trans rfl
      have hfz7_0 := blk_frozen BK419.out 0
      have hfz7_1 := blk_frozen BK419.out 1
      have hfz7_2 := blk_frozen BK419.out 2
      have hfz7_3 := blk_frozen BK419.out 3
      have hfz7_4 := blk_frozen BK419.out 4
      have hfz7_5 := blk_frozen BK419.out 5
      have hfz7_6 := blk_frozen BK419.out 6
      have hfz7_7 := blk_frozen BK419.out 7
      have hfz7_8 := blk_frozen BK419.out 8
      have hfz7_9 := blk_frozen BK419.out 9
      have hfz7_10 := blk_frozen BK419.out 10
      have hfz7_11 := blk_frozen BK419.out 11
      have hfz7_12 := blk_frozen BK419.out 12
      go_wp2_with (first | ((with_reducible refine gate_callee (f := 30) rfl ?_); refine goesL_ (some 8) rfl rfl Try.func30 (by kernel_rfl) rfl #[.agg #[.int .i64 a0_0, .int .i64 a0_1, .int .i64 a0_2, .int .i64 a0_3, .int .i64 a0_4, .int .i64 a0_5, .int .i64 a0_6, .int .i64 a0_7, .int .i64 a0_8, .int .i64 a0_9, .int .i64 a0_10, .slice A0_11 l0_11.length c0_11, .slice A0_12 l0_12.length c0_12]] rfl (by (try simp only [List.map_toArray, List.map_cons, List.map_nil]); first | done | rfl | (simp only [List.length_drop, List.length_take]; rfl)) ?_; (with_reducible refine (boarderlaw04_Great.calls k a0_0 a0_1 a0_2 a0_3 a0_4 a0_5 a0_6 a0_7 a0_8 a0_9 a0_10 _ _ l0_11 _ _ l0_12 true _ ?side1 ?side2 ?side3 ?side4 A5.out).mono ?_); (case side1 => repeat (first | exact (Kd.C_below HR0_11.out HB.out) | (with_reducible refine Kd.C_alloc ?_ _) | (with_reducible refine Kd.C_drewN ?_ _) | (with_reducible refine Kd.C_drew ?_))); (case side2 => exact HC0_11.out); (case side3 => repeat (first | exact (Kd.C_below HR0_12.out HB.out) | (with_reducible refine Kd.C_alloc ?_ _) | (with_reducible refine Kd.C_drewN ?_ _) | (with_reducible refine Kd.C_drew ?_))); (case side4 => exact HC0_12.out); rintro e w8 ⟨rfl, hb⟩; refine ⟨_, rfl, ?_⟩; have n0_ := Aside0.mk (blk_below (g := gb419) (o := .cells #[.int .i64 a0_0, .int .i64 a0_1, .int .i64 a0_2, .int .i64 a0_3, .int .i64 a0_4, .int .i64 a0_5, .int .i64 a0_6, .int .i64 a0_7, .int .i64 a0_8, .int .i64 a0_9, .int .i64 a0_10, .slice A0_11 l0_11.length c0_11, .slice A0_12 l0_12.length c0_12] 42 (0, 0)) (by (with_reducible repeat (first | refine blk_drewN ?_ _ | refine blk_drew ?_ | refine blk_alloc ?_ _)); exact BK419.out) hb); have n1_ := Aside0.mk (below_step (by repeat (first | (with_reducible first | exact HB.out | apply below_alloc | apply pw_below_drewN | apply below_drew1 | refine below_set ?_ GE419.out) | exact HB.out)) hb); clear BK419; clear HB; have BK419 := n0_; have HB := n1_; clear n0_ n1_; (try clear hb); (try clear hb2); (try clear hk); (try clear hi)))
      go_meet
      case rel => exact ⟨_, (true), (by first | rfl | (simp; done) | (simp [*]; done)), H', ⟨by first | omega | exact Nat.le_refl _⟩, ⟨by (with_reducible repeat (first | refine blk_drewN ?_ _ | refine blk_drew ?_ | refine blk_alloc ?_ _)); exact BK419.out⟩, ⟨by repeat (first | (with_reducible first | exact HB.out | apply below_alloc | apply pw_below_drewN | apply below_drew1 | refine below_set ?_ GE419.out) | exact HB.out)⟩⟩
    · replace c6 := Bool.eq_false_iff.mpr c6
      subst c6
      have H1 : (boarderlaw16_ClassOthers.j0 k a1 (a1 == 3) a0_0 a0_1 a0_2 a0_3 a0_4 a0_5 a0_6 a0_7 a0_8 a0_9 a0_10 l0_11 l0_12) = some r := by rw [if_neg (show ¬ (false = true) by decide)] at H; exact H
      clear H
      have H := H1
      clear H1
      have H' := Aside0.mk H
      clear H
      have hcz9_0 : w4.cell? ⟨gb419, 0, none⟩ = some (.int .i64 a0_0) := (blk_cell BK419.out 0).trans rfl
      have hcz9_1 : w4.cell? ⟨gb419, 1, none⟩ = some (.int .i64 a0_1) := (blk_cell BK419.out 1).trans rfl
      have hcz9_2 : w4.cell? ⟨gb419, 2, none⟩ = some (.int .i64 a0_2) := (blk_cell BK419.out 2).trans rfl
      have hcz9_3 : w4.cell? ⟨gb419, 3, none⟩ = some (.int .i64 a0_3) := (blk_cell BK419.out 3).trans rfl
      have hcz9_4 : w4.cell? ⟨gb419, 4, none⟩ = some (.int .i64 a0_4) := (blk_cell BK419.out 4).trans rfl
      have hcz9_5 : w4.cell? ⟨gb419, 5, none⟩ = some (.int .i64 a0_5) := (blk_cell BK419.out 5).trans rfl
      have hcz9_6 : w4.cell? ⟨gb419, 6, none⟩ = some (.int .i64 a0_6) := (blk_cell BK419.out 6).trans rfl
      have hcz9_7 : w4.cell? ⟨gb419, 7, none⟩ = some (.int .i64 a0_7) := (blk_cell BK419.out 7).trans rfl
      have hcz9_8 : w4.cell? ⟨gb419, 8, none⟩ = some (.int .i64 a0_8) := (blk_cell BK419.out 8).trans rfl
      have hcz9_9 : w4.cell? ⟨gb419, 9, none⟩ = some (.int .i64 a0_9) := (blk_cell BK419.out 9).trans rfl
      have hcz9_10 : w4.cell? ⟨gb419, 10, none⟩ = some (.int .i64 a0_10) := (blk_cell BK419.out 10).trans rfl
      have hcz9_11 : w4.cell? ⟨gb419, 11, none⟩ = some (.slice A0_11 l0_11.length c0_11) := (blk_cell BK419.out 11).trans rfl
      have hcz9_12 : w4.cell? ⟨gb419, 12, none⟩ = some (.slice A0_12 l0_12.length c0_12) := (blk_cell BK419.out 12).trans rfl
      have hfz9_0 := blk_frozen BK419.out 0
      have hfz9_1 := blk_frozen BK419.out 1
      have hfz9_2 := blk_frozen BK419.out 2
      have hfz9_3 := blk_frozen BK419.out 3
      have hfz9_4 := blk_frozen BK419.out 4
      have hfz9_5 := blk_frozen BK419.out 5
      have hfz9_6 := blk_frozen BK419.out 6
      have hfz9_7 := blk_frozen BK419.out 7
      have hfz9_8 := blk_frozen BK419.out 8
      have hfz9_9 := blk_frozen BK419.out 9
      have hfz9_10 := blk_frozen BK419.out 10
      have hfz9_11 := blk_frozen BK419.out 11
      have hfz9_12 := blk_frozen BK419.out 12
      go_wp2_with (first | ((with_reducible refine gate_callee (f := 30) rfl ?_); refine goesL_ (some 8) rfl rfl Try.func30 (by kernel_rfl) rfl #[.agg #[.int .i64 a0_0, .int .i64 a0_1, .int .i64 a0_2, .int .i64 a0_3, .int .i64 a0_4, .int .i64 a0_5, .int .i64 a0_6, .int .i64 a0_7, .int .i64 a0_8, .int .i64 a0_9, .int .i64 a0_10, .slice A0_11 l0_11.length c0_11, .slice A0_12 l0_12.length c0_12]] rfl (by (try simp only [List.map_toArray, List.map_cons, List.map_nil]); first | done | rfl | (simp only [List.length_drop, List.length_take]; rfl)) ?_; (with_reducible refine (boarderlaw04_Great.calls k a0_0 a0_1 a0_2 a0_3 a0_4 a0_5 a0_6 a0_7 a0_8 a0_9 a0_10 _ _ l0_11 _ _ l0_12 false _ ?side1 ?side2 ?side3 ?side4 A5.out).mono ?_); (case side1 => repeat (first | exact (Kd.C_below HR0_11.out HB.out) | (with_reducible refine Kd.C_alloc ?_ _) | (with_reducible refine Kd.C_drewN ?_ _) | (with_reducible refine Kd.C_drew ?_))); (case side2 => exact HC0_11.out); (case side3 => repeat (first | exact (Kd.C_below HR0_12.out HB.out) | (with_reducible refine Kd.C_alloc ?_ _) | (with_reducible refine Kd.C_drewN ?_ _) | (with_reducible refine Kd.C_drew ?_))); (case side4 => exact HC0_12.out); rintro e w10 ⟨rfl, hb⟩; refine ⟨_, rfl, ?_⟩; have n0_ := Aside0.mk (blk_below (g := gb419) (o := .cells #[.int .i64 a0_0, .int .i64 a0_1, .int .i64 a0_2, .int .i64 a0_3, .int .i64 a0_4, .int .i64 a0_5, .int .i64 a0_6, .int .i64 a0_7, .int .i64 a0_8, .int .i64 a0_9, .int .i64 a0_10, .slice A0_11 l0_11.length c0_11, .slice A0_12 l0_12.length c0_12] 42 (0, 0)) (by (with_reducible repeat (first | refine blk_drewN ?_ _ | refine blk_drew ?_ | refine blk_alloc ?_ _)); exact BK419.out) hb); have n1_ := Aside0.mk (below_step (by repeat (first | (with_reducible first | exact HB.out | apply below_alloc | apply pw_below_drewN | apply below_drew1 | refine below_set ?_ GE419.out) | exact HB.out)) hb); clear BK419; clear HB; have BK419 := n0_; have HB := n1_; clear n0_ n1_; (try clear hb); (try clear hb2); (try clear hk); (try clear hi)))
      go_meet
      case rel => exact ⟨_, ((a1 == 3)), (by first | rfl | (simp; done) | (simp [*]; done)), H', ⟨by first | omega | exact Nat.le_refl _⟩, ⟨by (with_reducible repeat (first | refine blk_drewN ?_ _ | refine blk_drew ?_ | refine blk_alloc ?_ _)); exact BK419.out⟩, ⟨by repeat (first | (with_reducible first | exact HB.out | apply below_alloc | apply pw_below_drewN | apply below_drew1 | refine below_set ?_ GE419.out) | exact HB.out)⟩⟩
  case rest =>
    clear HC3
    try clear c1
    try clear p2
    try clear c3
    try clear c6
    try clear hcz7_0
    try clear hcz7_1
    try clear hcz7_10
    try clear hcz7_11
    try clear hcz7_12
    try clear hcz7_2
    try clear hcz7_3
    try clear hcz7_4
    try clear hcz7_5
    try clear hcz7_6
    try clear hcz7_7
    try clear hcz7_8
    try clear hcz7_9
    try clear hcz9_0
    try clear hcz9_1
    try clear hcz9_10
    try clear hcz9_11
    try clear hcz9_12
    try clear hcz9_2
    try clear hcz9_3
    try clear hcz9_4
    try clear hcz9_5
    try clear hcz9_6
    try clear hcz9_7
    try clear hcz9_8
    try clear hcz9_9
    try clear hfz7_0
    try clear hfz7_1
    try clear hfz7_10
    try clear hfz7_11
    try clear hfz7_12
    try clear hfz7_2
    try clear hfz7_3
    try clear hfz7_4
    try clear hfz7_5
    try clear hfz7_6
    try clear hfz7_7
    try clear hfz7_8
    try clear hfz7_9
    try clear hfz9_0
    try clear hfz9_1
    try clear hfz9_10
    try clear hfz9_11
    try clear hfz9_12
    try clear hfz9_2
    try clear hfz9_3
    try clear hfz9_4
    try clear hfz9_5
    try clear hfz9_6
    try clear hfz9_7
    try clear hfz9_8
    try clear hfz9_9
    obtain ⟨kq, x12_2, rfl, HA, HJ2, BK419, HB⟩ := hcut
    cases kq with
    | zero => exact absurd HA.out (by simp [boarderlaw16_ClassOthers.j0])
    | succ kj2 =>
      have H := HA.out
      clear HA
      simp only [boarderlaw16_ClassOthers.j0] at H
      by_cases c11 : x12_2 = true
      · subst c11
        have H1 : ((boarderlaw16_knows.f kj2).bind fun t421 => (some t421)) = some r := by rw [if_pos rfl] at H; exact H
        clear H
        have H := H1
        clear H1
        replace H := Option.bind_eq_some_iff.mp H
        obtain ⟨t421, A120, H⟩ := H
        replace H : (some t421) = some r := H
        have A12 := Aside0.mk A120
        clear A120
        obtain rfl := Option.some.inj H
        go_wp2_with (first | ((with_reducible refine gate_callee (f := 31) rfl ?_); refine goesL_ (some 13) rfl rfl Try.func31 (by kernel_rfl) rfl #[] rfl (by (try simp only [List.map_toArray, List.map_cons, List.map_nil]); first | done | rfl | (simp only [List.length_drop, List.length_take]; rfl)) ?_; (with_reducible refine (boarderlaw16_knows.calls kj2  t421 _ A12.out).mono ?_); rintro e w13 ⟨rfl, hb⟩; refine ⟨_, rfl, ?_⟩; have n0_ := Aside0.mk (blk_below (g := gb419) (o := .cells #[.int .i64 a0_0, .int .i64 a0_1, .int .i64 a0_2, .int .i64 a0_3, .int .i64 a0_4, .int .i64 a0_5, .int .i64 a0_6, .int .i64 a0_7, .int .i64 a0_8, .int .i64 a0_9, .int .i64 a0_10, .slice A0_11 l0_11.length c0_11, .slice A0_12 l0_12.length c0_12] 42 (0, 0)) (by (with_reducible repeat (first | refine blk_drewN ?_ _ | refine blk_drew ?_ | refine blk_alloc ?_ _)); exact BK419.out) hb); have n1_ := Aside0.mk (below_step (by repeat (first | (with_reducible first | exact HB.out | apply below_alloc | apply pw_below_drewN | apply below_drew1 | refine below_set ?_ GE419.out) | exact HB.out)) hb); clear BK419; clear HB; have BK419 := n0_; have HB := n1_; clear n0_ n1_; (try clear hb); (try clear hb2); (try clear hk); (try clear hi)))
        go_ret
        exact ⟨by first | rfl | (simp [errW_none, errW_some] <;> rfl) | (simp [*, errW_none, errW_some] <;> rfl), by repeat (first | (with_reducible first | exact HB.out | apply below_alloc | apply pw_below_drewN | apply below_drew1 | refine below_set ?_ GE419.out) | exact HB.out)⟩
      · replace c11 := Bool.eq_false_iff.mpr c11
        subst c11
        have H1 : ((opts_Set.f kj2 l0_12 53 a1 1).bind fun bt422 => (if bt422.2 = 0 then ((class_Of.f kj2 a0_0 a0_1 a0_2 a0_3 a0_4 a0_5 a0_6 a0_7 a0_8 a0_9 a0_10 l0_11 bt422.1).bind fun t426 => (if t426 = 0 then ((class_About.f kj2 a0_0 a0_1 a0_2 a0_3 a0_4 a0_5 a0_6 a0_7 a0_8 a0_9 a0_10 l0_11 bt422.1).bind fun t427 => (if t427 = 0 then ((boarderlaw16_knows.f kj2).bind fun t428 => (some t428)) else (some false))) else (some false))) else (if a1 < 0 then ((boarderlaw16_knows.f kj2).bind fun t429 => (some t429)) else (if a1 > 255 then ((boarderlaw16_knows.f kj2).bind fun t430 => (some t430)) else (some false))))) = some r := by rw [if_neg (show ¬ (false = true) by decide)] at H; exact H
        clear H
        have H := H1
        clear H1
        replace H := Option.bind_eq_some_iff.mp H
        obtain ⟨⟨t422, t425⟩, A140, H⟩ := H
        replace H : (if t425 = 0 then ((class_Of.f kj2 a0_0 a0_1 a0_2 a0_3 a0_4 a0_5 a0_6 a0_7 a0_8 a0_9 a0_10 l0_11 t422).bind fun t426 => (if t426 = 0 then ((class_About.f kj2 a0_0 a0_1 a0_2 a0_3 a0_4 a0_5 a0_6 a0_7 a0_8 a0_9 a0_10 l0_11 t422).bind fun t427 => (if t427 = 0 then ((boarderlaw16_knows.f kj2).bind fun t428 => (some t428)) else (some false))) else (some false))) else (if a1 < 0 then ((boarderlaw16_knows.f kj2).bind fun t429 => (some t429)) else (if a1 > 255 then ((boarderlaw16_knows.f kj2).bind fun t430 => (some t430)) else (some false)))) = some r := H
        have A14 := Aside0.mk A140
        clear A140
        by_cases c15 : t425 = 0
        · rw [if_pos c15] at H
          have c15b0 : (t425 == 0) = true := beq_iff_eq.mpr c15
          have c15b1 : (t425 != 0) = false := bne_eq_false_iff_eq.mpr c15
          clear c15
          replace H := Option.bind_eq_some_iff.mp H
          obtain ⟨t426, A160, H⟩ := H
          replace H : (if t426 = 0 then ((class_About.f kj2 a0_0 a0_1 a0_2 a0_3 a0_4 a0_5 a0_6 a0_7 a0_8 a0_9 a0_10 l0_11 t422).bind fun t427 => (if t427 = 0 then ((boarderlaw16_knows.f kj2).bind fun t428 => (some t428)) else (some false))) else (some false)) = some r := H
          have A16 := Aside0.mk A160
          clear A160
          by_cases c17 : t426 = 0
          · rw [if_pos c17] at H
            have c17b0 : (t426 == 0) = true := beq_iff_eq.mpr c17
            have c17b1 : (t426 != 0) = false := bne_eq_false_iff_eq.mpr c17
            clear c17
            replace H := Option.bind_eq_some_iff.mp H
            obtain ⟨t427, A180, H⟩ := H
            replace H : (if t427 = 0 then ((boarderlaw16_knows.f kj2).bind fun t428 => (some t428)) else (some false)) = some r := H
            have A18 := Aside0.mk A180
            clear A180
            by_cases c19 : t427 = 0
            · rw [if_pos c19] at H
              have c19b0 : (t427 == 0) = true := beq_iff_eq.mpr c19
              have c19b1 : (t427 != 0) = false := bne_eq_false_iff_eq.mpr c19
              clear c19
              replace H := Option.bind_eq_some_iff.mp H
              obtain ⟨t428, A200, H⟩ := H
              replace H : (some t428) = some r := H
              have A20 := Aside0.mk A200
              clear A200
              obtain rfl := Option.some.inj H
              have hcz21_0 : wc.cell? ⟨gb419, 0, none⟩ = some (.int .i64 a0_0) := (blk_cell BK419.out 0).trans rfl
              have hcz21_1 : wc.cell? ⟨gb419, 1, none⟩ = some (.int .i64 a0_1) := (blk_cell BK419.out 1).trans rfl
              have hcz21_2 : wc.cell? ⟨gb419, 2, none⟩ = some (.int .i64 a0_2) := (blk_cell BK419.out 2).trans rfl
              have hcz21_3 : wc.cell? ⟨gb419, 3, none⟩ = some (.int .i64 a0_3) := (blk_cell BK419.out 3).trans rfl
              have hcz21_4 : wc.cell? ⟨gb419, 4, none⟩ = some (.int .i64 a0_4) := (blk_cell BK419.out 4).trans rfl
              have hcz21_5 : wc.cell? ⟨gb419, 5, none⟩ = some (.int .i64 a0_5) := (blk_cell BK419.out 5).trans rfl
              have hcz21_6 : wc.cell? ⟨gb419, 6, none⟩ = some (.int .i64 a0_6) := (blk_cell BK419.out 6).trans rfl
              have hcz21_7 : wc.cell? ⟨gb419, 7, none⟩ = some (.int .i64 a0_7) := (blk_cell BK419.out 7).trans rfl
              have hcz21_8 : wc.cell? ⟨gb419, 8, none⟩ = some (.int .i64 a0_8) := (blk_cell BK419.out 8).trans rfl
              have hcz21_9 : wc.cell? ⟨gb419, 9, none⟩ = some (.int .i64 a0_9) := (blk_cell BK419.out 9).trans rfl
              have hcz21_10 : wc.cell? ⟨gb419, 10, none⟩ = some (.int .i64 a0_10) := (blk_cell BK419.out 10).trans rfl
              have hcz21_11 : wc.cell? ⟨gb419, 11, none⟩ = some (.slice A0_11 l0_11.length c0_11) := (blk_cell BK419.out 11).trans rfl
              have hcz21_12 : wc.cell? ⟨gb419, 12, none⟩ = some (.slice A0_12 l0_12.length c0_12) := (blk_cell BK419.out 12).trans rfl
              have hfz21_0 := blk_frozen BK419.out 0
              have hfz21_1 := blk_frozen BK419.out 1
              have hfz21_2 := blk_frozen BK419.out 2
              have hfz21_3 := blk_frozen BK419.out 3
              have hfz21_4 := blk_frozen BK419.out 4
              have hfz21_5 := blk_frozen BK419.out 5
              have hfz21_6 := blk_frozen BK419.out 6
              have hfz21_7 := blk_frozen BK419.out 7
              have hfz21_8 := blk_frozen BK419.out 8
              have hfz21_9 := blk_frozen BK419.out 9
              have hfz21_10 := blk_frozen BK419.out 10
              have hfz21_11 := blk_frozen BK419.out 11
              have hfz21_12 := blk_frozen BK419.out 12
              go_wp2_with (first | ((with_reducible refine gate_callee (f := 54) rfl ?_); refine goesL_ (some 18) rfl rfl Try.func54 (by kernel_rfl) rfl #[.slice A0_12 l0_12.length c0_12, .int .i64 53, .int .i64 a1, .int .i64 1] rfl (by (try simp only [List.map_toArray, List.map_cons, List.map_nil]); first | done | rfl | (simp only [List.length_drop, List.length_take]; rfl)) ?_; (with_reducible refine (opts_Set.calls kj2 _ _ l0_12 53 a1 1 t422 t425 _ ?side1 ?side2 A14.out).mono ?_); (case side1 => repeat (first | exact (Kd.C_below HR0_12.out HB.out) | (with_reducible refine Kd.C_alloc ?_ _) | (with_reducible refine Kd.C_drewN ?_ _) | (with_reducible refine Kd.C_drew ?_))); (case side2 => exact HC0_12.out); rintro e w22 ⟨v423, rfl, ho0, hb⟩; refine ⟨_, rfl, ?_⟩; have n0_ := Aside0.mk (Kd.N_lower (Kd.N_mono (ok' := fun k_ => k_ ≠ gb419) ho0 (fun k_ hk_ => (Kd.freshB (g := gb419) (o := .cells #[.int .i64 a0_0, .int .i64 a0_1, .int .i64 a0_2, .int .i64 a0_3, .int .i64 a0_4, .int .i64 a0_5, .int .i64 a0_6, .int .i64 a0_7, .int .i64 a0_8, .int .i64 a0_9, .int .i64 a0_10, .slice A0_11 l0_11.length c0_11, .slice A0_12 l0_12.length c0_12] 42 (0, 0)) (by (with_reducible repeat (first | refine blk_drewN ?_ _ | refine blk_drew ?_ | refine blk_alloc ?_ _)); exact BK419.out) k_ hk_))) (below_size (by repeat (first | (with_reducible first | exact HB.out | apply below_alloc | apply pw_below_drewN | apply below_drew1 | refine below_set ?_ GE419.out) | exact HB.out)))); have n1_ := Aside0.mk (blk_below (g := gb419) (o := .cells #[.int .i64 a0_0, .int .i64 a0_1, .int .i64 a0_2, .int .i64 a0_3, .int .i64 a0_4, .int .i64 a0_5, .int .i64 a0_6, .int .i64 a0_7, .int .i64 a0_8, .int .i64 a0_9, .int .i64 a0_10, .slice A0_11 l0_11.length c0_11, .slice A0_12 l0_12.length c0_12] 42 (0, 0)) (by (with_reducible repeat (first | refine blk_drewN ?_ _ | refine blk_drew ?_ | refine blk_alloc ?_ _)); exact BK419.out) hb); have n2_ := Aside0.mk (below_step (by repeat (first | (with_reducible first | exact HB.out | apply below_alloc | apply pw_below_drewN | apply below_drew1 | refine below_set ?_ GE419.out) | exact HB.out)) hb); clear BK419; clear HB; have HO424 := n0_; have BK419 := n1_; have HB := n2_; clear n0_ n1_ n2_; (try clear hb); (try clear hb2); (try clear hk); (try clear hi); (try clear ho0); obtain ⟨Ao23, co23, eo23⟩ := Kd.N_slice HO424.out; subst eo23; have hcz24_0 : w22.cell? ⟨gb419, 0, none⟩ = some (.int .i64 a0_0) := (blk_cell BK419.out 0).trans rfl; have hcz24_1 : w22.cell? ⟨gb419, 1, none⟩ = some (.int .i64 a0_1) := (blk_cell BK419.out 1).trans rfl; have hcz24_2 : w22.cell? ⟨gb419, 2, none⟩ = some (.int .i64 a0_2) := (blk_cell BK419.out 2).trans rfl; have hcz24_3 : w22.cell? ⟨gb419, 3, none⟩ = some (.int .i64 a0_3) := (blk_cell BK419.out 3).trans rfl; have hcz24_4 : w22.cell? ⟨gb419, 4, none⟩ = some (.int .i64 a0_4) := (blk_cell BK419.out 4).trans rfl; have hcz24_5 : w22.cell? ⟨gb419, 5, none⟩ = some (.int .i64 a0_5) := (blk_cell BK419.out 5).trans rfl; have hcz24_6 : w22.cell? ⟨gb419, 6, none⟩ = some (.int .i64 a0_6) := (blk_cell BK419.out 6).trans rfl; have hcz24_7 : w22.cell? ⟨gb419, 7, none⟩ = some (.int .i64 a0_7) := (blk_cell BK419.out 7).trans rfl; have hcz24_8 : w22.cell? ⟨gb419, 8, none⟩ = some (.int .i64 a0_8) := (blk_cell BK419.out 8).trans rfl; have hcz24_9 : w22.cell? ⟨gb419, 9, none⟩ = some (.int .i64 a0_9) := (blk_cell BK419.out 9).trans rfl; have hcz24_10 : w22.cell? ⟨gb419, 10, none⟩ = some (.int .i64 a0_10) := (blk_cell BK419.out 10).trans rfl; have hcz24_11 : w22.cell? ⟨gb419, 11, none⟩ = some (.slice A0_11 l0_11.length c0_11) := (blk_cell BK419.out 11).trans rfl; have hcz24_12 : w22.cell? ⟨gb419, 12, none⟩ = some (.slice A0_12 l0_12.length c0_12) := (blk_cell BK419.out 12).trans rfl; have hfz24_0 := blk_frozen BK419.out 0; have hfz24_1 := blk_frozen BK419.out 1; have hfz24_2 := blk_frozen BK419.out 2; have hfz24_3 := blk_frozen BK419.out 3; have hfz24_4 := blk_frozen BK419.out 4; have hfz24_5 := blk_frozen BK419.out 5; have hfz24_6 := blk_frozen BK419.out 6; have hfz24_7 := blk_frozen BK419.out 7; have hfz24_8 := blk_frozen BK419.out 8; have hfz24_9 := blk_frozen BK419.out 9; have hfz24_10 := blk_frozen BK419.out 10; have hfz24_11 := blk_frozen BK419.out 11; have hfz24_12 := blk_frozen BK419.out 12) | ((with_reducible refine gate_callee (f := 33) rfl ?_); refine goesL_ (some 35) rfl rfl Try.func33 (by kernel_rfl) rfl #[.agg #[.int .i64 a0_0, .int .i64 a0_1, .int .i64 a0_2, .int .i64 a0_3, .int .i64 a0_4, .int .i64 a0_5, .int .i64 a0_6, .int .i64 a0_7, .int .i64 a0_8, .int .i64 a0_9, .int .i64 a0_10, .slice A0_11 l0_11.length c0_11, .slice Ao23 t422.length co23]] rfl (by (try simp only [List.map_toArray, List.map_cons, List.map_nil]); first | done | rfl | (simp only [List.length_drop, List.length_take]; rfl)) ?_; (with_reducible refine (class_Of.calls kj2 a0_0 a0_1 a0_2 a0_3 a0_4 a0_5 a0_6 a0_7 a0_8 a0_9 a0_10 _ _ l0_11 _ _ t422 t426 _ ?side1 ?side2 ?side3 ?side4 A16.out).mono ?_); (case side1 => exact Kd.C_below HR0_11.out (by repeat (first | (with_reducible first | exact HB.out | apply below_alloc | apply pw_below_drewN | apply below_drew1 | refine below_set ?_ GE419.out) | exact HB.out))); (case side2 => exact HC0_11.out); (case side3 => refine (Kd.N_reads' (e := 70) (base := w.heap.size) (ok := fun k_ => k_ ≠ gb419) (n := t422.length) (c := co23) ?_).2.2; exact (by (with_reducible repeat (first | apply Kd.N_alloc | apply Kd.N_drewN | apply Kd.N_drew)); exact (Kd.N_mono (Kd.N_far (p := ⟨gb419, 12, none⟩) (Kd.N_mono HO424.out (fun k_ hk => (⟨hk, hk⟩ : _ ∧ k_ ≠ gb419))) (fun _ hk => hk.2) (.slice Ao23 t422.length co23)) (fun _ h_ => h_.1)))); (case side4 => exact (Kd.N_reads' HO424.out).2.1); rintro e w25 ⟨rfl, hb⟩; refine ⟨_, rfl, ?_⟩; have n0_ := Aside0.mk (Kd.N_below (by (with_reducible repeat (first | apply Kd.N_alloc | apply Kd.N_drewN | apply Kd.N_drew)); exact (Kd.N_mono (Kd.N_far (p := ⟨gb419, 12, none⟩) (Kd.N_mono HO424.out (fun k_ hk => (⟨hk, hk⟩ : _ ∧ k_ ≠ gb419))) (fun _ hk => hk.2) (.slice Ao23 t422.length co23)) (fun _ h_ => h_.1))) hb); have n1_ := Aside0.mk (blk_below (g := gb419) (o := .cells #[.int .i64 a0_0, .int .i64 a0_1, .int .i64 a0_2, .int .i64 a0_3, .int .i64 a0_4, .int .i64 a0_5, .int .i64 a0_6, .int .i64 a0_7, .int .i64 a0_8, .int .i64 a0_9, .int .i64 a0_10, .slice A0_11 l0_11.length c0_11, .slice Ao23 t422.length co23] 42 (0, 0)) (by (with_reducible repeat (first | refine blk_drewN ?_ _ | refine blk_drew ?_ | refine blk_alloc ?_ _)); refine blk_put (cs := #[.int .i64 a0_0, .int .i64 a0_1, .int .i64 a0_2, .int .i64 a0_3, .int .i64 a0_4, .int .i64 a0_5, .int .i64 a0_6, .int .i64 a0_7, .int .i64 a0_8, .int .i64 a0_9, .int .i64 a0_10, .slice A0_11 l0_11.length c0_11, .slice A0_12 l0_12.length c0_12]) ?_ 12 _ rfl; (with_reducible repeat (first | refine blk_drewN ?_ _ | refine blk_drew ?_ | refine blk_alloc ?_ _)); exact BK419.out) hb); have n2_ := Aside0.mk (below_step (by repeat (first | (with_reducible first | exact HB.out | apply below_alloc | apply pw_below_drewN | apply below_drew1 | refine below_set ?_ GE419.out) | exact HB.out)) hb); clear HO424; clear BK419; clear HB; have HO424 := n0_; have BK419 := n1_; have HB := n2_; clear n0_ n1_ n2_; (try clear hb); (try clear hb2); (try clear hk); (try clear hi); have hcz26_0 : w25.cell? ⟨gb419, 0, none⟩ = some (.int .i64 a0_0) := (blk_cell BK419.out 0).trans rfl; have hcz26_1 : w25.cell? ⟨gb419, 1, none⟩ = some (.int .i64 a0_1) := (blk_cell BK419.out 1).trans rfl; have hcz26_2 : w25.cell? ⟨gb419, 2, none⟩ = some (.int .i64 a0_2) := (blk_cell BK419.out 2).trans rfl; have hcz26_3 : w25.cell? ⟨gb419, 3, none⟩ = some (.int .i64 a0_3) := (blk_cell BK419.out 3).trans rfl; have hcz26_4 : w25.cell? ⟨gb419, 4, none⟩ = some (.int .i64 a0_4) := (blk_cell BK419.out 4).trans rfl; have hcz26_5 : w25.cell? ⟨gb419, 5, none⟩ = some (.int .i64 a0_5) := (blk_cell BK419.out 5).trans rfl; have hcz26_6 : w25.cell? ⟨gb419, 6, none⟩ = some (.int .i64 a0_6) := (blk_cell BK419.out 6).trans rfl; have hcz26_7 : w25.cell? ⟨gb419, 7, none⟩ = some (.int .i64 a0_7) := (blk_cell BK419.out 7).trans rfl; have hcz26_8 : w25.cell? ⟨gb419, 8, none⟩ = some (.int .i64 a0_8) := (blk_cell BK419.out 8).trans rfl; have hcz26_9 : w25.cell? ⟨gb419, 9, none⟩ = some (.int .i64 a0_9) := (blk_cell BK419.out 9).trans rfl; have hcz26_10 : w25.cell? ⟨gb419, 10, none⟩ = some (.int .i64 a0_10) := (blk_cell BK419.out 10).trans rfl; have hcz26_11 : w25.cell? ⟨gb419, 11, none⟩ = some (.slice A0_11 l0_11.length c0_11) := (blk_cell BK419.out 11).trans rfl; have hcz26_12 : w25.cell? ⟨gb419, 12, none⟩ = some (.slice Ao23 t422.length co23) := (blk_cell BK419.out 12).trans rfl; have hfz26_0 := blk_frozen BK419.out 0; have hfz26_1 := blk_frozen BK419.out 1; have hfz26_2 := blk_frozen BK419.out 2; have hfz26_3 := blk_frozen BK419.out 3; have hfz26_4 := blk_frozen BK419.out 4; have hfz26_5 := blk_frozen BK419.out 5; have hfz26_6 := blk_frozen BK419.out 6; have hfz26_7 := blk_frozen BK419.out 7; have hfz26_8 := blk_frozen BK419.out 8; have hfz26_9 := blk_frozen BK419.out 9; have hfz26_10 := blk_frozen BK419.out 10; have hfz26_11 := blk_frozen BK419.out 11; have hfz26_12 := blk_frozen BK419.out 12) | (go_at_call 35; (with_reducible refine (class_About.calls kj2 a0_0 a0_1 a0_2 a0_3 a0_4 a0_5 a0_6 a0_7 a0_8 a0_9 a0_10 _ _ l0_11 _ _ t422 t427 _ ?side1 ?side2 ?side3 ?side4 A18.out).mono ?_); (case side1 => repeat (first | exact (Kd.C_below HR0_11.out HB.out) | (with_reducible refine Kd.C_alloc ?_ _) | (with_reducible refine Kd.C_drewN ?_ _) | (with_reducible refine Kd.C_drew ?_))); (case side2 => exact HC0_11.out); (case side3 => repeat (first | exact (Kd.N_reads' HO424.out).2.2 | (with_reducible refine Kd.C_alloc ?_ _) | (with_reducible refine Kd.C_drewN ?_ _) | (with_reducible refine Kd.C_drew ?_))); (case side4 => exact (Kd.N_reads' HO424.out).2.1); rintro e w27 ⟨rfl, hb⟩; have n0_ := Aside0.mk (Kd.N_below (by (with_reducible repeat (first | apply Kd.N_alloc | apply Kd.N_drewN | apply Kd.N_drew)); exact HO424.out) hb); have n1_ := Aside0.mk (blk_below (g := gb419) (o := .cells #[.int .i64 a0_0, .int .i64 a0_1, .int .i64 a0_2, .int .i64 a0_3, .int .i64 a0_4, .int .i64 a0_5, .int .i64 a0_6, .int .i64 a0_7, .int .i64 a0_8, .int .i64 a0_9, .int .i64 a0_10, .slice A0_11 l0_11.length c0_11, .slice Ao23 t422.length co23] 42 (0, 0)) (by (with_reducible repeat (first | refine blk_drewN ?_ _ | refine blk_drew ?_ | refine blk_alloc ?_ _)); exact BK419.out) hb); have n2_ := Aside0.mk (below_step (by repeat (first | (with_reducible first | exact HB.out | apply below_alloc | apply pw_below_drewN | apply below_drew1 | refine below_set ?_ GE419.out) | exact HB.out)) hb); clear HO424; clear BK419; clear HB; have HO424 := n0_; have BK419 := n1_; have HB := n2_; clear n0_ n1_ n2_; (try clear hb); (try clear hb2); (try clear hk); (try clear hi)) | (go_at_call 31; (with_reducible refine (boarderlaw16_knows.calls kj2  t428 _ A20.out).mono ?_); rintro e w28 ⟨rfl, hb⟩; have n0_ := Aside0.mk (Kd.N_below (by (with_reducible repeat (first | apply Kd.N_alloc | apply Kd.N_drewN | apply Kd.N_drew)); exact HO424.out) hb); have n1_ := Aside0.mk (blk_below (g := gb419) (o := .cells #[.int .i64 a0_0, .int .i64 a0_1, .int .i64 a0_2, .int .i64 a0_3, .int .i64 a0_4, .int .i64 a0_5, .int .i64 a0_6, .int .i64 a0_7, .int .i64 a0_8, .int .i64 a0_9, .int .i64 a0_10, .slice A0_11 l0_11.length c0_11, .slice Ao23 t422.length co23] 42 (0, 0)) (by (with_reducible repeat (first | refine blk_drewN ?_ _ | refine blk_drew ?_ | refine blk_alloc ?_ _)); exact BK419.out) hb); have n2_ := Aside0.mk (below_step (by repeat (first | (with_reducible first | exact HB.out | apply below_alloc | apply pw_below_drewN | apply below_drew1 | refine below_set ?_ GE419.out) | exact HB.out)) hb); clear HO424; clear BK419; clear HB; have HO424 := n0_; have BK419 := n1_; have HB := n2_; clear n0_ n1_ n2_; (try clear hb); (try clear hb2); (try clear hk); (try clear hi)))
              go_ret
              exact ⟨by first | rfl | (simp [errW_none, errW_some] <;> rfl) | (simp [*, errW_none, errW_some] <;> rfl), by repeat (first | (with_reducible first | exact HB.out | apply below_alloc | apply pw_below_drewN | apply below_drew1 | refine below_set ?_ GE419.out) | exact HB.out)⟩
            · rw [if_neg c19] at H
              have c19b0 : (t427 == 0) = false := beq_eq_false_iff_ne.mpr c19
              have c19b1 : (t427 != 0) = true := bne_iff_ne.mpr c19
              obtain rfl := Option.some.inj H
              have hcz29_0 : wc.cell? ⟨gb419, 0, none⟩ = some (.int .i64 a0_0) := (blk_cell BK419.out 0).trans rfl
              have hcz29_1 : wc.cell? ⟨gb419, 1, none⟩ = some (.int .i64 a0_1) := (blk_cell BK419.out 1).trans rfl
              have hcz29_2 : wc.cell? ⟨gb419, 2, none⟩ = some (.int .i64 a0_2) := (blk_cell BK419.out 2).trans rfl
              have hcz29_3 : wc.cell? ⟨gb419, 3, none⟩ = some (.int .i64 a0_3) := (blk_cell BK419.out 3).trans rfl
              have hcz29_4 : wc.cell? ⟨gb419, 4, none⟩ = some (.int .i64 a0_4) := (blk_cell BK419.out 4).trans rfl
              have hcz29_5 : wc.cell? ⟨gb419, 5, none⟩ = some (.int .i64 a0_5) := (blk_cell BK419.out 5).trans rfl
              have hcz29_6 : wc.cell? ⟨gb419, 6, none⟩ = some (.int .i64 a0_6) := (blk_cell BK419.out 6).trans rfl
              have hcz29_7 : wc.cell? ⟨gb419, 7, none⟩ = some (.int .i64 a0_7) := (blk_cell BK419.out 7).trans rfl
              have hcz29_8 : wc.cell? ⟨gb419, 8, none⟩ = some (.int .i64 a0_8) := (blk_cell BK419.out 8).trans rfl
              have hcz29_9 : wc.cell? ⟨gb419, 9, none⟩ = some (.int .i64 a0_9) := (blk_cell BK419.out 9).trans rfl
              have hcz29_10 : wc.cell? ⟨gb419, 10, none⟩ = some (.int .i64 a0_10) := (blk_cell BK419.out 10).trans rfl
              have hcz29_11 : wc.cell? ⟨gb419, 11, none⟩ = some (.slice A0_11 l0_11.length c0_11) := (blk_cell BK419.out 11).trans rfl
              have hcz29_12 : wc.cell? ⟨gb419, 12, none⟩ = some (.slice A0_12 l0_12.length c0_12) := (blk_cell BK419.out 12).trans rfl
              have hfz29_0 := blk_frozen BK419.out 0
              have hfz29_1 := blk_frozen BK419.out 1
              have hfz29_2 := blk_frozen BK419.out 2
              have hfz29_3 := blk_frozen BK419.out 3
              have hfz29_4 := blk_frozen BK419.out 4
              have hfz29_5 := blk_frozen BK419.out 5
              have hfz29_6 := blk_frozen BK419.out 6
              have hfz29_7 := blk_frozen BK419.out 7
              have hfz29_8 := blk_frozen BK419.out 8
              have hfz29_9 := blk_frozen BK419.out 9
              have hfz29_10 := blk_frozen BK419.out 10
              have hfz29_11 := blk_frozen BK419.out 11
              have hfz29_12 := blk_frozen BK419.out 12
              go_wp2_with (first | ((with_reducible refine gate_callee (f := 54) rfl ?_); refine goesL_ (some 18) rfl rfl Try.func54 (by kernel_rfl) rfl #[.slice A0_12 l0_12.length c0_12, .int .i64 53, .int .i64 a1, .int .i64 1] rfl (by (try simp only [List.map_toArray, List.map_cons, List.map_nil]); first | done | rfl | (simp only [List.length_drop, List.length_take]; rfl)) ?_; (with_reducible refine (opts_Set.calls kj2 _ _ l0_12 53 a1 1 t422 t425 _ ?side1 ?side2 A14.out).mono ?_); (case side1 => repeat (first | exact (Kd.C_below HR0_12.out HB.out) | (with_reducible refine Kd.C_alloc ?_ _) | (with_reducible refine Kd.C_drewN ?_ _) | (with_reducible refine Kd.C_drew ?_))); (case side2 => exact HC0_12.out); rintro e w30 ⟨v423, rfl, ho0, hb⟩; refine ⟨_, rfl, ?_⟩; have n0_ := Aside0.mk (Kd.N_lower (Kd.N_mono (ok' := fun k_ => k_ ≠ gb419) ho0 (fun k_ hk_ => (Kd.freshB (g := gb419) (o := .cells #[.int .i64 a0_0, .int .i64 a0_1, .int .i64 a0_2, .int .i64 a0_3, .int .i64 a0_4, .int .i64 a0_5, .int .i64 a0_6, .int .i64 a0_7, .int .i64 a0_8, .int .i64 a0_9, .int .i64 a0_10, .slice A0_11 l0_11.length c0_11, .slice A0_12 l0_12.length c0_12] 42 (0, 0)) (by (with_reducible repeat (first | refine blk_drewN ?_ _ | refine blk_drew ?_ | refine blk_alloc ?_ _)); exact BK419.out) k_ hk_))) (below_size (by repeat (first | (with_reducible first | exact HB.out | apply below_alloc | apply pw_below_drewN | apply below_drew1 | refine below_set ?_ GE419.out) | exact HB.out)))); have n1_ := Aside0.mk (blk_below (g := gb419) (o := .cells #[.int .i64 a0_0, .int .i64 a0_1, .int .i64 a0_2, .int .i64 a0_3, .int .i64 a0_4, .int .i64 a0_5, .int .i64 a0_6, .int .i64 a0_7, .int .i64 a0_8, .int .i64 a0_9, .int .i64 a0_10, .slice A0_11 l0_11.length c0_11, .slice A0_12 l0_12.length c0_12] 42 (0, 0)) (by (with_reducible repeat (first | refine blk_drewN ?_ _ | refine blk_drew ?_ | refine blk_alloc ?_ _)); exact BK419.out) hb); have n2_ := Aside0.mk (below_step (by repeat (first | (with_reducible first | exact HB.out | apply below_alloc | apply pw_below_drewN | apply below_drew1 | refine below_set ?_ GE419.out) | exact HB.out)) hb); clear BK419; clear HB; have HO424 := n0_; have BK419 := n1_; have HB := n2_; clear n0_ n1_ n2_; (try clear hb); (try clear hb2); (try clear hk); (try clear hi); (try clear ho0); obtain ⟨Ao31, co31, eo31⟩ := Kd.N_slice HO424.out; subst eo31; have hcz32_0 : w30.cell? ⟨gb419, 0, none⟩ = some (.int .i64 a0_0) := (blk_cell BK419.out 0).trans rfl; have hcz32_1 : w30.cell? ⟨gb419, 1, none⟩ = some (.int .i64 a0_1) := (blk_cell BK419.out 1).trans rfl; have hcz32_2 : w30.cell? ⟨gb419, 2, none⟩ = some (.int .i64 a0_2) := (blk_cell BK419.out 2).trans rfl; have hcz32_3 : w30.cell? ⟨gb419, 3, none⟩ = some (.int .i64 a0_3) := (blk_cell BK419.out 3).trans rfl; have hcz32_4 : w30.cell? ⟨gb419, 4, none⟩ = some (.int .i64 a0_4) := (blk_cell BK419.out 4).trans rfl; have hcz32_5 : w30.cell? ⟨gb419, 5, none⟩ = some (.int .i64 a0_5) := (blk_cell BK419.out 5).trans rfl; have hcz32_6 : w30.cell? ⟨gb419, 6, none⟩ = some (.int .i64 a0_6) := (blk_cell BK419.out 6).trans rfl; have hcz32_7 : w30.cell? ⟨gb419, 7, none⟩ = some (.int .i64 a0_7) := (blk_cell BK419.out 7).trans rfl; have hcz32_8 : w30.cell? ⟨gb419, 8, none⟩ = some (.int .i64 a0_8) := (blk_cell BK419.out 8).trans rfl; have hcz32_9 : w30.cell? ⟨gb419, 9, none⟩ = some (.int .i64 a0_9) := (blk_cell BK419.out 9).trans rfl; have hcz32_10 : w30.cell? ⟨gb419, 10, none⟩ = some (.int .i64 a0_10) := (blk_cell BK419.out 10).trans rfl; have hcz32_11 : w30.cell? ⟨gb419, 11, none⟩ = some (.slice A0_11 l0_11.length c0_11) := (blk_cell BK419.out 11).trans rfl; have hcz32_12 : w30.cell? ⟨gb419, 12, none⟩ = some (.slice A0_12 l0_12.length c0_12) := (blk_cell BK419.out 12).trans rfl; have hfz32_0 := blk_frozen BK419.out 0; have hfz32_1 := blk_frozen BK419.out 1; have hfz32_2 := blk_frozen BK419.out 2; have hfz32_3 := blk_frozen BK419.out 3; have hfz32_4 := blk_frozen BK419.out 4; have hfz32_5 := blk_frozen BK419.out 5; have hfz32_6 := blk_frozen BK419.out 6; have hfz32_7 := blk_frozen BK419.out 7; have hfz32_8 := blk_frozen BK419.out 8; have hfz32_9 := blk_frozen BK419.out 9; have hfz32_10 := blk_frozen BK419.out 10; have hfz32_11 := blk_frozen BK419.out 11; have hfz32_12 := blk_frozen BK419.out 12) | ((with_reducible refine gate_callee (f := 33) rfl ?_); refine goesL_ (some 35) rfl rfl Try.func33 (by kernel_rfl) rfl #[.agg #[.int .i64 a0_0, .int .i64 a0_1, .int .i64 a0_2, .int .i64 a0_3, .int .i64 a0_4, .int .i64 a0_5, .int .i64 a0_6, .int .i64 a0_7, .int .i64 a0_8, .int .i64 a0_9, .int .i64 a0_10, .slice A0_11 l0_11.length c0_11, .slice Ao31 t422.length co31]] rfl (by (try simp only [List.map_toArray, List.map_cons, List.map_nil]); first | done | rfl | (simp only [List.length_drop, List.length_take]; rfl)) ?_; (with_reducible refine (class_Of.calls kj2 a0_0 a0_1 a0_2 a0_3 a0_4 a0_5 a0_6 a0_7 a0_8 a0_9 a0_10 _ _ l0_11 _ _ t422 t426 _ ?side1 ?side2 ?side3 ?side4 A16.out).mono ?_); (case side1 => exact Kd.C_below HR0_11.out (by repeat (first | (with_reducible first | exact HB.out | apply below_alloc | apply pw_below_drewN | apply below_drew1 | refine below_set ?_ GE419.out) | exact HB.out))); (case side2 => exact HC0_11.out); (case side3 => refine (Kd.N_reads' (e := 70) (base := w.heap.size) (ok := fun k_ => k_ ≠ gb419) (n := t422.length) (c := co31) ?_).2.2; exact (by (with_reducible repeat (first | apply Kd.N_alloc | apply Kd.N_drewN | apply Kd.N_drew)); exact (Kd.N_mono (Kd.N_far (p := ⟨gb419, 12, none⟩) (Kd.N_mono HO424.out (fun k_ hk => (⟨hk, hk⟩ : _ ∧ k_ ≠ gb419))) (fun _ hk => hk.2) (.slice Ao31 t422.length co31)) (fun _ h_ => h_.1)))); (case side4 => exact (Kd.N_reads' HO424.out).2.1); rintro e w33 ⟨rfl, hb⟩; refine ⟨_, rfl, ?_⟩; have n0_ := Aside0.mk (Kd.N_below (by (with_reducible repeat (first | apply Kd.N_alloc | apply Kd.N_drewN | apply Kd.N_drew)); exact (Kd.N_mono (Kd.N_far (p := ⟨gb419, 12, none⟩) (Kd.N_mono HO424.out (fun k_ hk => (⟨hk, hk⟩ : _ ∧ k_ ≠ gb419))) (fun _ hk => hk.2) (.slice Ao31 t422.length co31)) (fun _ h_ => h_.1))) hb); have n1_ := Aside0.mk (blk_below (g := gb419) (o := .cells #[.int .i64 a0_0, .int .i64 a0_1, .int .i64 a0_2, .int .i64 a0_3, .int .i64 a0_4, .int .i64 a0_5, .int .i64 a0_6, .int .i64 a0_7, .int .i64 a0_8, .int .i64 a0_9, .int .i64 a0_10, .slice A0_11 l0_11.length c0_11, .slice Ao31 t422.length co31] 42 (0, 0)) (by (with_reducible repeat (first | refine blk_drewN ?_ _ | refine blk_drew ?_ | refine blk_alloc ?_ _)); refine blk_put (cs := #[.int .i64 a0_0, .int .i64 a0_1, .int .i64 a0_2, .int .i64 a0_3, .int .i64 a0_4, .int .i64 a0_5, .int .i64 a0_6, .int .i64 a0_7, .int .i64 a0_8, .int .i64 a0_9, .int .i64 a0_10, .slice A0_11 l0_11.length c0_11, .slice A0_12 l0_12.length c0_12]) ?_ 12 _ rfl; (with_reducible repeat (first | refine blk_drewN ?_ _ | refine blk_drew ?_ | refine blk_alloc ?_ _)); exact BK419.out) hb); have n2_ := Aside0.mk (below_step (by repeat (first | (with_reducible first | exact HB.out | apply below_alloc | apply pw_below_drewN | apply below_drew1 | refine below_set ?_ GE419.out) | exact HB.out)) hb); clear HO424; clear BK419; clear HB; have HO424 := n0_; have BK419 := n1_; have HB := n2_; clear n0_ n1_ n2_; (try clear hb); (try clear hb2); (try clear hk); (try clear hi); have hcz34_0 : w33.cell? ⟨gb419, 0, none⟩ = some (.int .i64 a0_0) := (blk_cell BK419.out 0).trans rfl; have hcz34_1 : w33.cell? ⟨gb419, 1, none⟩ = some (.int .i64 a0_1) := (blk_cell BK419.out 1).trans rfl; have hcz34_2 : w33.cell? ⟨gb419, 2, none⟩ = some (.int .i64 a0_2) := (blk_cell BK419.out 2).trans rfl; have hcz34_3 : w33.cell? ⟨gb419, 3, none⟩ = some (.int .i64 a0_3) := (blk_cell BK419.out 3).trans rfl; have hcz34_4 : w33.cell? ⟨gb419, 4, none⟩ = some (.int .i64 a0_4) := (blk_cell BK419.out 4).trans rfl; have hcz34_5 : w33.cell? ⟨gb419, 5, none⟩ = some (.int .i64 a0_5) := (blk_cell BK419.out 5).trans rfl; have hcz34_6 : w33.cell? ⟨gb419, 6, none⟩ = some (.int .i64 a0_6) := (blk_cell BK419.out 6).trans rfl; have hcz34_7 : w33.cell? ⟨gb419, 7, none⟩ = some (.int .i64 a0_7) := (blk_cell BK419.out 7).trans rfl; have hcz34_8 : w33.cell? ⟨gb419, 8, none⟩ = some (.int .i64 a0_8) := (blk_cell BK419.out 8).trans rfl; have hcz34_9 : w33.cell? ⟨gb419, 9, none⟩ = some (.int .i64 a0_9) := (blk_cell BK419.out 9).trans rfl; have hcz34_10 : w33.cell? ⟨gb419, 10, none⟩ = some (.int .i64 a0_10) := (blk_cell BK419.out 10).trans rfl; have hcz34_11 : w33.cell? ⟨gb419, 11, none⟩ = some (.slice A0_11 l0_11.length c0_11) := (blk_cell BK419.out 11).trans rfl; have hcz34_12 : w33.cell? ⟨gb419, 12, none⟩ = some (.slice Ao31 t422.length co31) := (blk_cell BK419.out 12).trans rfl; have hfz34_0 := blk_frozen BK419.out 0; have hfz34_1 := blk_frozen BK419.out 1; have hfz34_2 := blk_frozen BK419.out 2; have hfz34_3 := blk_frozen BK419.out 3; have hfz34_4 := blk_frozen BK419.out 4; have hfz34_5 := blk_frozen BK419.out 5; have hfz34_6 := blk_frozen BK419.out 6; have hfz34_7 := blk_frozen BK419.out 7; have hfz34_8 := blk_frozen BK419.out 8; have hfz34_9 := blk_frozen BK419.out 9; have hfz34_10 := blk_frozen BK419.out 10; have hfz34_11 := blk_frozen BK419.out 11; have hfz34_12 := blk_frozen BK419.out 12) | (go_at_call 35; (with_reducible refine (class_About.calls kj2 a0_0 a0_1 a0_2 a0_3 a0_4 a0_5 a0_6 a0_7 a0_8 a0_9 a0_10 _ _ l0_11 _ _ t422 t427 _ ?side1 ?side2 ?side3 ?side4 A18.out).mono ?_); (case side1 => repeat (first | exact (Kd.C_below HR0_11.out HB.out) | (with_reducible refine Kd.C_alloc ?_ _) | (with_reducible refine Kd.C_drewN ?_ _) | (with_reducible refine Kd.C_drew ?_))); (case side2 => exact HC0_11.out); (case side3 => repeat (first | exact (Kd.N_reads' HO424.out).2.2 | (with_reducible refine Kd.C_alloc ?_ _) | (with_reducible refine Kd.C_drewN ?_ _) | (with_reducible refine Kd.C_drew ?_))); (case side4 => exact (Kd.N_reads' HO424.out).2.1); rintro e w35 ⟨rfl, hb⟩; have n0_ := Aside0.mk (Kd.N_below (by (with_reducible repeat (first | apply Kd.N_alloc | apply Kd.N_drewN | apply Kd.N_drew)); exact HO424.out) hb); have n1_ := Aside0.mk (blk_below (g := gb419) (o := .cells #[.int .i64 a0_0, .int .i64 a0_1, .int .i64 a0_2, .int .i64 a0_3, .int .i64 a0_4, .int .i64 a0_5, .int .i64 a0_6, .int .i64 a0_7, .int .i64 a0_8, .int .i64 a0_9, .int .i64 a0_10, .slice A0_11 l0_11.length c0_11, .slice Ao31 t422.length co31] 42 (0, 0)) (by (with_reducible repeat (first | refine blk_drewN ?_ _ | refine blk_drew ?_ | refine blk_alloc ?_ _)); exact BK419.out) hb); have n2_ := Aside0.mk (below_step (by repeat (first | (with_reducible first | exact HB.out | apply below_alloc | apply pw_below_drewN | apply below_drew1 | refine below_set ?_ GE419.out) | exact HB.out)) hb); clear HO424; clear BK419; clear HB; have HO424 := n0_; have BK419 := n1_; have HB := n2_; clear n0_ n1_ n2_; (try clear hb); (try clear hb2); (try clear hk); (try clear hi)))
              go_ret
              exact ⟨by first | rfl | (simp [errW_none, errW_some] <;> rfl) | (simp [*, errW_none, errW_some] <;> rfl), by repeat (first | (with_reducible first | exact HB.out | apply below_alloc | apply pw_below_drewN | apply below_drew1 | refine below_set ?_ GE419.out) | exact HB.out)⟩
          · rw [if_neg c17] at H
            have c17b0 : (t426 == 0) = false := beq_eq_false_iff_ne.mpr c17
            have c17b1 : (t426 != 0) = true := bne_iff_ne.mpr c17
            obtain rfl := Option.some.inj H
            have hcz36_0 : wc.cell? ⟨gb419, 0, none⟩ = some (.int .i64 a0_0) := (blk_cell BK419.out 0).trans rfl
            have hcz36_1 : wc.cell? ⟨gb419, 1, none⟩ = some (.int .i64 a0_1) := (blk_cell BK419.out 1).trans rfl
            have hcz36_2 : wc.cell? ⟨gb419, 2, none⟩ = some (.int .i64 a0_2) := (blk_cell BK419.out 2).trans rfl
            have hcz36_3 : wc.cell? ⟨gb419, 3, none⟩ = some (.int .i64 a0_3) := (blk_cell BK419.out 3).trans rfl
            have hcz36_4 : wc.cell? ⟨gb419, 4, none⟩ = some (.int .i64 a0_4) := (blk_cell BK419.out 4).trans rfl
            have hcz36_5 : wc.cell? ⟨gb419, 5, none⟩ = some (.int .i64 a0_5) := (blk_cell BK419.out 5).trans rfl
            have hcz36_6 : wc.cell? ⟨gb419, 6, none⟩ = some (.int .i64 a0_6) := (blk_cell BK419.out 6).trans rfl
            have hcz36_7 : wc.cell? ⟨gb419, 7, none⟩ = some (.int .i64 a0_7) := (blk_cell BK419.out 7).trans rfl
            have hcz36_8 : wc.cell? ⟨gb419, 8, none⟩ = some (.int .i64 a0_8) := (blk_cell BK419.out 8).trans rfl
            have hcz36_9 : wc.cell? ⟨gb419, 9, none⟩ = some (.int .i64 a0_9) := (blk_cell BK419.out 9).trans rfl
            have hcz36_10 : wc.cell? ⟨gb419, 10, none⟩ = some (.int .i64 a0_10) := (blk_cell BK419.out 10).trans rfl
            have hcz36_11 : wc.cell? ⟨gb419, 11, none⟩ = some (.slice A0_11 l0_11.length c0_11) := (blk_cell BK419.out 11).trans rfl
            have hcz36_12 : wc.cell? ⟨gb419, 12, none⟩ = some (.slice A0_12 l0_12.length c0_12) := (blk_cell BK419.out 12).trans rfl
            have hfz36_0 := blk_frozen BK419.out 0
            have hfz36_1 := blk_frozen BK419.out 1
            have hfz36_2 := blk_frozen BK419.out 2
            have hfz36_3 := blk_frozen BK419.out 3
            have hfz36_4 := blk_frozen BK419.out 4
            have hfz36_5 := blk_frozen BK419.out 5
            have hfz36_6 := blk_frozen BK419.out 6
            have hfz36_7 := blk_frozen BK419.out 7
            have hfz36_8 := blk_frozen BK419.out 8
            have hfz36_9 := blk_frozen BK419.out 9
            have hfz36_10 := blk_frozen BK419.out 10
            have hfz36_11 := blk_frozen BK419.out 11
            have hfz36_12 := blk_frozen BK419.out 12
            go_wp2_with (first | ((with_reducible refine gate_callee (f := 54) rfl ?_); refine goesL_ (some 18) rfl rfl Try.func54 (by kernel_rfl) rfl #[.slice A0_12 l0_12.length c0_12, .int .i64 53, .int .i64 a1, .int .i64 1] rfl (by (try simp only [List.map_toArray, List.map_cons, List.map_nil]); first | done | rfl | (simp only [List.length_drop, List.length_take]; rfl)) ?_; (with_reducible refine (opts_Set.calls kj2 _ _ l0_12 53 a1 1 t422 t425 _ ?side1 ?side2 A14.out).mono ?_); (case side1 => repeat (first | exact (Kd.C_below HR0_12.out HB.out) | (with_reducible refine Kd.C_alloc ?_ _) | (with_reducible refine Kd.C_drewN ?_ _) | (with_reducible refine Kd.C_drew ?_))); (case side2 => exact HC0_12.out); rintro e w37 ⟨v423, rfl, ho0, hb⟩; refine ⟨_, rfl, ?_⟩; have n0_ := Aside0.mk (Kd.N_lower (Kd.N_mono (ok' := fun k_ => k_ ≠ gb419) ho0 (fun k_ hk_ => (Kd.freshB (g := gb419) (o := .cells #[.int .i64 a0_0, .int .i64 a0_1, .int .i64 a0_2, .int .i64 a0_3, .int .i64 a0_4, .int .i64 a0_5, .int .i64 a0_6, .int .i64 a0_7, .int .i64 a0_8, .int .i64 a0_9, .int .i64 a0_10, .slice A0_11 l0_11.length c0_11, .slice A0_12 l0_12.length c0_12] 42 (0, 0)) (by (with_reducible repeat (first | refine blk_drewN ?_ _ | refine blk_drew ?_ | refine blk_alloc ?_ _)); exact BK419.out) k_ hk_))) (below_size (by repeat (first | (with_reducible first | exact HB.out | apply below_alloc | apply pw_below_drewN | apply below_drew1 | refine below_set ?_ GE419.out) | exact HB.out)))); have n1_ := Aside0.mk (blk_below (g := gb419) (o := .cells #[.int .i64 a0_0, .int .i64 a0_1, .int .i64 a0_2, .int .i64 a0_3, .int .i64 a0_4, .int .i64 a0_5, .int .i64 a0_6, .int .i64 a0_7, .int .i64 a0_8, .int .i64 a0_9, .int .i64 a0_10, .slice A0_11 l0_11.length c0_11, .slice A0_12 l0_12.length c0_12] 42 (0, 0)) (by (with_reducible repeat (first | refine blk_drewN ?_ _ | refine blk_drew ?_ | refine blk_alloc ?_ _)); exact BK419.out) hb); have n2_ := Aside0.mk (below_step (by repeat (first | (with_reducible first | exact HB.out | apply below_alloc | apply pw_below_drewN | apply below_drew1 | refine below_set ?_ GE419.out) | exact HB.out)) hb); clear BK419; clear HB; have HO424 := n0_; have BK419 := n1_; have HB := n2_; clear n0_ n1_ n2_; (try clear hb); (try clear hb2); (try clear hk); (try clear hi); (try clear ho0); obtain ⟨Ao38, co38, eo38⟩ := Kd.N_slice HO424.out; subst eo38; have hcz39_0 : w37.cell? ⟨gb419, 0, none⟩ = some (.int .i64 a0_0) := (blk_cell BK419.out 0).trans rfl; have hcz39_1 : w37.cell? ⟨gb419, 1, none⟩ = some (.int .i64 a0_1) := (blk_cell BK419.out 1).trans rfl; have hcz39_2 : w37.cell? ⟨gb419, 2, none⟩ = some (.int .i64 a0_2) := (blk_cell BK419.out 2).trans rfl; have hcz39_3 : w37.cell? ⟨gb419, 3, none⟩ = some (.int .i64 a0_3) := (blk_cell BK419.out 3).trans rfl; have hcz39_4 : w37.cell? ⟨gb419, 4, none⟩ = some (.int .i64 a0_4) := (blk_cell BK419.out 4).trans rfl; have hcz39_5 : w37.cell? ⟨gb419, 5, none⟩ = some (.int .i64 a0_5) := (blk_cell BK419.out 5).trans rfl; have hcz39_6 : w37.cell? ⟨gb419, 6, none⟩ = some (.int .i64 a0_6) := (blk_cell BK419.out 6).trans rfl; have hcz39_7 : w37.cell? ⟨gb419, 7, none⟩ = some (.int .i64 a0_7) := (blk_cell BK419.out 7).trans rfl; have hcz39_8 : w37.cell? ⟨gb419, 8, none⟩ = some (.int .i64 a0_8) := (blk_cell BK419.out 8).trans rfl; have hcz39_9 : w37.cell? ⟨gb419, 9, none⟩ = some (.int .i64 a0_9) := (blk_cell BK419.out 9).trans rfl; have hcz39_10 : w37.cell? ⟨gb419, 10, none⟩ = some (.int .i64 a0_10) := (blk_cell BK419.out 10).trans rfl; have hcz39_11 : w37.cell? ⟨gb419, 11, none⟩ = some (.slice A0_11 l0_11.length c0_11) := (blk_cell BK419.out 11).trans rfl; have hcz39_12 : w37.cell? ⟨gb419, 12, none⟩ = some (.slice A0_12 l0_12.length c0_12) := (blk_cell BK419.out 12).trans rfl; have hfz39_0 := blk_frozen BK419.out 0; have hfz39_1 := blk_frozen BK419.out 1; have hfz39_2 := blk_frozen BK419.out 2; have hfz39_3 := blk_frozen BK419.out 3; have hfz39_4 := blk_frozen BK419.out 4; have hfz39_5 := blk_frozen BK419.out 5; have hfz39_6 := blk_frozen BK419.out 6; have hfz39_7 := blk_frozen BK419.out 7; have hfz39_8 := blk_frozen BK419.out 8; have hfz39_9 := blk_frozen BK419.out 9; have hfz39_10 := blk_frozen BK419.out 10; have hfz39_11 := blk_frozen BK419.out 11; have hfz39_12 := blk_frozen BK419.out 12) | ((with_reducible refine gate_callee (f := 33) rfl ?_); refine goesL_ (some 35) rfl rfl Try.func33 (by kernel_rfl) rfl #[.agg #[.int .i64 a0_0, .int .i64 a0_1, .int .i64 a0_2, .int .i64 a0_3, .int .i64 a0_4, .int .i64 a0_5, .int .i64 a0_6, .int .i64 a0_7, .int .i64 a0_8, .int .i64 a0_9, .int .i64 a0_10, .slice A0_11 l0_11.length c0_11, .slice Ao38 t422.length co38]] rfl (by (try simp only [List.map_toArray, List.map_cons, List.map_nil]); first | done | rfl | (simp only [List.length_drop, List.length_take]; rfl)) ?_; (with_reducible refine (class_Of.calls kj2 a0_0 a0_1 a0_2 a0_3 a0_4 a0_5 a0_6 a0_7 a0_8 a0_9 a0_10 _ _ l0_11 _ _ t422 t426 _ ?side1 ?side2 ?side3 ?side4 A16.out).mono ?_); (case side1 => exact Kd.C_below HR0_11.out (by repeat (first | (with_reducible first | exact HB.out | apply below_alloc | apply pw_below_drewN | apply below_drew1 | refine below_set ?_ GE419.out) | exact HB.out))); (case side2 => exact HC0_11.out); (case side3 => refine (Kd.N_reads' (e := 70) (base := w.heap.size) (ok := fun k_ => k_ ≠ gb419) (n := t422.length) (c := co38) ?_).2.2; exact (by (with_reducible repeat (first | apply Kd.N_alloc | apply Kd.N_drewN | apply Kd.N_drew)); exact (Kd.N_mono (Kd.N_far (p := ⟨gb419, 12, none⟩) (Kd.N_mono HO424.out (fun k_ hk => (⟨hk, hk⟩ : _ ∧ k_ ≠ gb419))) (fun _ hk => hk.2) (.slice Ao38 t422.length co38)) (fun _ h_ => h_.1)))); (case side4 => exact (Kd.N_reads' HO424.out).2.1); rintro e w40 ⟨rfl, hb⟩; refine ⟨_, rfl, ?_⟩; have n0_ := Aside0.mk (Kd.N_below (by (with_reducible repeat (first | apply Kd.N_alloc | apply Kd.N_drewN | apply Kd.N_drew)); exact (Kd.N_mono (Kd.N_far (p := ⟨gb419, 12, none⟩) (Kd.N_mono HO424.out (fun k_ hk => (⟨hk, hk⟩ : _ ∧ k_ ≠ gb419))) (fun _ hk => hk.2) (.slice Ao38 t422.length co38)) (fun _ h_ => h_.1))) hb); have n1_ := Aside0.mk (blk_below (g := gb419) (o := .cells #[.int .i64 a0_0, .int .i64 a0_1, .int .i64 a0_2, .int .i64 a0_3, .int .i64 a0_4, .int .i64 a0_5, .int .i64 a0_6, .int .i64 a0_7, .int .i64 a0_8, .int .i64 a0_9, .int .i64 a0_10, .slice A0_11 l0_11.length c0_11, .slice Ao38 t422.length co38] 42 (0, 0)) (by (with_reducible repeat (first | refine blk_drewN ?_ _ | refine blk_drew ?_ | refine blk_alloc ?_ _)); refine blk_put (cs := #[.int .i64 a0_0, .int .i64 a0_1, .int .i64 a0_2, .int .i64 a0_3, .int .i64 a0_4, .int .i64 a0_5, .int .i64 a0_6, .int .i64 a0_7, .int .i64 a0_8, .int .i64 a0_9, .int .i64 a0_10, .slice A0_11 l0_11.length c0_11, .slice A0_12 l0_12.length c0_12]) ?_ 12 _ rfl; (with_reducible repeat (first | refine blk_drewN ?_ _ | refine blk_drew ?_ | refine blk_alloc ?_ _)); exact BK419.out) hb); have n2_ := Aside0.mk (below_step (by repeat (first | (with_reducible first | exact HB.out | apply below_alloc | apply pw_below_drewN | apply below_drew1 | refine below_set ?_ GE419.out) | exact HB.out)) hb); clear HO424; clear BK419; clear HB; have HO424 := n0_; have BK419 := n1_; have HB := n2_; clear n0_ n1_ n2_; (try clear hb); (try clear hb2); (try clear hk); (try clear hi)))
            go_ret
            exact ⟨by first | rfl | (simp [errW_none, errW_some] <;> rfl) | (simp [*, errW_none, errW_some] <;> rfl), by repeat (first | (with_reducible first | exact HB.out | apply below_alloc | apply pw_below_drewN | apply below_drew1 | refine below_set ?_ GE419.out) | exact HB.out)⟩
        · rw [if_neg c15] at H
          have c15b0 : (t425 == 0) = false := beq_eq_false_iff_ne.mpr c15
          have c15b1 : (t425 != 0) = true := bne_iff_ne.mpr c15
          by_cases c41 : a1 < 0
          · rw [if_pos c41] at H
            have c41b0 : decide (a1 < 0) = true := decide_eq_true c41
            clear c41
            replace H := Option.bind_eq_some_iff.mp H
            obtain ⟨t429, A420, H⟩ := H
            replace H : (some t429) = some r := H
            have A42 := Aside0.mk A420
            clear A420
            obtain rfl := Option.some.inj H
            have hcz43_0 : wc.cell? ⟨gb419, 0, none⟩ = some (.int .i64 a0_0) := (blk_cell BK419.out 0).trans rfl
            have hcz43_1 : wc.cell? ⟨gb419, 1, none⟩ = some (.int .i64 a0_1) := (blk_cell BK419.out 1).trans rfl
            have hcz43_2 : wc.cell? ⟨gb419, 2, none⟩ = some (.int .i64 a0_2) := (blk_cell BK419.out 2).trans rfl
            have hcz43_3 : wc.cell? ⟨gb419, 3, none⟩ = some (.int .i64 a0_3) := (blk_cell BK419.out 3).trans rfl
            have hcz43_4 : wc.cell? ⟨gb419, 4, none⟩ = some (.int .i64 a0_4) := (blk_cell BK419.out 4).trans rfl
            have hcz43_5 : wc.cell? ⟨gb419, 5, none⟩ = some (.int .i64 a0_5) := (blk_cell BK419.out 5).trans rfl
            have hcz43_6 : wc.cell? ⟨gb419, 6, none⟩ = some (.int .i64 a0_6) := (blk_cell BK419.out 6).trans rfl
            have hcz43_7 : wc.cell? ⟨gb419, 7, none⟩ = some (.int .i64 a0_7) := (blk_cell BK419.out 7).trans rfl
            have hcz43_8 : wc.cell? ⟨gb419, 8, none⟩ = some (.int .i64 a0_8) := (blk_cell BK419.out 8).trans rfl
            have hcz43_9 : wc.cell? ⟨gb419, 9, none⟩ = some (.int .i64 a0_9) := (blk_cell BK419.out 9).trans rfl
            have hcz43_10 : wc.cell? ⟨gb419, 10, none⟩ = some (.int .i64 a0_10) := (blk_cell BK419.out 10).trans rfl
            have hcz43_11 : wc.cell? ⟨gb419, 11, none⟩ = some (.slice A0_11 l0_11.length c0_11) := (blk_cell BK419.out 11).trans rfl
            have hcz43_12 : wc.cell? ⟨gb419, 12, none⟩ = some (.slice A0_12 l0_12.length c0_12) := (blk_cell BK419.out 12).trans rfl
            have hfz43_0 := blk_frozen BK419.out 0
            have hfz43_1 := blk_frozen BK419.out 1
            have hfz43_2 := blk_frozen BK419.out 2
            have hfz43_3 := blk_frozen BK419.out 3
            have hfz43_4 := blk_frozen BK419.out 4
            have hfz43_5 := blk_frozen BK419.out 5
            have hfz43_6 := blk_frozen BK419.out 6
            have hfz43_7 := blk_frozen BK419.out 7
            have hfz43_8 := blk_frozen BK419.out 8
            have hfz43_9 := blk_frozen BK419.out 9
            have hfz43_10 := blk_frozen BK419.out 10
            have hfz43_11 := blk_frozen BK419.out 11
            have hfz43_12 := blk_frozen BK419.out 12
            go_wp2_with (first | ((with_reducible refine gate_callee (f := 54) rfl ?_); refine goesL_ (some 18) rfl rfl Try.func54 (by kernel_rfl) rfl #[.slice A0_12 l0_12.length c0_12, .int .i64 53, .int .i64 a1, .int .i64 1] rfl (by (try simp only [List.map_toArray, List.map_cons, List.map_nil]); first | done | rfl | (simp only [List.length_drop, List.length_take]; rfl)) ?_; (with_reducible refine (opts_Set.calls kj2 _ _ l0_12 53 a1 1 t422 t425 _ ?side1 ?side2 A14.out).mono ?_); (case side1 => repeat (first | exact (Kd.C_below HR0_12.out HB.out) | (with_reducible refine Kd.C_alloc ?_ _) | (with_reducible refine Kd.C_drewN ?_ _) | (with_reducible refine Kd.C_drew ?_))); (case side2 => exact HC0_12.out); rintro e w44 ⟨v423, rfl, ho0, hb⟩; refine ⟨_, rfl, ?_⟩; have n0_ := Aside0.mk (Kd.N_lower (Kd.N_mono (ok' := fun k_ => k_ ≠ gb419) ho0 (fun k_ hk_ => (Kd.freshB (g := gb419) (o := .cells #[.int .i64 a0_0, .int .i64 a0_1, .int .i64 a0_2, .int .i64 a0_3, .int .i64 a0_4, .int .i64 a0_5, .int .i64 a0_6, .int .i64 a0_7, .int .i64 a0_8, .int .i64 a0_9, .int .i64 a0_10, .slice A0_11 l0_11.length c0_11, .slice A0_12 l0_12.length c0_12] 42 (0, 0)) (by (with_reducible repeat (first | refine blk_drewN ?_ _ | refine blk_drew ?_ | refine blk_alloc ?_ _)); exact BK419.out) k_ hk_))) (below_size (by repeat (first | (with_reducible first | exact HB.out | apply below_alloc | apply pw_below_drewN | apply below_drew1 | refine below_set ?_ GE419.out) | exact HB.out)))); have n1_ := Aside0.mk (blk_below (g := gb419) (o := .cells #[.int .i64 a0_0, .int .i64 a0_1, .int .i64 a0_2, .int .i64 a0_3, .int .i64 a0_4, .int .i64 a0_5, .int .i64 a0_6, .int .i64 a0_7, .int .i64 a0_8, .int .i64 a0_9, .int .i64 a0_10, .slice A0_11 l0_11.length c0_11, .slice A0_12 l0_12.length c0_12] 42 (0, 0)) (by (with_reducible repeat (first | refine blk_drewN ?_ _ | refine blk_drew ?_ | refine blk_alloc ?_ _)); exact BK419.out) hb); have n2_ := Aside0.mk (below_step (by repeat (first | (with_reducible first | exact HB.out | apply below_alloc | apply pw_below_drewN | apply below_drew1 | refine below_set ?_ GE419.out) | exact HB.out)) hb); clear BK419; clear HB; have HO424 := n0_; have BK419 := n1_; have HB := n2_; clear n0_ n1_ n2_; (try clear hb); (try clear hb2); (try clear hk); (try clear hi); (try clear ho0)) | (go_at_call 31; (with_reducible refine (boarderlaw16_knows.calls kj2  t429 _ A42.out).mono ?_); rintro e w45 ⟨rfl, hb⟩; have n0_ := Aside0.mk (Kd.N_below (by (with_reducible repeat (first | apply Kd.N_alloc | apply Kd.N_drewN | apply Kd.N_drew)); exact HO424.out) hb); have n1_ := Aside0.mk (blk_below (g := gb419) (o := .cells #[.int .i64 a0_0, .int .i64 a0_1, .int .i64 a0_2, .int .i64 a0_3, .int .i64 a0_4, .int .i64 a0_5, .int .i64 a0_6, .int .i64 a0_7, .int .i64 a0_8, .int .i64 a0_9, .int .i64 a0_10, .slice A0_11 l0_11.length c0_11, .slice A0_12 l0_12.length c0_12] 42 (0, 0)) (by (with_reducible repeat (first | refine blk_drewN ?_ _ | refine blk_drew ?_ | refine blk_alloc ?_ _)); exact BK419.out) hb); have n2_ := Aside0.mk (below_step (by repeat (first | (with_reducible first | exact HB.out | apply below_alloc | apply pw_below_drewN | apply below_drew1 | refine below_set ?_ GE419.out) | exact HB.out)) hb); clear HO424; clear BK419; clear HB; have HO424 := n0_; have BK419 := n1_; have HB := n2_; clear n0_ n1_ n2_; (try clear hb); (try clear hb2); (try clear hk); (try clear hi)))
            go_ret
            exact ⟨by first | rfl | (simp [errW_none, errW_some] <;> rfl) | (simp [*, errW_none, errW_some] <;> rfl), by repeat (first | (with_reducible first | exact HB.out | apply below_alloc | apply pw_below_drewN | apply below_drew1 | refine below_set ?_ GE419.out) | exact HB.out)⟩
          · rw [if_neg c41] at H
            have c41b0 : decide (a1 < 0) = false := decide_eq_false c41
            clear c41
            by_cases c46 : a1 > 255
            · rw [if_pos c46] at H
              have c46b0 : decide (255 < a1) = true := decide_eq_true c46
              clear c46
              replace H := Option.bind_eq_some_iff.mp H
              obtain ⟨t430, A470, H⟩ := H
              replace H : (some t430) = some r := H
              have A47 := Aside0.mk A470
              clear A470
              obtain rfl := Option.some.inj H
              have hcz48_0 : wc.cell? ⟨gb419, 0, none⟩ = some (.int .i64 a0_0) := (blk_cell BK419.out 0).trans rfl
              have hcz48_1 : wc.cell? ⟨gb419, 1, none⟩ = some (.int .i64 a0_1) := (blk_cell BK419.out 1).trans rfl
              have hcz48_2 : wc.cell? ⟨gb419, 2, none⟩ = some (.int .i64 a0_2) := (blk_cell BK419.out 2).trans rfl
              have hcz48_3 : wc.cell? ⟨gb419, 3, none⟩ = some (.int .i64 a0_3) := (blk_cell BK419.out 3).trans rfl
              have hcz48_4 : wc.cell? ⟨gb419, 4, none⟩ = some (.int .i64 a0_4) := (blk_cell BK419.out 4).trans rfl
              have hcz48_5 : wc.cell? ⟨gb419, 5, none⟩ = some (.int .i64 a0_5) := (blk_cell BK419.out 5).trans rfl
              have hcz48_6 : wc.cell? ⟨gb419, 6, none⟩ = some (.int .i64 a0_6) := (blk_cell BK419.out 6).trans rfl
              have hcz48_7 : wc.cell? ⟨gb419, 7, none⟩ = some (.int .i64 a0_7) := (blk_cell BK419.out 7).trans rfl
              have hcz48_8 : wc.cell? ⟨gb419, 8, none⟩ = some (.int .i64 a0_8) := (blk_cell BK419.out 8).trans rfl
              have hcz48_9 : wc.cell? ⟨gb419, 9, none⟩ = some (.int .i64 a0_9) := (blk_cell BK419.out 9).trans rfl
              have hcz48_10 : wc.cell? ⟨gb419, 10, none⟩ = some (.int .i64 a0_10) := (blk_cell BK419.out 10).trans rfl
              have hcz48_11 : wc.cell? ⟨gb419, 11, none⟩ = some (.slice A0_11 l0_11.length c0_11) := (blk_cell BK419.out 11).trans rfl
              have hcz48_12 : wc.cell? ⟨gb419, 12, none⟩ = some (.slice A0_12 l0_12.length c0_12) := (blk_cell BK419.out 12).trans rfl
              have hfz48_0 := blk_frozen BK419.out 0
              have hfz48_1 := blk_frozen BK419.out 1
              have hfz48_2 := blk_frozen BK419.out 2
              have hfz48_3 := blk_frozen BK419.out 3
              have hfz48_4 := blk_frozen BK419.out 4
              have hfz48_5 := blk_frozen BK419.out 5
              have hfz48_6 := blk_frozen BK419.out 6
              have hfz48_7 := blk_frozen BK419.out 7
              have hfz48_8 := blk_frozen BK419.out 8
              have hfz48_9 := blk_frozen BK419.out 9
              have hfz48_10 := blk_frozen BK419.out 10
              have hfz48_11 := blk_frozen BK419.out 11
              have hfz48_12 := blk_frozen BK419.out 12
              go_wp2_with (first | ((with_reducible refine gate_callee (f := 54) rfl ?_); refine goesL_ (some 18) rfl rfl Try.func54 (by kernel_rfl) rfl #[.slice A0_12 l0_12.length c0_12, .int .i64 53, .int .i64 a1, .int .i64 1] rfl (by (try simp only [List.map_toArray, List.map_cons, List.map_nil]); first | done | rfl | (simp only [List.length_drop, List.length_take]; rfl)) ?_; (with_reducible refine (opts_Set.calls kj2 _ _ l0_12 53 a1 1 t422 t425 _ ?side1 ?side2 A14.out).mono ?_); (case side1 => repeat (first | exact (Kd.C_below HR0_12.out HB.out) | (with_reducible refine Kd.C_alloc ?_ _) | (with_reducible refine Kd.C_drewN ?_ _) | (with_reducible refine Kd.C_drew ?_))); (case side2 => exact HC0_12.out); rintro e w49 ⟨v423, rfl, ho0, hb⟩; refine ⟨_, rfl, ?_⟩; have n0_ := Aside0.mk (Kd.N_lower (Kd.N_mono (ok' := fun k_ => k_ ≠ gb419) ho0 (fun k_ hk_ => (Kd.freshB (g := gb419) (o := .cells #[.int .i64 a0_0, .int .i64 a0_1, .int .i64 a0_2, .int .i64 a0_3, .int .i64 a0_4, .int .i64 a0_5, .int .i64 a0_6, .int .i64 a0_7, .int .i64 a0_8, .int .i64 a0_9, .int .i64 a0_10, .slice A0_11 l0_11.length c0_11, .slice A0_12 l0_12.length c0_12] 42 (0, 0)) (by (with_reducible repeat (first | refine blk_drewN ?_ _ | refine blk_drew ?_ | refine blk_alloc ?_ _)); exact BK419.out) k_ hk_))) (below_size (by repeat (first | (with_reducible first | exact HB.out | apply below_alloc | apply pw_below_drewN | apply below_drew1 | refine below_set ?_ GE419.out) | exact HB.out)))); have n1_ := Aside0.mk (blk_below (g := gb419) (o := .cells #[.int .i64 a0_0, .int .i64 a0_1, .int .i64 a0_2, .int .i64 a0_3, .int .i64 a0_4, .int .i64 a0_5, .int .i64 a0_6, .int .i64 a0_7, .int .i64 a0_8, .int .i64 a0_9, .int .i64 a0_10, .slice A0_11 l0_11.length c0_11, .slice A0_12 l0_12.length c0_12] 42 (0, 0)) (by (with_reducible repeat (first | refine blk_drewN ?_ _ | refine blk_drew ?_ | refine blk_alloc ?_ _)); exact BK419.out) hb); have n2_ := Aside0.mk (below_step (by repeat (first | (with_reducible first | exact HB.out | apply below_alloc | apply pw_below_drewN | apply below_drew1 | refine below_set ?_ GE419.out) | exact HB.out)) hb); clear BK419; clear HB; have HO424 := n0_; have BK419 := n1_; have HB := n2_; clear n0_ n1_ n2_; (try clear hb); (try clear hb2); (try clear hk); (try clear hi); (try clear ho0)) | (go_at_call 31; (with_reducible refine (boarderlaw16_knows.calls kj2  t430 _ A47.out).mono ?_); rintro e w50 ⟨rfl, hb⟩; have n0_ := Aside0.mk (Kd.N_below (by (with_reducible repeat (first | apply Kd.N_alloc | apply Kd.N_drewN | apply Kd.N_drew)); exact HO424.out) hb); have n1_ := Aside0.mk (blk_below (g := gb419) (o := .cells #[.int .i64 a0_0, .int .i64 a0_1, .int .i64 a0_2, .int .i64 a0_3, .int .i64 a0_4, .int .i64 a0_5, .int .i64 a0_6, .int .i64 a0_7, .int .i64 a0_8, .int .i64 a0_9, .int .i64 a0_10, .slice A0_11 l0_11.length c0_11, .slice A0_12 l0_12.length c0_12] 42 (0, 0)) (by (with_reducible repeat (first | refine blk_drewN ?_ _ | refine blk_drew ?_ | refine blk_alloc ?_ _)); exact BK419.out) hb); have n2_ := Aside0.mk (below_step (by repeat (first | (with_reducible first | exact HB.out | apply below_alloc | apply pw_below_drewN | apply below_drew1 | refine below_set ?_ GE419.out) | exact HB.out)) hb); clear HO424; clear BK419; clear HB; have HO424 := n0_; have BK419 := n1_; have HB := n2_; clear n0_ n1_ n2_; (try clear hb); (try clear hb2); (try clear hk); (try clear hi)))
              go_ret
              exact ⟨by first | rfl | (simp [errW_none, errW_some] <;> rfl) | (simp [*, errW_none, errW_some] <;> rfl), by repeat (first | (with_reducible first | exact HB.out | apply below_alloc | apply pw_below_drewN | apply below_drew1 | refine below_set ?_ GE419.out) | exact HB.out)⟩
            · rw [if_neg c46] at H
              have c46b0 : decide (255 < a1) = false := decide_eq_false c46
              clear c46
              obtain rfl := Option.some.inj H
              have hcz51_0 : wc.cell? ⟨gb419, 0, none⟩ = some (.int .i64 a0_0) := (blk_cell BK419.out 0).trans rfl
              have hcz51_1 : wc.cell? ⟨gb419, 1, none⟩ = some (.int .i64 a0_1) := (blk_cell BK419.out 1).trans rfl
              have hcz51_2 : wc.cell? ⟨gb419, 2, none⟩ = some (.int .i64 a0_2) := (blk_cell BK419.out 2).trans rfl
              have hcz51_3 : wc.cell? ⟨gb419, 3, none⟩ = some (.int .i64 a0_3) := (blk_cell BK419.out 3).trans rfl
              have hcz51_4 : wc.cell? ⟨gb419, 4, none⟩ = some (.int .i64 a0_4) := (blk_cell BK419.out 4).trans rfl
              have hcz51_5 : wc.cell? ⟨gb419, 5, none⟩ = some (.int .i64 a0_5) := (blk_cell BK419.out 5).trans rfl
              have hcz51_6 : wc.cell? ⟨gb419, 6, none⟩ = some (.int .i64 a0_6) := (blk_cell BK419.out 6).trans rfl
              have hcz51_7 : wc.cell? ⟨gb419, 7, none⟩ = some (.int .i64 a0_7) := (blk_cell BK419.out 7).trans rfl
              have hcz51_8 : wc.cell? ⟨gb419, 8, none⟩ = some (.int .i64 a0_8) := (blk_cell BK419.out 8).trans rfl
              have hcz51_9 : wc.cell? ⟨gb419, 9, none⟩ = some (.int .i64 a0_9) := (blk_cell BK419.out 9).trans rfl
              have hcz51_10 : wc.cell? ⟨gb419, 10, none⟩ = some (.int .i64 a0_10) := (blk_cell BK419.out 10).trans rfl
              have hcz51_11 : wc.cell? ⟨gb419, 11, none⟩ = some (.slice A0_11 l0_11.length c0_11) := (blk_cell BK419.out 11).trans rfl
              have hcz51_12 : wc.cell? ⟨gb419, 12, none⟩ = some (.slice A0_12 l0_12.length c0_12) := (blk_cell BK419.out 12).trans rfl
              have hfz51_0 := blk_frozen BK419.out 0
              have hfz51_1 := blk_frozen BK419.out 1
              have hfz51_2 := blk_frozen BK419.out 2
              have hfz51_3 := blk_frozen BK419.out 3
              have hfz51_4 := blk_frozen BK419.out 4
              have hfz51_5 := blk_frozen BK419.out 5
              have hfz51_6 := blk_frozen BK419.out 6
              have hfz51_7 := blk_frozen BK419.out 7
              have hfz51_8 := blk_frozen BK419.out 8
              have hfz51_9 := blk_frozen BK419.out 9
              have hfz51_10 := blk_frozen BK419.out 10
              have hfz51_11 := blk_frozen BK419.out 11
              have hfz51_12 := blk_frozen BK419.out 12
              go_wp2_with (first | ((with_reducible refine gate_callee (f := 54) rfl ?_); refine goesL_ (some 18) rfl rfl Try.func54 (by kernel_rfl) rfl #[.slice A0_12 l0_12.length c0_12, .int .i64 53, .int .i64 a1, .int .i64 1] rfl (by (try simp only [List.map_toArray, List.map_cons, List.map_nil]); first | done | rfl | (simp only [List.length_drop, List.length_take]; rfl)) ?_; (with_reducible refine (opts_Set.calls kj2 _ _ l0_12 53 a1 1 t422 t425 _ ?side1 ?side2 A14.out).mono ?_); (case side1 => repeat (first | exact (Kd.C_below HR0_12.out HB.out) | (with_reducible refine Kd.C_alloc ?_ _) | (with_reducible refine Kd.C_drewN ?_ _) | (with_reducible refine Kd.C_drew ?_))); (case side2 => exact HC0_12.out); rintro e w52 ⟨v423, rfl, ho0, hb⟩; refine ⟨_, rfl, ?_⟩; have n0_ := Aside0.mk (Kd.N_lower (Kd.N_mono (ok' := fun k_ => k_ ≠ gb419) ho0 (fun k_ hk_ => (Kd.freshB (g := gb419) (o := .cells #[.int .i64 a0_0, .int .i64 a0_1, .int .i64 a0_2, .int .i64 a0_3, .int .i64 a0_4, .int .i64 a0_5, .int .i64 a0_6, .int .i64 a0_7, .int .i64 a0_8, .int .i64 a0_9, .int .i64 a0_10, .slice A0_11 l0_11.length c0_11, .slice A0_12 l0_12.length c0_12] 42 (0, 0)) (by (with_reducible repeat (first | refine blk_drewN ?_ _ | refine blk_drew ?_ | refine blk_alloc ?_ _)); exact BK419.out) k_ hk_))) (below_size (by repeat (first | (with_reducible first | exact HB.out | apply below_alloc | apply pw_below_drewN | apply below_drew1 | refine below_set ?_ GE419.out) | exact HB.out)))); have n1_ := Aside0.mk (blk_below (g := gb419) (o := .cells #[.int .i64 a0_0, .int .i64 a0_1, .int .i64 a0_2, .int .i64 a0_3, .int .i64 a0_4, .int .i64 a0_5, .int .i64 a0_6, .int .i64 a0_7, .int .i64 a0_8, .int .i64 a0_9, .int .i64 a0_10, .slice A0_11 l0_11.length c0_11, .slice A0_12 l0_12.length c0_12] 42 (0, 0)) (by (with_reducible repeat (first | refine blk_drewN ?_ _ | refine blk_drew ?_ | refine blk_alloc ?_ _)); exact BK419.out) hb); have n2_ := Aside0.mk (below_step (by repeat (first | (with_reducible first | exact HB.out | apply below_alloc | apply pw_below_drewN | apply below_drew1 | refine below_set ?_ GE419.out) | exact HB.out)) hb); clear BK419; clear HB; have HO424 := n0_; have BK419 := n1_; have HB := n2_; clear n0_ n1_ n2_; (try clear hb); (try clear hb2); (try clear hk); (try clear hi); (try clear ho0)))
              go_ret
              exact ⟨by first | rfl | (simp [errW_none, errW_some] <;> rfl) | (simp [*, errW_none, errW_some] <;> rfl), by repeat (first | (with_reducible first | exact HB.out | apply below_alloc | apply pw_below_drewN | apply below_drew1 | refine below_set ?_ GE419.out) | exact HB.out)⟩

/-- THE ONE PURE STATEMENT of boarderlaw16_ClassOthers: yours. -/
def boarderlaw16_ClassOthers.Pure : Prop := ∀ (a0_0 : Int) (a0_1 : Int) (a0_2 : Int) (a0_3 : Int) (a0_4 : Int) (a0_5 : Int) (a0_6 : Int) (a0_7 : Int) (a0_8 : Int) (a0_9 : Int) (a0_10 : Int) (l0_11 : List Int) (l0_12 : List (S70)) (a1 : Int), (Lit.int .i64 a0_0).wf = true → (Lit.int .i64 a0_1).wf = true → (Lit.int .i64 a0_2).wf = true → (Lit.int .i64 a0_3).wf = true → (Lit.int .i64 a0_4).wf = true → (Lit.int .i64 a0_5).wf = true → (Lit.int .i64 a0_6).wf = true → (Lit.int .i64 a0_7).wf = true → (Lit.int .i64 a0_8).wf = true → (Lit.int .i64 a0_9).wf = true → (Lit.int .i64 a0_10).wf = true → l0_11.length ≤ maxLen → (∀ y0 ∈ l0_11, (Lit.int .u8 y0).wf = true) → l0_12.length ≤ maxLen → (∀ y0 ∈ l0_12, wf70 y0) → (Lit.int .i64 a1).wf = true → ∃ k, boarderlaw16_ClassOthers.f k a0_0 a0_1 a0_2 a0_3 a0_4 a0_5 a0_6 a0_7 a0_8 a0_9 a0_10 l0_11 l0_12 a1 = some true
theorem boarderlaw16_ClassOthers.walk (P : boarderlaw16_ClassOthers.Pure) (a0_0 : Int) (a0_1 : Int) (a0_2 : Int) (a0_3 : Int) (a0_4 : Int) (a0_5 : Int) (a0_6 : Int) (a0_7 : Int) (a0_8 : Int) (a0_9 : Int) (a0_10 : Int) (A0_11 : Option Addr) (c0_11 : Nat) (l0_11 : List Int) (A0_12 : Option Addr) (c0_12 : Nat) (l0_12 : List (S70)) (a1 : Int) (w : World) (hw0_0 : (Lit.int .i64 a0_0).wf = true) (hw0_1 : (Lit.int .i64 a0_1).wf = true) (hw0_2 : (Lit.int .i64 a0_2).wf = true) (hw0_3 : (Lit.int .i64 a0_3).wf = true) (hw0_4 : (Lit.int .i64 a0_4).wf = true) (hw0_5 : (Lit.int .i64 a0_5).wf = true) (hw0_6 : (Lit.int .i64 a0_6).wf = true) (hw0_7 : (Lit.int .i64 a0_7).wf = true) (hw0_8 : (Lit.int .i64 a0_8).wf = true) (hw0_9 : (Lit.int .i64 a0_9).wf = true) (hw0_10 : (Lit.int .i64 a0_10).wf = true) (hr0_11 : Kd.C (Kd.int .u8) w A0_11 l0_11.length l0_11) (hc0_11 : l0_11.length ≤ c0_11) (hm0_11 : l0_11.length ≤ maxLen) (hw0_11 : ∀ y0 ∈ l0_11, (Lit.int .u8 y0).wf = true) (hr0_12 : Kd.C k70 w A0_12 l0_12.length l0_12) (hc0_12 : l0_12.length ≤ c0_12) (hm0_12 : l0_12.length ≤ maxLen) (hw0_12 : ∀ y0 ∈ l0_12, wf70 y0) (w1 : (Lit.int .i64 a1).wf = true) :
    Calls Try.prog 18 #[.agg #[.int .i64 a0_0, .int .i64 a0_1, .int .i64 a0_2, .int .i64 a0_3, .int .i64 a0_4, .int .i64 a0_5, .int .i64 a0_6, .int .i64 a0_7, .int .i64 a0_8, .int .i64 a0_9, .int .i64 a0_10, .slice A0_11 l0_11.length c0_11, .slice A0_12 l0_12.length c0_12], .int .i64 a1] w fun e w' => e = .returned (.bool true) ∧ Below w.heap.size w w' := by
  obtain ⟨k, h⟩ := P a0_0 a0_1 a0_2 a0_3 a0_4 a0_5 a0_6 a0_7 a0_8 a0_9 a0_10 l0_11 l0_12 a1 hw0_0 hw0_1 hw0_2 hw0_3 hw0_4 hw0_5 hw0_6 hw0_7 hw0_8 hw0_9 hw0_10 hm0_11 hw0_11 hm0_12 hw0_12 w1
  refine (boarderlaw16_ClassOthers.calls k a0_0 a0_1 a0_2 a0_3 a0_4 a0_5 a0_6 a0_7 a0_8 a0_9 a0_10 _ _ l0_11 _ _ l0_12 a1 true w hr0_11 hc0_11 hr0_12 hc0_12 h).mono ?_
  rintro e w' ⟨rfl, hd⟩
  exact ⟨rfl, hd⟩

end Go.Proofs.Ytiklcnlehlpdaaa.POps
